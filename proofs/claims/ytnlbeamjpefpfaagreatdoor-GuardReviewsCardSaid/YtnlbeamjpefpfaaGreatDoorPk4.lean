/- The law GuardReviews: pack 4 of its texts. -/
import Derived.Shelf.Small.Strs
import Derived.Shelf.Small.Wraps
import Derived.Shelf.Strconv.AtoiAll
import Derived.Shelf.Strconv.ErrVarAll
import Derived.Shelf.Strings.Search1
import Derived.Test.YtnlbeamjpefpfaaGreatDoorProg
import Derived.KernelRfl
import Derived.WalkKit
import Derived.BigCall
import Derived.Test.YtnlbeamjpefpfaaGreatDoorPk1
import Derived.Test.YtnlbeamjpefpfaaGreatDoorPk2
import Derived.Test.YtnlbeamjpefpfaaGreatDoorPk3
set_option linter.unusedSimpArgs false
set_option linter.unusedVariables false
namespace Go.Bf
open Go Go.Ab
inductive Rch (a:PS):PS→Prop where
 |refl:Rch a a
 |wrong {b:PS} (e p:Int):Rch a b→(e=5∨e=6)→(∃i,i≤b.pos∧p=(b.ts.getD i ⟨7,0,0,[]⟩).pos)→Rch a (bz b e p)
 |next {b:PS}:Rch a b→b.bad=0→(aJ b).kind≠7→Rch a (aY b)
theorem Rch.trans {a b c:PS} (x:Rch a b) (y:Rch b c):Rch a c:=by
 induction y with
 |refl=>exact x
 |wrong e p _ h1 h2 ih=>exact .wrong e p ih h1 h2
 |next _ h1 h2 ih=>exact .next ih h1 h2
theorem jv (st:PS):Rch st (bf st):= .wrong _ _ .refl (.inl rfl) ⟨st.pos,Nat.le_refl _,rfl⟩
theorem oX (st:PS) (b:Bool):Rch st (bB st b):=by
 unfold bB; split
 ·exact .wrong _ _ .refl (.inr rfl) ⟨st.pos,Nat.le_refl _,rfl⟩
 ·exact .refl
theorem zc {st:PS} {s:Txt} (h:isD st s=true):st.bad=0:=by
 simp only [isD,Bool.and_eq_true,beq_iff_eq] at h; exact h.1
theorem mK {st:PS} {s:Txt} (h:isD st s=true):Rch st (aY st):= .next .refl (zc h) (cC h)
theorem HK (st:PS) (s:Txt):Rch st (cm st s).2:=by
 unfold cm; split
 ·rename_i h; exact mK h
 ·exact .refl
theorem kR (st:PS) (s:Txt):Rch st (dH st s):=by
 unfold dH; split
 ·rename_i h; exact mK h
 ·exact jv _
theorem ry (st:PS):Rch st (ck st).2:=by
 unfold ck; split
 ·rename_i h; exact .next .refl h.2 (by rw [h.1]; decide)
 ·simp only; split
  ·exact .refl
  ·exact jv _
theorem ku (st:PS) (ws:List Txt):Rch st (aW st ws).2:=by
 unfold aW; split
 ·split
  ·rename_i h; exact .next .refl h.2 (by rw [h.1]; decide)
  ·exact jv _
 ·exact jv _
theorem A8 (st:PS):Rch st (fA st).2:=(((ku st sO).trans (kR _ [46])).trans (ry _)).trans (HK _ [33])
theorem yc (st:PS):Rch st (aD st).2:=by
 unfold aD;rcases rF st with ⟨e,hk⟩|e
 ·rw [e]; split
  ·rename_i h; exact .next .refl h hk
  ·exact .refl
 ·rw [e,if_neg (oZ st)]; exact jv st
theorem L6 (st:PS):Rch st (opP st).2:=by
 unfold opP;split
 ·rename_i h; exact mK h
 split
 ·rename_i h; exact mK h
 split
 ·rename_i h; exact mK h
 ·exact jv _
theorem ya (st:PS):Rch st (fN st).2:=((A8 st).trans (L6 _)).trans (yc _)
theorem oD {α:Type} {one:PS→α×PS} (ho:∀st,Rch st (one st).2) (w:Txt) (most:Nat):∀(f:Nat) (st:PS) (l:List α),Rch st (fm one w most f st l).2
 |0,st,l=> .refl
 |f+1,st,l=>by
  unfold fm; split
  ·rename_i h
   exact (((mK h).trans (ho _)).trans (oX _ _)).trans (oD ho w most f _ _)
  ·exact .refl
theorem DM (st:PS):Rch st (nh st).2:=(ya st).trans (oD ya _ _ _ _ _)
theorem DN (st:PS):Rch st (o8 st).2:=(((kR st [40]).trans (DM _)).trans (oD DM orT 8 st.ts.length _ [(nh (dH st [40])).1])).trans (kR _ [41])
theorem DO (st:PS):Rch st (fZ st).2:=by
 unfold fZ; split
 ·rename_i h; exact ((mK h).trans (DN _)).trans (oD DN _ _ _ _ _)
 ·exact .refl
theorem JD (st:PS):Rch st (vI st).2:=((ku st sk).trans (ku _ kI)).trans (ry _)
theorem Bc (st:PS):Rch st (fK st).2:=oD JD _ _ _ _ _
theorem oY {a b:PS} (h:Rch a b):b.ts=a.ts∧a.pos≤b.pos∧b.rules=a.rules:=by
 induction h with
 |refl=>exact ⟨rfl,Nat.le_refl _,rfl⟩
 |wrong e p _ _ _ ih=>
  unfold bz; split
  ·exact ih
  ·exact ih
 |next _ _ _ ih=>exact ⟨ih.1,Nat.le_succ_of_le ih.2.1,ih.2.2⟩
theorem Bd {ex:ExF} (he:∀st l,Rch st (ex st l).2) (st:PS) (l:List aN) (b:Bool):Rch st (gA ex st l b).2:=by
 unfold gA; simp only; split
 ·exact he st l
 ·have:=oY (he st l)
  exact .wrong _ _ (he st l) (.inl rfl) ⟨st.pos,this.2.1,by rw [this.1]; rfl⟩
theorem yb {ex:ExF} (he:∀st l,Rch st (ex st l).2):∀(bs:List Bool) (st:PS) (l:List aN),Rch st (iC ex bs st l).2
 | [],st,l=> .refl
 |b::bs,st,l=>by
  unfold iC; split
  ·exact (Bd he st l b).trans (yb he bs _ _)
  ·exact .refl
theorem A9:∀(f:Nat) (st:PS) (l:List aN),Rch st (dP f st l).2
 |0,st,l=> .refl
 |f+1,st,l=>by
  refine Rch.trans ?_ (oX _ _);unfold gZ; split
  ·rename_i h
   exact (mK h).trans (((ku _ jZ).trans (yb (A9 f) _ _ _)).trans (kR _ [41]))
  ·split
   ·exact A8 st
   ·exact yc st
def ifT:Txt:= [105,102]
def mH:Txt:= [112,101,114,109,105,116]
def gW:Txt:= [100,101,110,121]
def mI:Txt:= [112,111,108,105,99,121]
def CL:Txt:= [115,101,116]
def kO:List Txt:= [mI,CL]
def uD:List Txt:= [[100,101,110,121,111,118,101,114],[112,101,114,109,105,116,111,118,101,114],[102,105,114,115,116],[111,110,108,121],[100,101,110,121,117,110,108,101,115,115],[112,101,114,109,105,116,117,110,108,101,115,115]]
def nM (st:PS):List aN×PS:=if isD st ifT=true then gA (dP st.ts.length) (aY st) [] false else ([],st)
theorem HJ (st:PS):Rch st (nM st).2:=by
 unfold nM; split
 ·rename_i h; exact (mK h).trans (Bd (A9 _) _ _ _)
 ·exact .refl
theorem C8 {st:PS} (h:WfP st):Ah st (nM st).2:=by
 unfold nM; split
 ·rename_i hi
  have h1:=dJ h (cC hi);exact h1.trans (vJ (nO _) _ _ _ h1.1).1
 ·exact .refl h
def ng (deny:Bool) (st:PS):cK×PS:=
 (⟨(ck st).1,deny,(fZ (ck st).2).1,(nM (fZ (ck st).2).2).1,(fK (nM (fZ (ck st).2).2).2).1⟩,dH (fK (nM (fZ (ck st).2).2).2).2 [59])
theorem vW (deny:Bool) (st:PS):Rch st (ng deny st).2:=((((ry st).trans (DO _)).trans (HJ _)).trans (Bc _)).trans (kR _ [59])
theorem yM (deny:Bool) {st:PS} (h:WfP st):Ah st (ng deny st).2:=by
 have h1:=kY h;have h2:=yN h1.1;have h3:=C8 h2.1;have h4:=yL h3.1;exact (((h1.trans h2).trans h3).trans h4).trans (ia [59] h4.1)
inductive lM (a:PS):PS→Prop where
 |refl:lM a a
 |small {b c:PS}:lM a b→Rch b c→lM a c
 |rule {b:PS}:lM a b→b.bad=0→b.rules≠64→(aJ b).kind≠7→lM a {aY b with rules:=b.rules+1}
theorem lM.trans {a b c:PS} (x:lM a b) (y:lM b c):lM a c:=by
 induction y with
 |refl=>exact x
 |small _ h1 ih=>exact .small ih h1
 |rule _ h1 h2 h3 ih=>exact .rule ih h1 h2 h3
theorem Rch.big {a b:PS} (h:Rch a b):lM a b:= .small .refl h
def jb:Nat→PS→List cK→List cK×PS
 |0,st,l=>(l,st)
 |f+1,st,l=>if isD st mH=true∨isD st gW=true then
   if l.length=16∨st.rules=64 then (l,bB st true)
   else jb f (ng (isD st gW) {aY st with rules:=st.rules+1}).2 (l++ [(ng (isD st gW) {aY st with rules:=st.rules+1}).1])
  else (l,st)
abbrev PoF:=PS→bD×PS
def iU (pol:PoF) (deep:Bool):Nat→PS→List bD→List bD×PS
 |0,st,l=>(l,st)
 |f+1,st,l=>if isD st mI=true∨isD st CL=true then
   if l.length=16∨deep=true then (l,bB st true)
   else iU pol deep f (pol st).2 (l++ [(pol st).1])
  else (l,st)
def cM (st:PS):(Bool×Txt×Int×fI)×PS:=
 (((aW st kO).1==2,(ck (aW st kO).2).1,(aW (ck (aW st kO).2).2 uD).1,(fZ (aW (ck (aW st kO).2).2 uD).2).1),dH (fZ (aW (ck (aW st kO).2).2 uD).2).2 [123])
theorem Ba (st:PS):Rch st (cM st).2:=((((ku st kO).trans (ry _)).trans (ku _ uD)).trans (DO _)).trans (kR _ [123])
theorem IQ {st:PS} (h:WfP st):Ah st (cM st).2:=by
 have h1:=fQ kO h;have h2:=kY h1.1;have h3:=fQ uD h2.1;have h4:=yN h3.1;exact (((h1.trans h2).trans h3).trans h4).trans (ia [123] h4.1)
def mV (pol:PoF) (deep:Bool) (set:Bool) (st:PS):(List cK×List bD)×PS:=
 if set=true then (([],(iU pol deep 17 st []).1),(iU pol deep 17 st []).2) else (((jb 17 st []).1,[]),(jb 17 st []).2)
def fS:Nat→PoF
 |0,st=>(.mk [] false 0 [] [] [] [],st)
 |r+1,st=>(.mk (cM st).1.2.1 (cM st).1.1 (cM st).1.2.2.1 (cM st).1.2.2.2 (mV (fS r) (r==0) (cM st).1.1 (cM st).2).1.1 (mV (fS r) (r==0) (cM st).1.1 (cM st).2).1.2
   (fK (dH (mV (fS r) (r==0) (cM st).1.1 (cM st).2).2 [125])).1,(fK (dH (mV (fS r) (r==0) (cM st).1.1 (cM st).2).2 [125])).2)
theorem kM {st:PS} {a b:Txt} (h:isD st a=true∨isD st b=true):st.bad=0∧(aJ st).kind≠7:=by
 rcases h with h|h
 ·exact ⟨zc h,cC h⟩
 ·exact ⟨zc h,cC h⟩
theorem uB {st:PS} (h:WfP st) (hk:(aJ st).kind≠7):Ah st {aY st with rules:=st.rules+1}:=dJ h hk
theorem Da:∀(f:Nat) (st:PS) (l:List cK),WfP st→Ah st (jb f st l).2
 |0,st,l,h=> .refl h
 |f+1,st,l,h=>by
  unfold jb; split
  ·rename_i hi
   split
   ·exact jI true h
   ·have h1:=uB h (kM hi).2
    have h2:=yM (isD st gW) h1.1;exact (h1.trans h2).trans (Da f _ _ h2.1)
  ·exact .refl h
theorem Be:∀(f:Nat) (st:PS) (l:List cK),lM st (jb f st l).2
 |0,st,l=> .refl
 |f+1,st,l=>by
  unfold jb; split
  ·rename_i hi
   split
   ·exact (oX st true).big
   ·rename_i hn
    have h1:lM st {aY st with rules:=st.rules+1}:= .rule .refl (kM hi).1 (fun e=>hn (.inr e)) (kM hi).2
    exact (h1.trans (vW (isD st gW) _).big).trans (Be f _ _)
  ·exact .refl
theorem C9 {pol:PoF} (hp:∀st,WfP st→Ah st (pol st).2) (deep:Bool):∀(f:Nat) (st:PS) (l:List bD),WfP st→Ah st (iU pol deep f st l).2
 |0,st,l,h=> .refl h
 |f+1,st,l,h=>by
  unfold iU; split
  ·split
   ·exact jI true h
   ·have h1:=hp st h
    exact h1.trans (C9 hp deep f _ _ h1.1)
  ·exact .refl h
theorem Bb {pol:PoF} (hp:∀st,lM st (pol st).2) (deep:Bool):∀(f:Nat) (st:PS) (l:List bD),lM st (iU pol deep f st l).2
 |0,st,l=> .refl
 |f+1,st,l=>by
  unfold iU; split
  ·split
   ·exact (oX st true).big
   ·exact (hp st).trans (Bb hp deep f _ _)
  ·exact .refl
theorem yK {pol:PoF} (hp:∀st,WfP st→Ah st (pol st).2) (deep set:Bool) {st:PS} (h:WfP st):Ah st (mV pol deep set st).2:=by
 unfold mV; split
 ·exact C9 hp deep _ _ _ h
 ·exact Da _ _ _ h
theorem HI {pol:PoF} (hp:∀st,lM st (pol st).2) (deep set:Bool) (st:PS):lM st (mV pol deep set st).2:=by
 unfold mV; split
 ·exact Bb hp deep _ _ _
 ·exact Be _ _ _
theorem uA:∀(r:Nat) (st:PS),WfP st→Ah st (fS r st).2
 |0,st,h=> .refl h
 |r+1,st,h=>by
  have h1:=IQ h;have h2:=yK (uA r) (r==0) (cM st).1.1 h1.1;have h3:=ia [125] h2.1;exact ((h1.trans h2).trans h3).trans (yL h3.1)
theorem zn:∀(r:Nat) (st:PS),lM st (fS r st).2
 |0,st=> .refl
 |r+1,st=>(((Ba st).big.trans (HI (zn r) _ _ _)).trans (kR _ [125]).big).trans (Bc _).big
theorem sv {a b:PS} (h:lM a b) (h0:a.rules≤64):b.rules≤64:=by
 induction h with
 |refl=>exact h0
 |small _ h1 ih=>rw [(oY h1).2.2]; exact ih
 |rule _ _ h2 _ ih=>show _+1≤64; omega
theorem rZ:∀(f:Nat) (s:Txt) (a:Nat) (out l:List o7),qS f s a out= .ok l→∃pre,l=out++pre++ [⟨7,(a+s.length:Nat),0,[]⟩]∧pre.length≤s.length∧∀t∈pre,(a:Int)≤t.pos∧t.pos<((a+s.length:Nat):Int)
 |0,_,_,_,_,h=>by simp [qS] at h
 |f+1,[],a,out,l,h=>by
  simp only [qS,Lexed.ok.injEq] at h;exact ⟨[],by simp [←h],by simp,by simp⟩
 |f+1,c::r,a,out,l,h=>by
  simp only [qS] at h;split at h
  ·obtain ⟨pre,e1,e2,e3⟩:=rZ f r (a+1) out l h
   have ee:((a+1+r.length:Nat):Int)=((a+(c::r).length:Nat):Int):=by simp only [List.length_cons]; omega
   refine ⟨pre,by rw [e1,ee],by simp only [List.length_cons]; omega,fun t ht=> ?_⟩
   have:=e3 t ht;rw [ee] at this;exact ⟨by omega,this.2⟩
  ·split at h
   ·cases h
   ·rename_i hn
    have hle:=pP (c::r) (by simp)
    obtain ⟨pre,e1,e2,e3⟩:=rZ f _ _ _ l h;have ee:((a+(bL (c::r)).2+((c::r).drop (bL (c::r)).2).length:Nat):Int)=((a+(c::r).length:Nat):Int):=by rw [List.length_drop]; omega
    refine ⟨{(bL (c::r)).1 with pos:=a}::pre,by rw [e1,ee]; simp,by rw [List.length_drop] at e2; simp only [List.length_cons] at e2 hle⊢; omega,fun t ht=> ?_⟩
    rcases List.mem_cons.1 ht with rfl|ht
    ·refine ⟨Int.le_refl _, ?_⟩
     show (a:Int)<_
     simp only [List.length_cons]; omega
    ·have:=e3 t ht
     rw [ee] at this;exact ⟨by omega,this.2⟩
theorem xR {s:Txt} {ts:List o7} (h:pY s= .ok ts):∃pre,ts=pre++ [⟨7,s.length,0,[]⟩]∧pre.length≤s.length∧(∀t∈pre,0≤t.pos∧t.pos<(s.length:Int))∧s.length≤4096:=by
 unfold pY at h;split at h
 ·cases h
 ·rename_i hl
  obtain ⟨pre,e1,e2,e3⟩:=rZ _ _ _ _ _ h;exact ⟨pre,by simpa using e1,e2,by simpa using e3,by omega⟩
theorem FL {s:Txt} {ts:List o7} (h:pY s= .ok ts) (x:Nat) (e p:Int):WfP ⟨ts,0,x,e,p⟩:=by
 obtain ⟨pre,rfl,h2,_,h3⟩:=xR h;refine ⟨by simp,fun i hi hk=> ?_,by simp; omega⟩
 by_cases hl:i<pre.length
 ·simp; omega
 ·exfalso
  simp only [Vb,List.length_singleton] at hi;have:i=pre.length:=by omega
  subst this;apply hk;simp
theorem vu:∀(f:Nat) (s:Txt) (a:Nat) (out:List o7) (e p:Int),qS f s a out= .bad e p→e=5∧0≤p∧(s.length<f→p≤((a+s.length:Nat):Int))
 |0,s,a,out,e,p,h=>by
  simp only [qS,Lexed.bad.injEq] at h;obtain ⟨rfl,rfl⟩:=h;exact ⟨rfl,by omega,by omega⟩
 |f+1,[],a,out,e,p,h=>by simp [qS] at h
 |f+1,c::r,a,out,e,p,h=>by
  simp only [qS] at h;split at h
  ·obtain ⟨h1,h2,h3⟩:=vu f r (a+1) out e p h
   refine ⟨h1,h2,fun hl=> ?_⟩
   simp only [List.length_cons] at hl⊢;have:=h3 (by omega)
   omega
  ·split at h
   ·simp only [Lexed.bad.injEq] at h
    obtain ⟨rfl,rfl⟩:=h;exact ⟨rfl,by omega,fun _=>by omega⟩
   ·obtain ⟨h1,h2,h3⟩:=vu f _ _ _ e p h
    refine ⟨h1,h2,fun hl=> ?_⟩
    have hle:=pP (c::r) (by simp)
    rw [List.length_drop] at h3;have:=h3 (by omega)
    omega
theorem vt {s:Txt} {e a:Int} (h:pY s= .bad e a):(e=5∨e=6)∧0≤a∧a≤s.length:=by
 unfold pY at h;split at h
 ·simp only [Lexed.bad.injEq] at h
  obtain ⟨rfl,rfl⟩:=h;exact ⟨.inr rfl,by omega,by omega⟩
 ·obtain ⟨h1,h2,h3⟩:=vu _ _ _ _ _ _ h
  have:=h3 (by omega)
  exact ⟨.inl h1,h2,by omega⟩
def me:bD:= .mk [] false 0 [] [] [] []
def nq (s:Txt) (x:bD×PS):PS:=
 if (if (aJ x.2).kind=7 then x.2 else bf x.2).bad=0∧fO x.1≠0 then bz (if (aJ x.2).kind=7 then x.2 else bf x.2) 5 s.length else (if (aJ x.2).kind=7 then x.2 else bf x.2)
def vM (s:Txt) (ts:List o7):bD×Int×Int:=
 if (nq s (fS 4 ⟨ts,0,0,0,0⟩)).bad=0 then ((fS 4 ⟨ts,0,0,0,0⟩).1,0,0) else (me,(nq s (fS 4 ⟨ts,0,0,0,0⟩)).bad,(nq s (fS 4 ⟨ts,0,0,0,0⟩)).place)
def aP (s:Txt):bD×Int×Int:=match pY s with
 | .bad e a=>(me,e,a)
 | .ok ts=>vM s ts
end Go.Bf
namespace Go.Proofs.YtnlbeamjpefpfaaGreatDoor
open Go Go.Ab Go.Bf
def Byt (g:FuncId) (p:UInt8→Bool):Prop:=∀(c:UInt8) (h:Heap),ak Tryz.prog g [.v (.int .u8 c.toNat)] h fun r h' =>r= .v (.bool (p c))∧h' =h
theorem kN:Byt 125 dgt:=fun c h=>by
 refine ak.body hU hm Tryz.func125 rfl (by kernel_rfl) 9 rfl [.tmp 2] rfl (U6 rfl) (fun hwf=> ?_)
 cases d1:decide (48≤(c.toNat:Int))<;>cases d2:decide ((c.toNat:Int)≤57)
 all_goals
  simp only [go_sem,d1,d2];exact .same (.refl _) ⟨by simp only [dgt,d1,d2]; rfl,rfl⟩
theorem ES:Byt 160 wrd:=fun c h=>by
 refine ak.body hU hm Tryz.func160 rfl (by kernel_rfl) 17 rfl [.tmp 2] rfl (U6 rfl) (fun hwf=> ?_)
 cases d1:decide (97≤(c.toNat:Int))<;>cases d2:decide ((c.toNat:Int)≤122)<;>cases d3:dgt c<;>cases d4:((c.toNat:Int)==95)
 all_goals
  simp only [go_sem,d1,d2]
  first
   |exact .same (.refl _) ⟨by simp only [wrd,ltr,d1,d2,d3,d4]; rfl,rfl⟩
   |(refine (kN c _).pthen ?_; simp only [go_sem,d3,d4]; exact .same (.refl _) ⟨by simp only [wrd,ltr,d1,d2,d3,d4]; rfl,rfl⟩)
theorem A2:Byt 162 (fun c=> !CC c):=fun c h=>by
 refine ak.body hU hm Tryz.func162 rfl (by kernel_rfl) 17 rfl [.tmp 2] rfl (U6 rfl) (fun hwf=> ?_)
 cases d1:decide (32≤(c.toNat:Int))<;>cases d2:decide ((c.toNat:Int)≤126)<;>cases d3:((c.toNat:Int)==34)<;>cases d4:((c.toNat:Int)==92)
 all_goals
  simp only [go_sem,d1,d2,d3,d4,bne];refine .same (.refl _) ⟨?_,rfl⟩;have e1:decide ((c.toNat:Int)<32)= !decide (32≤(c.toNat:Int)):=by
   by_cases h:(32:Int)≤c.toNat
   ·simp [h,Int.not_lt.2 h]
   ·simp [h,Int.not_le.1 h]
  have e2:decide (126<(c.toNat:Int))= !decide ((c.toNat:Int)≤126):=by
   by_cases h:(c.toNat:Int)≤126
   ·simp [h,Int.not_lt.2 h]
   ·simp [h,Int.not_le.1 h]
  simp only [CC,e1,e2,d1,d2,d3,d4];rfl
theorem JN (p:UInt8→Bool) (s:Txt) (i:Nat) (hi:i<s.length) (h:i≤(s.takeWhile p).length) (hp:p s[i]=true):i+1≤(s.takeWhile p).length:=by
 induction s generalizing i with
 |nil=>cases hi
 |cons c r ih=>
  cases i with
  |zero=>simp only [List.getElem_cons_zero] at hp; simp [hp]
  |succ i=>
   by_cases hc:p c=true
   ·simp only [List.takeWhile_cons,hc,if_true,List.length_cons] at h⊢
    have:=ih i (by simpa using hi) (by omega) (by simpa using hp)
    omega
   ·simp [hc] at h
theorem OT (p:UInt8→Bool) (s:Txt) (i:Nat) (hi:i<s.length) (h:i≤(s.takeWhile p).length) (hp:p s[i]=false):(s.takeWhile p).length=i:=by
 induction s generalizing i with
 |nil=>cases hi
 |cons c r ih=>
  cases i with
  |zero=>simp only [List.getElem_cons_zero] at hp; simp [hp]
  |succ i=>
   by_cases hc:p c=true
   ·simp only [List.takeWhile_cons,hc,if_true,List.length_cons] at h⊢
    rw [ih i (by simpa using hi) (by omega) (by simpa using hp)]
   ·simp [hc] at h
theorem HW (g:FuncId) (p:UInt8→Bool) (hg:Byt g p) (s:Txt) (h:Heap):ak Tryz.prog 159 [.s s, .fn g []] h fun r h' =>r= .v (.int .i64 (s.takeWhile p).length)∧h' =h:=by
 refine ak.body hU hm Tryz.func159 rfl (by kernel_rfl) 20 rfl [.tmp 4] rfl (U6 rfl) (fun hwf=> ?_)
 have hlen:=hwf (.s s) (by simp)
 simp only [wfA,wf1,lim] at hlen;simp only [go_sem];refine .intro (fun m ρ h' =>h' =h∧∃i:Nat,i≤s.length∧m=s.length - i∧i≤(s.takeWhile p).length∧lk ρ 0=some (.s s)∧lk ρ 1=some (.fn g [])∧lk ρ 5=some (.v (.int .i64 i))) s.length ?_ ?_
 ·refine ⟨rfl,0,by omega,rfl,by omega, ?_, ?_, ?_⟩<;>simp only [go_sem]
 ·rintro m ρ h' ⟨rfl,i,hi,rfl,hc,r0,r1,r5⟩
  cases d1:decide ((i:Int)<(s.length:Int))
  ·have hge:i=s.length:=by have:=Va d1; omega
   have:=gN p s;simp only [go_sem,r0,r5,d1];exact .same (.refl _) ⟨by simp only [au]; congr 3; omega,rfl⟩
  ·have hlt:i<s.length:=by have:=U9 d1; omega
   have w1:=Vd i (by omega)
   simp only [go_sem,r0,r1,r5,d1];refine .at i hlt ?_;simp only [go_sem,cr];refine (hg s[i] _).pthen ?_;cases d2:p s[i]
   ·have:=OT p s i hlt hc d2
    simp only [go_sem,r5];exact .same (.refl _) ⟨by rw [this]; rfl,rfl⟩
   ·simp only [go_sem,r5,w1]
    refine ⟨_, ?_,rfl,i+1,by omega,rfl,JN p s i hlt hc d2, ?_, ?_, ?_⟩
    ·omega
    all_goals simp only [go_sem,r0,r1]
theorem vF (s:Txt) (h:Heap):ak Tryz.prog 124 [.s s] h fun r h' =>r= .s (iL s)∧h' =h:=by
 refine ak.body hU hm Tryz.func124 rfl (by kernel_rfl) 12 rfl [.tmp 2] rfl (U6 rfl) (fun hwf=> ?_)
 simp only [go_sem];refine (HW _ _ ES s _).pthen ?_;simp only [go_sem];refine ⟨by omega,by have:=gN wrd s; omega, ?_⟩
 simp only [go_sem,Option.isSome_none,Option.isSome_some,oQ,Int.toNat_natCast,oK];refine ⟨by have:=gN wrd s; omega, ?_⟩
 refine (mB _ _).pthen ?_;cases d1:br (s.takeWhile wrd)
 ·simp only [go_sem]
  exact .same (.refl _) ⟨by simp [iL,d1,au],rfl⟩
 ·simp only [go_sem]
  exact .same (.refl _) ⟨by simp [iL,d1,au],rfl⟩
theorem wr8 {x:Int} (h:0≤x∧x<256):IntKind.u8.wrap x=x:=by
 unfold IntKind.wrap;simp only [IntKind.signed,IntKind.bits];simp;omega
theorem qA (c:UInt8) (h:Heap):ak Tryz.prog 186 [.v (.int .u8 c.toNat)] h fun r h' =>r= .v (.int .i64 (iq c))∧h' =h:=by
 refine ak.body hU hm Tryz.func186 rfl (by kernel_rfl) 20 rfl [.tmp 2] rfl (U6 rfl) (fun hwf=> ?_)
 have hc:=c.toNat_lt;simp only [go_sem];refine (kN c _).pthen ?_;cases d1:dgt c
 case true=>
  have e1:48≤(c.toNat:Int)∧(c.toNat:Int)≤57:=by simpa [dgt] using d1
  have w1:IntKind.u8.wrap ((c.toNat:Int) - 48)=(c.toNat:Int) - 48:=wr8 (by omega)
  have w2:IntKind.i64.wrap ((c.toNat:Int) - 48)=(c.toNat:Int) - 48:=bw _ (by omega)
  simp only [go_sem,w1,w2];exact .same (.refl _) ⟨by simp [iq,d1,au],rfl⟩
 cases d2:decide (97≤(c.toNat:Int))<;>cases d3:decide ((c.toNat:Int)≤102)
 case true.true=>
  have e2:=U9 d2;have e3:=U9 d3;have w1:IntKind.u8.wrap ((c.toNat:Int) - 97)=(c.toNat:Int) - 97:=wr8 (by omega)
  have w2:IntKind.i64.wrap ((c.toNat:Int) - 97)=(c.toNat:Int) - 97:=bw _ (by omega)
  have w3:IntKind.i64.wrap ((c.toNat:Int) - 97+10)=(c.toNat:Int) - 87:=by rw [bw _ (by omega)]; omega
  simp only [go_sem,d2,d3,w1,w2,w3];exact .same (.refl _) ⟨by simp [iq,d1,e2,e3,au],rfl⟩
 all_goals
  simp only [go_sem,d2,d3];simp only [decide_eq_true_eq,decide_eq_false_iff_not] at d2 d3;refine .same (.refl _) ⟨?_,rfl⟩;have:¬(97≤(c.toNat:Int)∧(c.toNat:Int)≤102):=by omega
  simp [iq,d1,this,au]
theorem Ds (c:UInt8): -1≤iq c∧iq c≤15:=by
 unfold iq;split
 ·rename_i h; simp [dgt] at h; omega
 ·split<;>omega
theorem Il (n:Nat) (h:n<256):((UInt8.ofNat n).toNat:Int)=n:=by
 simp; omega
theorem LX (s:Txt) (h:Heap):ak Tryz.prog 163 [.s s] h fun r h' =>(∃x:Int,r= .tup [.v (.int .u8 x), .v (.bool (qV s).isSome)]∧∀c,qV s=some c→x=c.toNat)∧h' =h:=by
 refine ak.body hU hm Tryz.func163 rfl (by kernel_rfl) 38 rfl [.tmp 2, .tmp 3] rfl (U6 rfl) (fun hwf=> ?_)
 have hlen:=hwf (.s s) (by simp)
 simp only [wfA,wf1,lim] at hlen;cases d0:decide ((s.length:Int)<3)
 case true=>
  have e0:s.length<3:=by have:=U9 d0; omega
  have:qV s=none:=by
   match s,e0 with
   | [],_=>rfl
   | [_],_=>rfl
   | [_,_],_=>rfl
  simp only [go_sem,d0];exact .same (.refl _) ⟨⟨0,by rw [this]; rfl,fun c hc=>by rw [this] at hc; cases hc⟩,rfl⟩
 have e0:3≤s.length:=by have:=Va d0; omega
 obtain ⟨b,x,y,t,rfl⟩:∃b x y t,s=b::x::y::t:=by
  match s,e0 with
  |b::x::y::t,_=>exact ⟨b,x,y,t,rfl⟩
 simp only [List.length_cons] at d0;have bad:qV (b::x::y::t)=none→∃z:Int,AV.tup [.v (.int .u8 0), .v (.bool false)]= .tup [.v (.int .u8 z), .v (.bool (qV (b::x::y::t)).isSome)]∧∀c,qV (b::x::y::t)=some c→z=c.toNat:=
  fun e=>⟨0,by rw [e]; rfl,fun c hc=>by rw [e] at hc; cases hc⟩
 cases d1:((b.toNat:Int) !=92)
 case true=>
  have e1:b≠92:=by rintro rfl; simp at d1
  simp only [go_sem,d0];refine .at 0 (by simp) ?_
  simp only [go_sem,cr,List.getElem_cons_zero,d1];exact .same (.refl _) ⟨bad (by simp [qV,e1]),rfl⟩
 have e1:b=92:=by
  have:(b.toNat:Int)=92:=by simpa using d1
  exact UInt8.toNat_inj.1 (by show b.toNat=92; omega)
 simp only [go_sem,d0];refine .at 0 (by simp) ?_
 simp only [go_sem,cr,List.getElem_cons_zero,d1];refine .at 1 (by simp) ?_
 simp only [go_sem,cr,List.getElem_cons_zero,List.getElem_cons_succ];refine (qA x _).pthen ?_;cases d2:decide (iq x<0)
 case true=>
  have e2:=U9 d2;simp only [go_sem,d2];exact .same (.refl _) ⟨bad (by simp [qV]; intros; omega),rfl⟩
 have e2:0≤iq x:=by have:=Va d2; omega
 simp only [go_sem,d2];refine .at 2 (by simp) ?_
 simp only [go_sem,cr,List.getElem_cons_zero,List.getElem_cons_succ];refine (qA y _).pthen ?_;cases d3:decide (iq y<0)
 case true=>
  have e3:=U9 d3;simp only [go_sem,d3];exact .same (.refl _) ⟨bad (by simp [qV]; intros; omega),rfl⟩
 have e3:0≤iq y:=by have:=Va d3; omega
 have hx:=Ds x;have hy:=Ds y;have w1:IntKind.i64.wrap (16*iq x)=16*iq x:=bw _ (by omega)
 have w2:IntKind.i64.wrap (16*iq x+iq y)=16*iq x+iq y:=bw _ (by omega)
 have w3:IntKind.u8.wrap (16*iq x+iq y)=((UInt8.ofNat (16*iq x+iq y).toNat).toNat:Int):=by
  rw [wr8 (by omega),Il _ (by omega)]; omega
 simp only [go_sem,d3];refine .quiet (by kernel_rfl) ?_
 simp only [go_sem];refine .at 1 (by simp) ?_
 simp only [go_sem,cr,List.getElem_cons_zero,List.getElem_cons_succ];refine ⟨_,qA x _, ?_⟩;simp only [go_sem];refine .at 2 (by simp) ?_
 simp only [go_sem,cr,List.getElem_cons_zero,List.getElem_cons_succ];refine ⟨_,qA y _, ?_⟩;simp only [go_sem,w1,w2,w3];refine (A2 _ _).pthen ?_;simp only [go_sem];refine .same (.refl _) ⟨⟨((UInt8.ofNat (16*iq x+iq y).toNat).toNat:Int), ?_,fun c hc=> ?_⟩,rfl⟩
 ·cases d5:CC (UInt8.ofNat (16*iq x+iq y).toNat)<;>simp [qV,e1,e2,e3,d5,au]
 ·simp only [qV] at hc
  split at hc
  ·cases hc; rfl
  ·cases hc
theorem u5z:(U 5).sz=1:=by simp only [go_sem]
theorem u5b:(U 5).bytes=1:=by simp only [go_sem]
theorem lg (l:List UInt8):Sized 1 (l.map cr):=fun z hz=>by
 obtain ⟨c,_,rfl⟩:=List.mem_map.1 hz; rfl
theorem DW (s:Txt) (hs:s.length≤10000) (h:Heap):ak Tryz.prog 127 [.s s] h fun r h' =>r= .tup [.s (wA s).1, .v (.int .i64 (wA s).2)]∧h' =h:=by
 refine ak.body hU hm Tryz.func127 rfl (by kernel_rfl) 50 rfl [.tmp 2, .tmp 3] rfl (U6 rfl) (fun hwf=> ?_)
 simp only [go_sem];refine .intro (fun m ρ h' =>∃(i f:Nat) (y:AV) (out:Txt),Acc U 5 h h' y (out.map cr)∧out.length≤i∧m=s.length+1 - i∧i≤s.length+3∧s.length≤f+i∧rB f (s.drop i) i out=wA s∧lk ρ 0=some (.s s)∧lk ρ 4=some y∧lk ρ 5=some (.v (.int .i64 i))) s.length ?_ ?_
 ·refine ⟨1,s.length, .sl [] .full,[], .full (.refl _),by simp,by omega,by omega,by omega,rfl, ?_, ?_, ?_⟩<;>simp only [go_sem]
 ·rintro m ρ h' ⟨i,f,y,out,hy,hoi,rfl,hi,hf,he,r0,r4,r5⟩
  cases d1:decide ((i:Int)<(s.length:Int))
  ·have hge:s.length≤i:=by have:=Va d1; omega
   have hd:s.drop i= []:=List.drop_of_length_le hge;have:wA s=([],0):=by
    rw [←he,hd];cases f<;>rfl
   simp only [go_sem,r0,r5,d1];exact .mk _ (.refl _) hy.1 ⟨by rw [this]; rfl,rfl⟩
  have hlt:i<s.length:=by have:=U9 d1; omega
  obtain ⟨f,rfl⟩:∃g,f=g+1:=⟨f - 1,by omega⟩
  have hdr:s.drop i=s[i]::s.drop (i+1):=List.drop_eq_getElem_cons hlt;rw [hdr] at he;simp only [rB] at he;have w1:=Vd i (by omega)
  have w3:IntKind.i64.wrap ((i:Int)+3)=((i+3:Nat):Int):=by rw [bw _ (by omega)]; omega
  simp only [go_sem,r0,r5,d1];refine .at i hlt ?_;cases d2:((s[i].toNat:Int)==34)
  case true=>
   have e2:s[i]=34:=by
    have:(s[i].toNat:Int)=34:=by simpa using d2
    exact UInt8.toNat_inj.1 (by show s[i].toNat=34; omega)
   rw [if_pos e2] at he;cases d3:decide (64<(out.length:Int))
   case true=>
    have e3:64<out.length:=by have:=U9 d3; omega
    rw [if_pos e3] at he;simp only [go_sem,r4,cr,d2,hy.len,U7,d3];exact .mk _ (.refl _) hy.1 ⟨by rw [←he]; rfl,rfl⟩
   have e3:¬64<out.length:=by have:=Va d3; omega
   rw [if_neg e3] at he;simp only [go_sem,r4,cr,d2,hy.len,U7,d3];obtain ⟨q,rfl⟩:=hy.row;simp only [go_sem,r5,w1];exact .mk _ (.refl _) hy.1 ⟨by rw [←he]; rfl,rfl⟩
  have e2:s[i]≠34:=by intro e; rw [e] at d2; simp at d2
  rw [if_neg e2] at he;simp only [go_sem,r0,r5,cr,d2];refine .at i hlt ?_;simp only [go_sem,cr];refine (A2 _ _).pthen ?_;cases d4:CC s[i]
  ·rw [if_pos d4] at he
   simp only [go_sem,r0,r4,r5,d4];refine .at i hlt ?_;simp only [go_sem,cr];refine hy.app (zs:= [cr s[i]]) (by rw [u5z]; decide) (by rw [u5b]; decide) (fun k hk=>hk) (by rw [u5z]; exact lg out) (by rw [u5z]; exact lg [s[i]]) (by rw [u5b]; simp; omega) fun y' h2 hy' hk2=> ?_
   simp only [go_sem,r5,w1];refine ⟨_, ?_,i+1,f,y',out++ [s[i]],by simpa using hy',by simp; omega,rfl,by omega,by omega,he, ?_, ?_, ?_⟩
   ·omega
   all_goals simp only [go_sem,r0]
  ·rw [if_neg (by simp [d4])] at he
   simp only [go_sem,r0,r5,d4];refine ⟨by omega, ?_⟩
   simp only [go_sem,Option.isSome_none,Option.isSome_some,j5,Int.toNat_natCast];refine ⟨by omega,by omega, ?_⟩
   refine (LX _ _).mono fun x h2 hx=> ?_
   obtain ⟨⟨v,rfl,hv⟩,rfl⟩:=hx;rw [←hdr] at he;cases e5:qV (s.drop i) with
   |none=>
    rw [e5] at he;simp only [go_sem,Option.isSome_none];exact .mk _ (.refl _) hy.1 ⟨by rw [←he]; rfl,rfl⟩
   |some b=>
    rw [e5] at he;have hvb:=hv b e5;subst hvb;have h3:=AR e5;simp only [List.length_drop] at h3;simp only [go_sem,r4,Option.isSome_some];refine hy.app (zs:= [cr b]) (by rw [u5z]; decide) (by rw [u5b]; decide) (fun k hk=>hk) (by rw [u5z]; exact lg out) (by rw [u5z]; exact lg [b]) (by rw [u5b]; simp; omega) fun y' h2 hy' hk2=> ?_
    simp only [go_sem,r5,w3];refine ⟨_, ?_,i+3,f,y',out++ [b],by simpa using hy',by simp; omega,rfl,by omega,by omega, ?_, ?_, ?_, ?_⟩
    ·omega
    ·simp only [List.drop_drop] at he
     exact he
    all_goals simp only [go_sem,r0]
end Go.Proofs.YtnlbeamjpefpfaaGreatDoor
namespace Go.Bf
open Go Go.Ab
theorem Di (c:UInt8):dgt c=true↔48≤c.toNat∧c.toNat≤57:=by
 simp only [dgt,Bool.and_eq_true,decide_eq_true_eq]; omega
def Ei (acc:Nat) (l:Txt):Nat:=l.foldl (fun n c=>n*10+(c.toNat - 48)) acc
theorem xz (acc:Nat) (c:UInt8) (r:Txt):Ei acc (c::r)=Ei (acc*10+(c.toNat - 48)) r:=List.foldl_cons ..
theorem zY:∀(l:Txt) (acc:Nat),acc≤Ei acc l
 | [],acc=>Nat.le_refl _
 |c::r,acc=>by rw [xz]; exact Nat.le_trans (by omega) (zY r (acc*10+(c.toNat - 48)))
theorem q7:∀(l:Txt) (acc:Nat),(∀c∈l,dgt c=true)→acc<18446744073709551616→
  Lib.parseUint10 acc l=if Ei acc l<18446744073709551616 then .ok (Ei acc l) else .range
 | [],acc,_,ha=>by
  have:Ei acc []=acc:=rfl;rw [this,if_pos ha]; rfl
 |c::r,acc,hd,ha=>by
  have hc:=(Di c).1 (hd c (by simp))
  have hm:=zY r (acc*10+(c.toNat - 48));rw [xz];unfold Lib.parseUint10;rw [if_pos hc];split
  ·rw [if_neg (by omega)]
  ·split
   ·rw [if_neg (by omega)]
   ·exact q7 r _ (fun x hx=>hd x (by simp [hx])) (by omega)
def lH (neg:Bool):Txt:=if neg then [45] else []
theorem sM (neg:Bool) (d:Txt) (h0:d≠ []) (hd:∀c∈d,dgt c=true):
  Lib.atoiAll (lH neg++d)=if -9223372036854775808≤(if neg then -(nj d:Int) else (nj d:Int))∧(if neg then -(nj d:Int) else (nj d:Int))≤9223372036854775807 then .ok (if neg then -(nj d:Int) else (nj d:Int)) else .range:=by
 have hp:Lib.parseMag d=if nj d<18446744073709551616 then .ok (nj d) else .range:=by
  unfold Lib.parseMag;rw [if_neg h0];exact q7 d 0 hd (by decide)
 cases neg
 ·obtain ⟨c,r,rfl⟩:=List.exists_cons_of_ne_nil h0
  have hc:=(Di c).1 (hd c (by simp))
  simp only [lH,Bool.false_eq_true,if_false,List.nil_append,Lib.atoiAll];rw [if_neg (by omega),hp]
  have e45:(c.toNat=45)=False:=by simp; omega
  simp only [e45,not_false_eq_true,true_and,false_and,if_false];split
  ·rename_i h; split at h
   ·cases h
   ·cases h
  ·rename_i h; split at h
   ·cases h
   ·rw [if_neg (by omega)]
  ·rename_i u h; split at h
   ·cases h
    split
    ·rw [if_neg (by omega)]
    ·rw [if_pos (by omega)]
   ·cases h
 ·simp only [lH,if_true,List.cons_append,List.nil_append,Lib.atoiAll]
  rw [if_pos (.inr (by decide)),hp]
  simp only [show ((45:UInt8).toNat=45)=True by simp,not_true_eq_false,false_and,if_false,true_and,if_true]
  split
  ·rename_i h; split at h
   ·cases h
   ·cases h
  ·rename_i h; split at h
   ·cases h
   ·rw [if_neg (by omega)]
  ·rename_i u h; split at h
   ·cases h
    split
    ·rw [if_neg (by omega)]
    ·rw [if_pos (by omega)]
   ·cases h
theorem xb (s:Txt):∀c∈s.takeWhile dgt,dgt c=true:=fun c hc=>by
 induction s with
 |nil=>cases hc
 |cons x r ih=>
  simp only [List.takeWhile_cons] at hc;split at hc
  ·rename_i hx
   rcases List.mem_cons.1 hc with rfl|hc
   ·exact hx
   ·exact ih hc
  ·cases hc
end Go.Bf
namespace Go.Proofs
open Go.Shelf
def Tryz.AF:Go.Shelf.Ren:=⟨fun|137=>128|217=>164|266=>187|n=>n,fun|9=>9|5=>5|3=>3|n=>n,fun|n=>n⟩
theorem Tryz.Jo:Go.Proofs.Lays.n137 Tryz.prog Tryz.AF:= {
 mixed:=by kernel_rfl
 f137:=Tryz.func128.trans (congrArg some (by kernel_rfl))
 f217:=Tryz.func164.trans (congrArg some (by kernel_rfl))
 f266:=Tryz.func187.trans (congrArg some (by kernel_rfl))
 t3:=Tryz.underlying3
 a3:=Tryz.isAgg3
 z3:=Tryz.sizeOf3
 v3:=Tryz.zeroValue3
 t5:=Tryz.underlying5
 a5:=Tryz.isAgg5
 z5:=Tryz.sizeOf5
 v5:=Tryz.zeroValue5
 t9:=Tryz.underlying9
 a9:=Tryz.isAgg9
 z9:=Tryz.sizeOf9
 v9:=Tryz.zeroValue9}
open Go.RowKit in
theorem Tryz.strings_IndexByte (s:ByteArray) (c:Int) (w:World):
  Calls Tryz.prog 128 #[.string s, .int .u8 c] w fun e w' =>e= .returned (.int .i64 (Lib.indexByte s.data.toList c.toNat.toUInt8))∧w' =w:=Any.strings_IndexByte Tryz.Jo s c w
def Tryz.zg:Go.Shelf.Ren:=⟨fun|172=>161|244=>184|245=>185|247=>202|279=>203|280=>204|281=>205|282=>206|287=>223|316=>224|171=>226|205=>225|321=>229|322=>230|243=>231|246=>232|283=>233|284=>234|285=>235|286=>236|129=>238|317=>237|318=>239|319=>240|320=>241|337=>242|338=>243|n=>n,fun|9=>9|3=>3|75=>242|76=>243|4=>4|5=>5|167=>290|37=>245|0=>0|85=>291|2=>2|168=>293|53=>308|175=>309|46=>311|210=>313|127=>319|145=>322|143=>320|21=>21|171=>324|173=>327|212=>330|51=>331|20=>20|213=>332|232=>335|233=>336|80=>177|n=>n,fun|15=>1|16=>2|17=>3|18=>4|19=>5|n=>n⟩
theorem Tryz.AG:Go.Proofs.LaysC.n172 Tryz.prog Tryz.zg:= {
 mixed:=by kernel_rfl
 f129:=Tryz.func238.trans (congrArg some (by kernel_rfl))
 f171:=Tryz.func226.trans (congrArg some (by kernel_rfl))
 f172:=Tryz.func161.trans (congrArg some (by kernel_rfl))
 f205:=Tryz.func225.trans (congrArg some (by kernel_rfl))
 f243:=Tryz.func231.trans (congrArg some (by kernel_rfl))
 f244:=Tryz.func184.trans (congrArg some (by kernel_rfl))
 f245:=Tryz.func185.trans (congrArg some (by kernel_rfl))
 f246:=Tryz.func232.trans (congrArg some (by kernel_rfl))
 f247:=Tryz.func202.trans (congrArg some (by kernel_rfl))
 f279:=Tryz.func203.trans (congrArg some (by kernel_rfl))
 f280:=Tryz.func204.trans (congrArg some (by kernel_rfl))
 f281:=Tryz.func205.trans (congrArg some (by kernel_rfl))
 f282:=Tryz.func206.trans (congrArg some (by kernel_rfl))
 f283:=Tryz.func233.trans (congrArg some (by kernel_rfl))
 f284:=Tryz.func234.trans (congrArg some (by kernel_rfl))
 f285:=Tryz.func235.trans (congrArg some (by kernel_rfl))
 f286:=Tryz.func236.trans (congrArg some (by kernel_rfl))
 f287:=Tryz.func223.trans (congrArg some (by kernel_rfl))
 f316:=Tryz.func224.trans (congrArg some (by kernel_rfl))
 f317:=Tryz.func237.trans (congrArg some (by kernel_rfl))
 f318:=Tryz.func239.trans (congrArg some (by kernel_rfl))
 f319:=Tryz.func240.trans (congrArg some (by kernel_rfl))
 f320:=Tryz.func241.trans (congrArg some (by kernel_rfl))
 f321:=Tryz.func229.trans (congrArg some (by kernel_rfl))
 f322:=Tryz.func230.trans (congrArg some (by kernel_rfl))
 f337:=Tryz.func242.trans (congrArg some (by kernel_rfl))
 f338:=Tryz.func243.trans (congrArg some (by kernel_rfl))
 t0:=Tryz.underlying0
 a0:=Tryz.isAgg0
 z0:=Tryz.sizeOf0
 v0:=Tryz.zeroValue0
 t2:=Tryz.underlying2
 a2:=Tryz.isAgg2
 z2:=Tryz.sizeOf2
 v2:=Tryz.zeroValue2
 t3:=Tryz.underlying3
 a3:=Tryz.isAgg3
 z3:=Tryz.sizeOf3
 v3:=Tryz.zeroValue3
 t4:=Tryz.underlying4
 a4:=Tryz.isAgg4
 z4:=Tryz.sizeOf4
 v4:=Tryz.zeroValue4
 t5:=Tryz.underlying5
 a5:=Tryz.isAgg5
 z5:=Tryz.sizeOf5
 v5:=Tryz.zeroValue5
 t9:=Tryz.underlying9
 a9:=Tryz.isAgg9
 z9:=Tryz.sizeOf9
 v9:=Tryz.zeroValue9
 t20:=Tryz.underlying20
 a20:=Tryz.isAgg20
 z20:=Tryz.sizeOf20
 v20:=Tryz.zeroValue20
 t21:=Tryz.underlying21
 a21:=Tryz.isAgg21
 z21:=Tryz.sizeOf21
 v21:=Tryz.zeroValue21
 t37:=Tryz.underlying245
 a37:=Tryz.isAgg245
 z37:=Tryz.sizeOf245
 v37:=Tryz.zeroValue245
 t46:=Tryz.underlying311
 a46:=Tryz.isAgg311
 z46:=Tryz.sizeOf311
 v46:=Tryz.zeroValue311
 t51:=Tryz.underlying331
 a51:=Tryz.isAgg331
 z51:=Tryz.sizeOf331
 v51:=Tryz.zeroValue331
 t53:=Tryz.underlying308
 a53:=Tryz.isAgg308
 z53:=Tryz.sizeOf308
 v53:=Tryz.zeroValue308
 t75:=Tryz.underlying242
 a75:=Tryz.isAgg242
 z75:=Tryz.sizeOf242
 v75:=Tryz.zeroValue242
 t76:=Tryz.underlying243
 a76:=Tryz.isAgg243
 z76:=Tryz.sizeOf243
 v76:=Tryz.zeroValue243
 t85:=Tryz.underlying291
 a85:=Tryz.isAgg291
 z85:=Tryz.sizeOf291
 v85:=Tryz.zeroValue291
 t127:=Tryz.underlying319
 a127:=Tryz.isAgg319
 z127:=Tryz.sizeOf319
 v127:=Tryz.zeroValue319
 t143:=Tryz.underlying320
 a143:=Tryz.isAgg320
 z143:=Tryz.sizeOf320
 v143:=Tryz.zeroValue320
 t145:=Tryz.underlying322
 a145:=Tryz.isAgg322
 z145:=Tryz.sizeOf322
 v145:=Tryz.zeroValue322
 t167:=Tryz.underlying290
 a167:=Tryz.isAgg290
 z167:=Tryz.sizeOf290
 v167:=Tryz.zeroValue290
 t168:=Tryz.underlying293
 a168:=Tryz.isAgg293
 z168:=Tryz.sizeOf293
 v168:=Tryz.zeroValue293
 t171:=Tryz.underlying324
 a171:=Tryz.isAgg324
 z171:=Tryz.sizeOf324
 v171:=Tryz.zeroValue324
 t173:=Tryz.underlying327
 a173:=Tryz.isAgg327
 z173:=Tryz.sizeOf327
 v173:=Tryz.zeroValue327
 t175:=Tryz.underlying309
 a175:=Tryz.isAgg309
 z175:=Tryz.sizeOf309
 v175:=Tryz.zeroValue309
 t210:=Tryz.underlying313
 a210:=Tryz.isAgg313
 z210:=Tryz.sizeOf313
 v210:=Tryz.zeroValue313
 t212:=Tryz.underlying330
 a212:=Tryz.isAgg330
 z212:=Tryz.sizeOf330
 v212:=Tryz.zeroValue330
 t213:=Tryz.underlying332
 a213:=Tryz.isAgg332
 z213:=Tryz.sizeOf332
 t232:=Tryz.underlying335
 a232:=Tryz.isAgg335
 z232:=Tryz.sizeOf335
 v232:=Tryz.zeroValue335
 t233:=Tryz.underlying336
 a233:=Tryz.isAgg336
 z233:=Tryz.sizeOf336
 v233:=Tryz.zeroValue336
 g15:=by kernel_rfl
 g16:=by kernel_rfl
 g17:=by kernel_rfl
 g18:=by kernel_rfl
 g19:=by kernel_rfl
 t80:=Tryz.underlying177
 a80:=Tryz.isAgg177
 z80:=Tryz.sizeOf177
 v80:=Tryz.zeroValue177
 i0:=by kernel_rfl
 i2:=by kernel_rfl
 i3:=by kernel_rfl
 i4:=by kernel_rfl
 i5:=by kernel_rfl
 i9:=by kernel_rfl
 i20:=by kernel_rfl
 i21:=by kernel_rfl
 i37:=by kernel_rfl
 i46:=by kernel_rfl
 i51:=by kernel_rfl
 i53:=by kernel_rfl
 i75:=by kernel_rfl
 i76:=by kernel_rfl
 i80:=by kernel_rfl
 i85:=by kernel_rfl
 i127:=by kernel_rfl
 i143:=by kernel_rfl
 i145:=by kernel_rfl
 i167:=by kernel_rfl
 i168:=by kernel_rfl
 i171:=by kernel_rfl
 i173:=by kernel_rfl
 i175:=by kernel_rfl
 i210:=by kernel_rfl
 i212:=by kernel_rfl
 i232:=by kernel_rfl
 i233:=by kernel_rfl
 m15:=by kernel_rfl
 m16:=by kernel_rfl
 m17:=by kernel_rfl
 m18:=by kernel_rfl
 m19:=by kernel_rfl
 c0:=by kernel_rfl
 c2:=by kernel_rfl
 c3:=by kernel_rfl
 c4:=by kernel_rfl
 c5:=by kernel_rfl
 c9:=by kernel_rfl
 c20:=by kernel_rfl
 c21:=by kernel_rfl
 c37:=by kernel_rfl
 c46:=by kernel_rfl
 c51:=by kernel_rfl
 c53:=by kernel_rfl
 c75:=by kernel_rfl
 c76:=by kernel_rfl
 c80:=by kernel_rfl
 c85:=by kernel_rfl
 c127:=by kernel_rfl
 c143:=by kernel_rfl
 c145:=by kernel_rfl
 c167:=by kernel_rfl
 c168:=by kernel_rfl
 c171:=by kernel_rfl
 c173:=by kernel_rfl
 c175:=by kernel_rfl
 c210:=by kernel_rfl
 c212:=by kernel_rfl
 c213:=by kernel_rfl
 c232:=by kernel_rfl
 c233:=by kernel_rfl}
open Go.RowKit in
theorem Tryz.strconv_Atoi_ok (s:ByteArray) (hmax:s.size≤9223372036854775806) (v:Int) (h:Lib.atoiAll s.data.toList= .ok v) (w:World):
  Calls Tryz.prog 161 #[.string s] w fun e w' =>e= .returned (.tuple #[.int .i64 v, .nilIface])∧(w' =w∨∃t,w' =Lib.bytesWorld w 5 t):=Any.strconv_Atoi_ok Tryz.AG s hmax v h w
open Go.RowKit in
theorem Tryz.strconv_Atoi_range (s:ByteArray) (hlim:s.size≤281474976710656) (h:Lib.atoiAll s.data.toList= .range) (ev:Value) (w:World) (hv:w.cell? ⟨2,0,none⟩=some ev) (hev:ev= .nilIface∨∃te pe,ev= .iface te pe):
  Calls Tryz.prog 161 #[.string s] w fun e w' =>∃N,e= .returned (.tuple #[.int .i64 (Lib.atoiSat s.data.toList), .iface 293 (.pointer (some ⟨N,0,none⟩))])∧w.heap.size≤N∧w'.heap[N]? =some (.cells #[.string ⟨#[65,116,111,105]⟩, .string s,ev] 313 (0,0))∧Below w.heap.size w w' :=Any.strconv_Atoi_range Tryz.AG s hlim h ev w hv hev
end Go.Proofs
namespace Go.Proofs.YtnlbeamjpefpfaaGreatDoor
open Go Go.Ab Go.Bf Go.RowKit
theorem Fl (s:Txt) (hs:s.length≤100000) (w:World):Calls Tryz.prog 159 #[.string ⟨s.toArray⟩, .func (.func 125) #[] #[]] w fun e w' =>e= .returned (.int .i64 (s.takeWhile dgt).length)∧Below w.heap.size w w' :=by
 refine Go.Ab.ak.calls (args:= [.s s, .fn 125 []]) ⟨_,Tryz.func159,by kernel_rfl,rfl⟩ ((HW _ _ kN s cJ).mono fun _ _ h=>h.1) rfl (fun i hi=> ?_)
 rcases i with _|_|i
 ·exact .s s (by show s.length<lim; have:(100000:Nat)<lim:=(by decide); omega)
 ·exact .fn _ [] #[] rfl (fun i hi=>by cases hi)
 ·simp at hi; omega
def xe (neg:Bool) (d:Txt):Int:=if neg then -(nj d:Int) else (nj d:Int)
def inI (neg:Bool) (d:Txt):Prop:= -9223372036854775808≤(if neg then -(nj d:Int) else (nj d:Int))∧(if neg then -(nj d:Int) else (nj d:Int))≤9223372036854775807
instance (neg:Bool) (d:Txt):Decidable (inI neg d):=inferInstanceAs (Decidable (_∧_))
theorem wh (neg:Bool):(lH neg).length≤1:=by cases neg<;>decide
theorem Dc (neg:Bool) (d:Txt) (h0:d≠ []) (hd:∀c∈d,dgt c=true) (hlen:d.length≤10000) (S:ByteArray) (hS:S=⟨(lH neg++d).toArray⟩) (hr:inI neg d) (W:World):
  Calls Tryz.prog 161 #[.string S] W fun e w' =>e= .returned (.tuple #[.int .i64 (xe neg d), .nilIface])∧Below W.heap.size W w' :=by
 have hl:=wh neg;have hsz:S.size≤10001:=by rw [hS]; simp [ByteArray.size]; omega
 have ha:Lib.atoiAll S.data.toList= .ok (xe neg d):=by
  rw [hS]
  show Lib.atoiAll (lH neg++d)=_
  rw [sM neg d h0 hd];exact if_pos hr
 refine (Tryz.strconv_Atoi_ok S (by omega) _ ha W).mono ?_
 rintro e w' ⟨rfl,rfl|⟨t,rfl⟩⟩
 ·exact ⟨rfl, .refl _ _⟩
 ·exact ⟨rfl,Lib.bytesWorld_below W _ t⟩
theorem zI (neg:Bool) (d:Txt) (h0:d≠ []) (hd:∀c∈d,dgt c=true) (hlen:d.length≤10000) (S:ByteArray) (hS:S=⟨(lH neg++d).toArray⟩) (hr:¬inI neg d) (W:World) (ev:Value) (hv:W.cell? ⟨2,0,none⟩=some ev) (hev:ev= .nilIface∨∃te pe,ev= .iface te pe):
  Calls Tryz.prog 161 #[.string S] W fun e w' =>(∃(x:Int) (N:Nat),e= .returned (.tuple #[.int .i64 x, .iface 293 (.pointer (some ⟨N,0,none⟩))]))∧Below W.heap.size W w' :=by
 have hl:=wh neg;have hsz:S.size≤10001:=by rw [hS]; simp [ByteArray.size]; omega
 have ha:Lib.atoiAll S.data.toList= .range:=by
  rw [hS]
  show Lib.atoiAll (lH neg++d)=_
  rw [sM neg d h0 hd];exact if_neg hr
 refine (Tryz.strconv_Atoi_range S (by omega) ha ev W hv hev).mono ?_
 rintro e w' ⟨N,rfl,_,_,hb⟩
 exact ⟨⟨_,N,rfl⟩,hb⟩
set_option maxHeartbeats 1000000 in
set_option maxRecDepth 1000000 in
theorem AQ (neg:Bool) (s:Txt) (hs:s.length≤10000) (w:World) (ev:Value) (hv:w.cell? ⟨2,0,none⟩=some ev) (hev:ev= .nilIface∨∃te pe,ev= .iface te pe) (hg:2<w.heap.size):
  Calls Tryz.prog 126 #[.string ⟨(lH neg).toArray⟩, .string ⟨s.toArray⟩] w fun e w' =>e= .returned (.tuple #[.int .i64 (dY neg s).1, .int .i64 ((dY neg s).2:Nat)])∧Below w.heap.size w w' :=by
 have hle:=gN dgt s;obtain ⟨d,ed⟩:∃d,s.takeWhile dgt=d:=⟨_,rfl⟩;have htk:s.take d.length=d:=by rw [←ed,oK]
 have hrun:=Fl s (by omega) w
 have hall:=xb s;rw [ed] at hrun hle hall
 go_enter Tryz.func126,Tryz.ntmps126
 by_cases h0:d.length=0
 ·have e0:d= []:=List.length_eq_zero_iff.1 h0
  have en:dY neg s=(0,0):=by unfold dY; rw [ed,if_pos (.inl e0)]
  go_wp2_with (go_at_call 159; refine hrun.mono ?_)
  rintro e W0 ⟨rfl,b0⟩
  rw [h0]
  go_wp2
  go_ret2
  rw [en];exact ⟨rfl,b0⟩
 ·have e0:d≠ []:=by rintro rfl; exact h0 rfl
  go_wp2_with (go_at_call 159; refine hrun.mono ?_)
  rintro e W0 ⟨rfl,b0⟩
  have hpos:0<d.length:=by omega
  have hs0:0<s.length:=by omega
  have hsz:0<(⟨s.toArray⟩:ByteArray).size:=by simpa [ByteArray.size] using hs0
  have hg0:(⟨s.toArray⟩:ByteArray)[0]=s[0]:=rfl;have hgn:∀x:UInt8,(s.head? =some x)↔s[0]=x:=fun x=>by
   rw [List.head?_eq_getElem?,List.getElem?_eq_getElem hs0]; simp
  cases d0:((d.length:Int)==0)
  case true=>exact absurd (by simpa using d0) h0
  have hS:(⟨(lH neg).toArray⟩:ByteArray)++(⟨s.toArray⟩:ByteArray).extract 0 d.length=⟨(lH neg++d).toArray⟩:=by
   apply ByteArray.ext;simp [ByteArray.data_extract,htk]
  have hcat:¬9223372036854775807<List.length (lH neg)+d.length:=by have:=wh neg; omega
  cases d1:decide (1<(d.length:Int))
  ·have f1:¬1<d.length:=by have:=Va d1; omega
   have en:dY neg s=if inI neg d then (xe neg d,d.length) else (0,0):=by
    unfold dY;rw [ed,if_neg (by simp [e0,f1])]
    rfl
   have hv0:W0.cell? ⟨2,0,none⟩=some ev:=by rw [b0.cell hg]; exact hv
   by_cases hr:inI neg d
   ·rw [if_pos hr] at en
    go_wp2_with (go_at_call 161; refine (Dc neg d e0 hall (by omega) _ (by first|exact hS|(apply ByteArray.ext; simp [ByteArray.data_extract])) hr _).mono ?_)
    rintro e W1 ⟨rfl,b1⟩
    go_wp2
    go_ret2
    rw [en];exact ⟨rfl,b0.trans (b1.mono b0.size)⟩
   ·rw [if_neg hr] at en
    go_wp2_with (go_at_call 161; refine (zI neg d e0 hall (by omega) _ (by first|exact hS|(apply ByteArray.ext; simp [ByteArray.data_extract])) hr _ ev hv0 hev).mono ?_)
    rintro e W1 ⟨⟨x,N,rfl⟩,b1⟩
    go_wp2
    go_ret2
    rw [en];exact ⟨rfl,b0.trans (b1.mono b0.size)⟩
  ·have f1:1<d.length:=by have:=U9 d1; omega
   cases d2:((s[0].toNat:Int)==48)
   ·have f2:s.head?≠some 48:=by
     rw [ne_eq,hgn]; intro e; rw [e] at d2; simp at d2
    have en:dY neg s=if inI neg d then (xe neg d,d.length) else (0,0):=by
     unfold dY;rw [ed,if_neg (by simp [e0,f2])]
     rfl
    have hv0:W0.cell? ⟨2,0,none⟩=some ev:=by rw [b0.cell hg]; exact hv
    by_cases hr:inI neg d
    ·rw [if_pos hr] at en
     go_wp2_with (go_at_call 161; refine (Dc neg d e0 hall (by omega) _ (by first|exact hS|(apply ByteArray.ext; simp [ByteArray.data_extract])) hr _).mono ?_)
     rintro e W1 ⟨rfl,b1⟩
     go_wp2
     go_ret2
     rw [en];exact ⟨rfl,b0.trans (b1.mono b0.size)⟩
    ·rw [if_neg hr] at en
     go_wp2_with (go_at_call 161; refine (zI neg d e0 hall (by omega) _ (by first|exact hS|(apply ByteArray.ext; simp [ByteArray.data_extract])) hr _ ev hv0 hev).mono ?_)
     rintro e W1 ⟨⟨x,N,rfl⟩,b1⟩
     go_wp2
     go_ret2
     rw [en];exact ⟨rfl,b0.trans (b1.mono b0.size)⟩
   ·have f2:s.head? =some 48:=by
     rw [hgn];have:(s[0].toNat:Int)=48:=by simpa using d2
     exact UInt8.toNat_inj.1 (by show s[0].toNat=48; omega)
    have en:dY neg s=(0,0):=by unfold dY; rw [ed,if_pos (.inr ⟨f1,f2⟩)]
    go_wp2
    go_ret2
    rw [en];exact ⟨rfl,b0⟩
def rK (h:Heap):Prop:=∃ev:Value,(ev= .nilIface∨∃te pe,ev= .iface te pe)∧Tab h 2 [ev]
theorem rK.sub {h h' :Heap} (he:rK h) (hs:Ab.Sub h h'):rK h' :=by
 obtain ⟨ev,h1,h2⟩:=he;exact ⟨ev,h1,h2.sub hs⟩
theorem kq (neg:Bool) (s:Txt) (hs:s.length≤10000) (h:Heap) (he:rK h):ak Tryz.prog 126 [.s (lH neg), .s s] h fun r h' =>r= .tup [.v (.int .i64 (dY neg s).1), .v (.int .i64 ((dY neg s).2:Nat))]∧h' =h:=by
 obtain ⟨ev,hev,id,hi⟩:=he;refine .lib ⟨_,Tryz.func126,by kernel_rfl,rfl⟩ fun c vs hs' g h1 h2=> ?_
 obtain ⟨u,v,rfl⟩:∃u v,vs= #[u,v]:=by
  match vs,h1 with
  |⟨[u,v]⟩,_=>exact ⟨u,v,rfl⟩
 have e1:u= .string ⟨(lH neg).toArray⟩:=((h2 0 (by simp)).lG).1
 have e2:v= .string ⟨s.toArray⟩:=((h2 1 (by simp)).lG).1
 subst e1; subst e2
 obtain ⟨_,t,fr,hh⟩:=g.ro id _ _ (hs' _ _ hi);have hc:c.w.cell? ⟨2,0,none⟩=some ev:=by simp [World.cell?,hh]
 refine (AQ neg s hs c.w ev hc hev (bZ hh)).mono ?_
 rintro e w' ⟨rfl,hb⟩
 refine ⟨⟨_,rfl,fun c' _=> ?_⟩,hb⟩
 refine .tup _ _ rfl fun i hi=> ?_
 rcases i with _|_|i
 ·exact .v _
 ·exact .v _
 ·simp at hi; omega
end Go.Proofs.YtnlbeamjpefpfaaGreatDoor
namespace Go.Bf
open Go Go.Ab
def marks:Txt:= [123,125,40,41,46,44,59,61,60,62,33]
set_option maxRecDepth 100000 in
theorem wP:∀n:Fin 256,decide (0≤Lib.indexByte marks (UInt8.ofNat n.val))=AL (UInt8.ofNat n.val):=by decide
theorem oT (c:UInt8):decide (0≤Lib.indexByte marks c)=AL c:=by
 have:=wP ⟨c.toNat,c.toNat_lt⟩;simpa using this
end Go.Bf
namespace Go.Proofs.YtnlbeamjpefpfaaGreatDoor
open Go Go.Ab Go.Bf
theorem Ax (l:Txt) (c:UInt8) (h:Heap):ak Tryz.prog 128 [.s l, .v (.int .u8 c.toNat)] h fun r h' =>r= .v (.int .i64 (Lib.indexByte l c))∧h' =h:=by
 refine .lib ⟨_,Tryz.func128,by kernel_rfl,rfl⟩ fun cx vs hs' g h1 h2=> ?_
 obtain ⟨u,v,rfl⟩:∃u v,vs= #[u,v]:=by
  match vs,h1 with
  |⟨[u,v]⟩,_=>exact ⟨u,v,rfl⟩
 have e1:u= .string ⟨l.toArray⟩:=((h2 0 (by simp)).lG).1
 have e2:v= .int .u8 c.toNat:=(h2 1 (by simp)).bO
 subst e1; subst e2
 refine (Tryz.strings_IndexByte ⟨l.toArray⟩ c.toNat cx.w).mono ?_
 rintro e w' ⟨rfl,rfl⟩
 refine ⟨⟨_,rfl,fun c' _=> ?_⟩, .refl _ _⟩
 have:((c.toNat:Int).toNat).toUInt8=c:=by simp
 rw [this];exact .v _
theorem D9 (s:Txt) (h0:s≠ []) (hs:s.length≤4096) (h:Heap) (he:rK h):ak Tryz.prog 95 [.s s] h fun r h' =>r= .tup [fh (bL s).1, .v (.int .i64 ((bL s).2:Nat))]∧h' =h:=by
 refine ak.body hU hm Tryz.func95 rfl (by kernel_rfl) 106 rfl [.cell 2 137, .tmp 3] rfl (U6 rfl) (fun hwf=> ?_)
 obtain ⟨c,r,rfl⟩:=List.exists_cons_of_ne_nil h0;have hsl:r.length≤4095:=by simpa using hs
 simp only [go_sem];intro i2 hi2;simp only [go_sem];intro i4 hi4;have n24:=aF hi4;have g2:∀(f:Heap) (x:Option Blk),upd f i4 x i2=f i2:=fun f x=>ag f x n24.symm
 have g4:∀(f:Heap) (x:Option Blk),upd f i2 x i4=f i4:=fun f x=>ag f x n24
 have hsub:Ab.Sub h (upd (upd h i2 (some (.obj [.v (.int .i64 0), .v (.int .i64 0), .v (.int .i64 0), .s []] 137))) i4 (some (.obj [.v (.int .i64 0), .v (.int .i64 0), .v (.int .i64 0), .s []] 137))):=(Sub.ai hi2).trans (.ai hi4);have he2:=he.sub hsub;have hi4h:h i4=none:=by rw [ag _ _ n24] at hi4; exact hi4
 simp only [go_sem];refine .at 0 (by simp) ?_
 cases la:decide (97≤(c.toNat:Int))
 ·have hl:ltr c=false:=by simp only [ltr,la,Bool.false_and]
  simp only [go_sem,cr,List.getElem_cons_zero,la];have hlt:(c::r).headD 0=c:=rfl;refine (kN c _).pthen ?_;cases d1:dgt c
  case true=>
   simp only [go_sem,ah];refine (kq false (c::r) (by simp; omega) _ (he.sub (by repeat (first|exact .refl _|refine Sub.put ?_ (by assumption) _)))).pthen ?_
   simp only [go_sem,g2,ah];exact .mk _ (.refl _) (by repeat (first|exact .refl _|refine Sub.put ?_ (by assumption) _)) ⟨by simp [bL,hl,d1,fh,au],rfl⟩
  have nb:∀(x:UInt8) (n:Int),n=x.toNat→((c.toNat:Int)==n)=true→c=x:=fun x n e h=>by
   have:(c.toNat:Int)=n:=by simpa using h
   exact UInt8.toNat_inj.1 (by omega)
  have nn:∀(x:UInt8) (n:Int),n=x.toNat→((c.toNat:Int)==n)=false→c≠x:=fun x n e h hc=>by
   subst hc; rw [e] at h; simp at h
  have k1:=mD true r;have k2:=mD false r;have k3:=rI r;cases d2:((c.toNat:Int)==45)
  case true=>
   have e2:=nb 45 45 rfl d2;simp only [go_sem,d2,ah,j5,Option.isSome_none,Option.isSome_some,Int.reduceToNat,List.drop_succ_cons,List.drop_zero,List.length_cons];refine ⟨by omega,by omega,by omega, ?_⟩
   refine (kq true r (by omega) _ (he.sub (by repeat (first|exact .refl _|refine Sub.put ?_ (by assumption) _)))).pthen ?_
   cases d3:((dY true r).1==0)
   ·have e3:(dY true r).1≠0:=by simpa using d3
    have w1:IntKind.i64.wrap (((dY true r).2:Int)+1)=(((dY true r).2+1:Nat):Int):=by rw [bw _ (by omega)]; omega
    simp only [go_sem,d3,g2,ah,w1];exact .mk _ (.refl _) (by repeat (first|exact .refl _|refine Sub.put ?_ (by assumption) _)) ⟨by subst e2; simp [bL,hl,d1,e3,fh,au],rfl⟩
   ·have e3:(dY true r).1=0:=by simpa using d3
    simp only [go_sem,d3,g2,ah];exact .mk _ (.refl _) (by repeat (first|exact .refl _|refine Sub.put ?_ (by assumption) _)) ⟨by subst e2; simp [bL,hl,d1,e3,fh,au],rfl⟩
  have e2:=nn 45 45 rfl d2;cases d4:((c.toNat:Int)==64)
  case true=>
   have e4:=nb 64 64 rfl d4;simp only [go_sem,d2,d4,ah,j5,Option.isSome_none,Option.isSome_some,Int.reduceToNat,List.drop_succ_cons,List.drop_zero,List.length_cons];refine ⟨by omega,by omega,by omega, ?_⟩
   refine (kq false r (by omega) _ (he.sub (by repeat (first|exact .refl _|refine Sub.put ?_ (by assumption) _)))).pthen ?_
   cases d3:(((dY false r).2:Int)==0)
   case true=>
    have e3:(dY false r).2=0:=by simpa using d3
    simp only [go_sem,d3,g2,ah];exact .mk _ (.refl _) (by repeat (first|exact .refl _|refine Sub.put ?_ (by assumption) _)) ⟨by subst e4; simp [bL,hl,d1,e3,fh,au],rfl⟩
   have e3:(dY false r).2≠0:=by simpa using d3
   cases d5:decide (1099511627776<(dY false r).1)
   ·have e5:¬1099511627776<(dY false r).1:=Va d5
    have w1:IntKind.i64.wrap (((dY false r).2:Int)+1)=(((dY false r).2+1:Nat):Int):=by rw [bw _ (by omega)]; omega
    simp only [go_sem,d3,d5,g2,ah,w1];exact .mk _ (.refl _) (by repeat (first|exact .refl _|refine Sub.put ?_ (by assumption) _)) ⟨by subst e4; simp [bL,hl,d1,e3,e5,fh,au],rfl⟩
   ·have e5:1099511627776<(dY false r).1:=U9 d5
    simp only [go_sem,d3,d5,g2,ah];exact .mk _ (.refl _) (by repeat (first|exact .refl _|refine Sub.put ?_ (by assumption) _)) ⟨by subst e4; simp [bL,hl,d1,e3,e5,fh,au],rfl⟩
  have e4:=nn 64 64 rfl d4;cases d6:((c.toNat:Int)==35)
  case true=>
   have e6:=nb 35 35 rfl d6;simp only [go_sem,d2,d4,d6,j5,Option.isSome_none,Option.isSome_some,Int.reduceToNat,List.drop_succ_cons,List.drop_zero,List.length_cons];refine ⟨by omega,by omega,by omega, ?_⟩
   refine (vF r _).pthen ?_;cases d3:(iL r== [])
   ·have e3:iL r≠ []:=by simpa using d3
    have w1:IntKind.i64.wrap (((iL r).length:Int)+1)=(((iL r).length+1:Nat):Int):=by rw [bw _ (by omega)]; omega
    simp only [go_sem,d3,g2,ah,w1];exact .mk _ (.refl _) (by repeat (first|exact .refl _|refine Sub.put ?_ (by assumption) _)) ⟨by subst e6; simp [bL,hl,d1,e3,fh,au],rfl⟩
   ·have e3:iL r= []:=by simpa using d3
    simp only [go_sem,d3,g2,ah];exact .mk _ (.refl _) (by repeat (first|exact .refl _|refine Sub.put ?_ (by assumption) _)) ⟨by subst e6; simp [bL,hl,d1,e3,fh,au],rfl⟩
  have e6:=nn 35 35 rfl d6;cases d7:((c.toNat:Int)==34)
  case true=>
   have e7:=nb 34 34 rfl d7;simp only [go_sem,d2,d4,d6,d7,ah];refine (DW (c::r) (by simp; omega) _).pthen ?_
   simp only [go_sem,g2,ah];exact .mk _ (.refl _) (by repeat (first|exact .refl _|refine Sub.put ?_ (by assumption) _)) ⟨by subst e7; simp [bL,hl,d1,fh,au],rfl⟩
  have e7:=nn 34 34 rfl d7;simp only [go_sem,d2,d4,d6,d7];refine (Ax marks c _).pthen ?_;cases d8:AL c
  ·simp only [go_sem,g2,ah,oT,d8]
   exact .mk _ (.refl _) (by repeat (first|exact .refl _|refine Sub.put ?_ (by assumption) _)) ⟨by simp [bL,hl,d1,e2,e4,e6,e7,d8,fh,au],rfl⟩
  ·simp only [go_sem,oT,d8]
   refine .calls cJ [0,1,2,3,4,5,6] (fun _ _ h=>by cases h) (by kernel_rfl) rfl ?_
   simp only [go_sem,g2,ah,oQ,Option.isSome_none,Option.isSome_some,Int.reduceToNat,List.take_succ_cons,List.take_zero,List.length_cons];refine ⟨by omega,by omega,by omega,(fun _ _ h=>(by cases h)),(fun _ _ h=>(by cases h)), ?_⟩
   exact .mk _ (.refl _) (by repeat (first|exact .refl _|refine Sub.put ?_ (by assumption) _)) ⟨by simp [bL,hl,d1,e2,e4,e6,e7,d8,fh,au],rfl⟩
 ·cases lb:decide ((c.toNat:Int)≤122)
  ·have hl:ltr c=false:=by simp only [ltr,lb,Bool.and_false]
   simp only [go_sem,cr,List.getElem_cons_zero,la,lb];have hlt:(c::r).headD 0=c:=rfl;refine (kN c _).pthen ?_;cases d1:dgt c
   case true=>
    simp only [go_sem,ah];refine (kq false (c::r) (by simp; omega) _ (he.sub (by repeat (first|exact .refl _|refine Sub.put ?_ (by assumption) _)))).pthen ?_
    simp only [go_sem,g2,ah];exact .mk _ (.refl _) (by repeat (first|exact .refl _|refine Sub.put ?_ (by assumption) _)) ⟨by simp [bL,hl,d1,fh,au],rfl⟩
   have nb:∀(x:UInt8) (n:Int),n=x.toNat→((c.toNat:Int)==n)=true→c=x:=fun x n e h=>by
    have:(c.toNat:Int)=n:=by simpa using h
    exact UInt8.toNat_inj.1 (by omega)
   have nn:∀(x:UInt8) (n:Int),n=x.toNat→((c.toNat:Int)==n)=false→c≠x:=fun x n e h hc=>by
    subst hc; rw [e] at h; simp at h
   have k1:=mD true r;have k2:=mD false r;have k3:=rI r;cases d2:((c.toNat:Int)==45)
   case true=>
    have e2:=nb 45 45 rfl d2;simp only [go_sem,d2,ah,j5,Option.isSome_none,Option.isSome_some,Int.reduceToNat,List.drop_succ_cons,List.drop_zero,List.length_cons];refine ⟨by omega,by omega,by omega, ?_⟩
    refine (kq true r (by omega) _ (he.sub (by repeat (first|exact .refl _|refine Sub.put ?_ (by assumption) _)))).pthen ?_
    cases d3:((dY true r).1==0)
    ·have e3:(dY true r).1≠0:=by simpa using d3
     have w1:IntKind.i64.wrap (((dY true r).2:Int)+1)=(((dY true r).2+1:Nat):Int):=by rw [bw _ (by omega)]; omega
     simp only [go_sem,d3,g2,ah,w1];exact .mk _ (.refl _) (by repeat (first|exact .refl _|refine Sub.put ?_ (by assumption) _)) ⟨by subst e2; simp [bL,hl,d1,e3,fh,au],rfl⟩
    ·have e3:(dY true r).1=0:=by simpa using d3
     simp only [go_sem,d3,g2,ah];exact .mk _ (.refl _) (by repeat (first|exact .refl _|refine Sub.put ?_ (by assumption) _)) ⟨by subst e2; simp [bL,hl,d1,e3,fh,au],rfl⟩
   have e2:=nn 45 45 rfl d2;cases d4:((c.toNat:Int)==64)
   case true=>
    have e4:=nb 64 64 rfl d4;simp only [go_sem,d2,d4,ah,j5,Option.isSome_none,Option.isSome_some,Int.reduceToNat,List.drop_succ_cons,List.drop_zero,List.length_cons];refine ⟨by omega,by omega,by omega, ?_⟩
    refine (kq false r (by omega) _ (he.sub (by repeat (first|exact .refl _|refine Sub.put ?_ (by assumption) _)))).pthen ?_
    cases d3:(((dY false r).2:Int)==0)
    case true=>
     have e3:(dY false r).2=0:=by simpa using d3
     simp only [go_sem,d3,g2,ah];exact .mk _ (.refl _) (by repeat (first|exact .refl _|refine Sub.put ?_ (by assumption) _)) ⟨by subst e4; simp [bL,hl,d1,e3,fh,au],rfl⟩
    have e3:(dY false r).2≠0:=by simpa using d3
    cases d5:decide (1099511627776<(dY false r).1)
    ·have e5:¬1099511627776<(dY false r).1:=Va d5
     have w1:IntKind.i64.wrap (((dY false r).2:Int)+1)=(((dY false r).2+1:Nat):Int):=by rw [bw _ (by omega)]; omega
     simp only [go_sem,d3,d5,g2,ah,w1];exact .mk _ (.refl _) (by repeat (first|exact .refl _|refine Sub.put ?_ (by assumption) _)) ⟨by subst e4; simp [bL,hl,d1,e3,e5,fh,au],rfl⟩
    ·have e5:1099511627776<(dY false r).1:=U9 d5
     simp only [go_sem,d3,d5,g2,ah];exact .mk _ (.refl _) (by repeat (first|exact .refl _|refine Sub.put ?_ (by assumption) _)) ⟨by subst e4; simp [bL,hl,d1,e3,e5,fh,au],rfl⟩
   have e4:=nn 64 64 rfl d4;cases d6:((c.toNat:Int)==35)
   case true=>
    have e6:=nb 35 35 rfl d6;simp only [go_sem,d2,d4,d6,j5,Option.isSome_none,Option.isSome_some,Int.reduceToNat,List.drop_succ_cons,List.drop_zero,List.length_cons];refine ⟨by omega,by omega,by omega, ?_⟩
    refine (vF r _).pthen ?_;cases d3:(iL r== [])
    ·have e3:iL r≠ []:=by simpa using d3
     have w1:IntKind.i64.wrap (((iL r).length:Int)+1)=(((iL r).length+1:Nat):Int):=by rw [bw _ (by omega)]; omega
     simp only [go_sem,d3,g2,ah,w1];exact .mk _ (.refl _) (by repeat (first|exact .refl _|refine Sub.put ?_ (by assumption) _)) ⟨by subst e6; simp [bL,hl,d1,e3,fh,au],rfl⟩
    ·have e3:iL r= []:=by simpa using d3
     simp only [go_sem,d3,g2,ah];exact .mk _ (.refl _) (by repeat (first|exact .refl _|refine Sub.put ?_ (by assumption) _)) ⟨by subst e6; simp [bL,hl,d1,e3,fh,au],rfl⟩
   have e6:=nn 35 35 rfl d6;cases d7:((c.toNat:Int)==34)
   case true=>
    have e7:=nb 34 34 rfl d7;simp only [go_sem,d2,d4,d6,d7,ah];refine (DW (c::r) (by simp; omega) _).pthen ?_
    simp only [go_sem,g2,ah];exact .mk _ (.refl _) (by repeat (first|exact .refl _|refine Sub.put ?_ (by assumption) _)) ⟨by subst e7; simp [bL,hl,d1,fh,au],rfl⟩
   have e7:=nn 34 34 rfl d7;simp only [go_sem,d2,d4,d6,d7];refine (Ax marks c _).pthen ?_;cases d8:AL c
   ·simp only [go_sem,g2,ah,oT,d8]
    exact .mk _ (.refl _) (by repeat (first|exact .refl _|refine Sub.put ?_ (by assumption) _)) ⟨by simp [bL,hl,d1,e2,e4,e6,e7,d8,fh,au],rfl⟩
   ·simp only [go_sem,oT,d8]
    refine .calls cJ [0,1,2,3,4,5,6] (fun _ _ h=>by cases h) (by kernel_rfl) rfl ?_
    simp only [go_sem,g2,ah,oQ,Option.isSome_none,Option.isSome_some,Int.reduceToNat,List.take_succ_cons,List.take_zero,List.length_cons];refine ⟨by omega,by omega,by omega,(fun _ _ h=>(by cases h)),(fun _ _ h=>(by cases h)), ?_⟩
    exact .mk _ (.refl _) (by repeat (first|exact .refl _|refine Sub.put ?_ (by assumption) _)) ⟨by simp [bL,hl,d1,e2,e4,e6,e7,d8,fh,au],rfl⟩
  ·have hl:ltr c=true:=by simp only [ltr,la,lb]; rfl
   simp only [go_sem,cr,List.getElem_cons_zero,la,lb];refine (vF _ _).pthen ?_;simp only [go_sem,g2,ah];exact .mk _ (.refl _) (by repeat (first|exact .refl _|refine Sub.put ?_ (by assumption) _)) ⟨by simp [bL,hl,fh,au],rfl⟩
theorem FF:(U 137).sz=4:=by simp only [go_sem]
theorem JO:(U 137).bytes=40:=by simp only [go_sem]
theorem mR (l:List o7):Sized 4 (l.map fh):=fun z hz=>by
 obtain ⟨c,_,rfl⟩:=List.mem_map.1 hz; rfl
def Js:Lexed→AV
 | .bad e a=> .tup [.sl [] .no, .v (.int .i64 e), .v (.int .i64 a)]
 | .ok l=> .tup [.sl (l.map fh) .no, .v (.int .i64 0), .v (.int .i64 0)]
def FT (s:Txt) (h:Heap) (m:Nat) (ρ:Env) (h' :Heap):Prop:=
 ∃(i f:Nat) (y:AV) (out:List o7) (id:Nat),Acc U 137 h h' y (out.map fh)∧out.length≤i∧i≤s.length∧m=s.length - i∧s.length<f+i∧s.length≤4096∧h id=none∧(∃c0 c1 c2 c3,h' id=some (.obj [c0,c1,c2,c3] 137))∧qS f (s.drop i) i out=pY s∧lk ρ 0=some (.s s)∧lk ρ 5=some y∧lk ρ 6=some (.ptr id 0)∧lk ρ 7=some (.v (.int .i64 i))
theorem BK (s:Txt) (h:Heap) (he:rK h):ak Tryz.prog 58 [.s s] h fun r h' =>r=Js (pY s)∧h' =h:=by
 refine ak.of_wp hU Tryz.func58 rfl (by kernel_rfl) 52 rfl [.tmp 2, .tmp 3, .tmp 4] rfl (U6 rfl) ?_
 refine .one hU hm ?_;simp only [go_sem];refine WP.HX hU hm 0 (FT s h) rfl ?_ ?_
 ·rintro m ρ h' ⟨i,f,y,out,id,hy,hoi,hi,rfl,hf,hs,hid,⟨c0,c1,c2,c3,hob⟩,hl,r0,r5,r6,r7⟩
  refine .vc hU hm ?_;cases d1:((i:Int)==(s.length:Int))
  case true=>
   have e1:i=s.length:=by have:(i:Int)=s.length:=(by simpa using d1); omega
   subst e1;obtain ⟨f,rfl⟩:∃g,f=g+1:=⟨f - 1,by omega⟩
   rw [List.drop_length] at hl;simp only [qS] at hl;simp only [go_sem,r0,r5,r7,d1];refine hy.app (zs:= [fh ⟨7,s.length,0,[]⟩]) (by rw [FF]; decide) (by rw [JO]; decide) (fun k hk=>hk) (by rw [FF]; exact mR out) (by rw [FF]; exact mR [⟨7,s.length,0,[]⟩]) (by rw [JO]; simp; omega) fun y' h2 hy' hk2=> ?_
   simp only [go_sem];obtain ⟨q,rfl⟩:=hy'.row;refine .mk _ (yx _ _ _ _) hy'.1 ⟨?_,rfl⟩;rw [←hl,Js,List.map_append]; rfl
  have e1:i≠s.length:=by intro e; rw [e] at d1; simp at d1
  have hlt:i<s.length:=by omega
  obtain ⟨f,rfl⟩:∃g,f=g+1:=⟨f - 1,by omega⟩
  have hdr:s.drop i=s[i]::s.drop (i+1):=List.drop_eq_getElem_cons hlt;have w1:=Vd i (by omega)
  have hl2:=hl;rw [hdr] at hl2;simp only [qS] at hl2;rw [←hdr] at hl2;have blank:nF s[i]=true→∃m',m' <s.length - i∧True:=fun _=>⟨s.length - (i+1),by omega,trivial⟩
  cases d2:((s[i].toNat:Int)==32)
  case true=>
   have hb:nF s[i]=true:=by simp only [nF,d2,Bool.true_or]
   rw [if_pos hb] at hl2;simp only [go_sem,r0,r7,d1];refine .at i hlt ?_;simp only [go_sem,r7,cr,d2,w1];refine ⟨s.length - (i+1),by omega,i+1,f,y,out,id,hy,by omega,by omega,rfl,by omega,hs,hid,⟨c0,c1,c2,c3,hob⟩,hl2, ?_, ?_, ?_, ?_⟩<;>simp only [go_sem,r0,r5,r6]
  cases d3:((s[i].toNat:Int)==10)
  case true=>
   have hb:nF s[i]=true:=by simp only [nF,d3,Bool.or_true]
   rw [if_pos hb] at hl2;simp only [go_sem,r0,r7,d1];refine .at i hlt ?_;simp only [go_sem,r0,r7,cr,d2];refine .at i hlt ?_;simp only [go_sem,r7,cr,d3,w1];refine ⟨s.length - (i+1),by omega,i+1,f,y,out,id,hy,by omega,by omega,rfl,by omega,hs,hid,⟨c0,c1,c2,c3,hob⟩,hl2, ?_, ?_, ?_, ?_⟩<;>simp only [go_sem,r0,r5,r6]
  have hb:¬nF s[i]=true:=by simp only [nF,d2,d3]; decide
  rw [if_neg hb] at hl2;have hne:s.drop i≠ []:=fun e=>by have:=congrArg List.length e; simp at this; omega
  have hle:=pP (s.drop i) hne;have hdl:(s.drop i).length=s.length - i:=by simp
  have hbo:=fun hh eh=>D9 (s.drop i) hne (by omega) hh eh
  obtain ⟨t,n,etn⟩:∃t n,bL (s.drop i)=(t,n):=⟨_,_,rfl⟩;rw [etn] at hbo hl2 hle;simp only [fh] at hbo hl2 hle;simp only [go_sem,r0,r7,d1];refine .at i hlt ?_;simp only [go_sem,r0,r7,cr,d2];refine .at i hlt ?_;simp only [go_sem,r0,r7,cr,d3,j5,Option.isSome_none,Option.isSome_some,Int.toNat_natCast];refine ⟨by omega,by omega,by omega, ?_⟩
  refine (hbo _ (he.sub hy.1)).pthen ?_;cases d4:((n:Int)==0)
  case true=>
   have e4:n=0:=by have:(n:Int)=0:=(by simpa using d4); omega
   rw [if_pos e4] at hl2;simp only [go_sem,r6,r7,hob,d4];refine .mk _ (yx _ _ _ _) (hy.1.put hid _) ⟨?_,rfl⟩;rw [←hl2]; rfl
  have e4:n≠0:=by intro e; rw [e] at d4; simp at d4
  rw [if_neg e4] at hl2;have w2:IntKind.i64.wrap ((i:Int)+(n:Int))=((i+n:Nat):Int):=by rw [bw _ (by omega)]; omega
  simp only [go_sem,r5,r6,r7,hob,d4];refine (hy.put hid hob _).app (zs:= [fh {t with pos:=i}]) (by rw [FF]; decide) (by rw [JO]; decide) (fun k hk=>hk) (by rw [FF]; exact mR out) (by rw [FF]; exact mR [{t with pos:=i}]) (by rw [JO]; simp; omega) fun y' h2 hy' hk2=> ?_
  simp only [go_sem,r7,w2];refine ⟨s.length - (i+n),by omega,i+n,f,y',out++ [{t with pos:=i}],id,by simpa using hy',by simp; omega,by omega,rfl,by omega,hs,hid,⟨_,_,_,_,hk2 _ _ _ (ah ..)⟩, ?_, ?_, ?_, ?_, ?_⟩
  ·rw [List.drop_drop] at hl2; exact hl2
  all_goals simp only [go_sem,r0,r6]
 ·intro nx
  cases d0:decide (4096<(s.length:Int))
  case true=>
   have e0:s.length>4096:=by have:=U9 d0; omega
   refine .one hU hm ?_;simp only [go_sem,d0];exact .mk (.tup [.sl [] .no, .v (.int .i64 6), .v (.int .i64 4096)]) (eT (.tup [.sl [] .full, .v (.int .i64 6), .v (.int .i64 4096)])) (.refl _) ⟨by rw [pY,if_pos e0]; rfl,rfl⟩
  have e0:¬s.length>4096:=by have:=Va d0; omega
  refine .one hU hm ?_;simp only [go_sem,d0];refine .one hU hm ?_;simp only [go_sem];refine .one hU hm ?_;simp only [go_sem];intro id hid;simp only [go_sem];refine .one hU hm ?_;simp only [go_sem];refine .one hU hm ?_;simp only [go_sem];refine nx (s.length - 0) _ _ ⟨0,s.length+1,_,[],id, .full (.ai hid),by simp,by omega,rfl,by omega,by omega,hid,⟨_,_,_,_,ah ..⟩,by rw [pY,if_neg e0]; rfl, ?_, ?_, ?_, ?_⟩<;>simp only [go_sem]
def PO (st:PS):Blk:= .obj [.sl (st.ts.map fh) .no, .v (.int .i64 st.pos), .v (.int .i64 st.rules), .v (.int .i64 st.bad), .v (.int .i64 st.place)] 134
def PC (f:FuncId) (args:List AV) (st:PS) (R:AV) (st' :PS):Prop:=∀(h:Heap) (id:Nat),h id=some (PO st)→ak Tryz.prog f (.ptr id 0::args) h fun r h' =>r=R∧h' =upd h id (some (PO st'))
theorem PC.go {f:FuncId} {args:List AV} {st st' :PS} {R:AV} (hc:PC f args st R st') {h:Heap} {id:Nat} {Q:AV→Heap→Prop} (hid:h id=some (PO st)) (k:Q R (upd h id (some (PO st')))):ak Tryz.prog f (.ptr id 0::args) h Q:=
 (hc h id hid).mono fun r h' ⟨e1,e2⟩=>by subst e1; subst e2; exact k
theorem bX {h:Heap} {id:Nat} {b:Option Blk} (e:h id=b):upd h id b=h:=by
 funext j
 by_cases hj:j=id
 ·subst hj; rw [ah,e]
 ·rw [ag _ _ hj]
theorem oP (st:PS) (e p:Int):PC 62 [.v (.int .i64 e), .v (.int .i64 p)] st (.tup []) (bz st e p):=fun h id hid=>by
 refine ak.body hU hm Tryz.func62 rfl (by kernel_rfl) 19 rfl [] rfl (U6 rfl) (fun hwf=> ?_)
 have g:=hid;unfold PO at g;cases d1:(st.bad==0)
 ·have e1:st.bad≠0:=by simpa using d1
  simp only [go_sem,g,d1];exact .mk _ (.refl _) (.refl _) ⟨rfl,by rw [bz,if_neg e1,bX hid]⟩
 ·have e1:st.bad=0:=by simpa using d1
  simp only [go_sem,g,d1];exact .mk _ (.refl _) (.refl _) ⟨rfl,by rw [bz,if_pos e1]; rfl⟩
theorem j7 (st:PS) (hw:WfP st):PC 60 [] st (fh (aJ st)) st:=fun h id hid=>by
 refine ak.body hU hm Tryz.func60 rfl (by kernel_rfl) 13 rfl [.cell 2 137] rfl (U6 rfl) (fun hwf=> ?_)
 have g:=hid;unfold PO at g;simp only [go_sem];intro i2 hi2;have n2:id≠i2:=fun e=>by rw [e,hi2] at hid; cases hid
 simp only [go_sem,g,aj,n2];refine ⟨.of (by kernel_rfl), ?_⟩
 refine .at st.pos (by simpa using hw.1) (by rw [U8]; rfl) ?_
 simp only [go_sem,U8,fh];refine .mk _ (.refl _) (.ai hi2) ⟨by rw [Aw hw.1]; rfl,(bX hid).symm⟩
theorem jS (st:PS) (hw:WfP st):PC 61 [] st (.tup []) (bf st):=fun h id hid=>by
 refine ak.body hU hm Tryz.func61 rfl (by kernel_rfl) 7 rfl [] rfl (U6 rfl) (fun hwf=> ?_)
 simp only [go_sem];refine (j7 st hw).go hid ?_;rw [bX hid];simp only [go_sem,fh];refine (oP st 5 _).go hid ?_;simp only [go_sem];exact .mk _ (.refl _) (.refl _) ⟨rfl,rfl⟩
theorem cG (st:PS) (b:Bool) (hw:WfP st):PC 132 [.v (.bool b)] st (.tup []) (bB st b):=fun h id hid=>by
 refine ak.body hU hm Tryz.func132 rfl (by kernel_rfl) 10 rfl [] rfl (U6 rfl) (fun hwf=> ?_)
 cases b
 ·simp only [go_sem]
  exact .mk _ (.refl _) (.refl _) ⟨rfl,(bX hid).symm⟩
 simp only [go_sem];refine (j7 st hw).go hid ?_;rw [bX hid];simp only [go_sem,fh];refine (oP st 6 _).go hid ?_;simp only [go_sem];exact .mk _ (.refl _) (.refl _) ⟨rfl,rfl⟩
theorem qP (st:PS) (s:Txt) (hw:WfP st):PC 133 [.s s] st (.v (.bool (isD st s))) st:=fun h id hid=>by
 refine ak.body hU hm Tryz.func133 rfl (by kernel_rfl) 29 rfl [.tmp 4] rfl (U6 rfl) (fun hwf=> ?_)
 have g:=hid;unfold PO at g;simp only [go_sem];refine (j7 st hw).go hid ?_;rw [bX hid];simp only [go_sem,fh];intro i2 hi2;have n2:id≠i2:=fun e=>by rw [e,hi2] at hid; cases hid
 cases d1:(st.bad==0)<;>cases d2:((aJ st).s==s)<;>cases d3:((aJ st).kind==1)<;>cases d4:((aJ st).kind==6)
 all_goals
  simp only [go_sem,g,aj,n2,d1,d2,d3,d4];exact .mk _ (.refl _) (.ai hi2) ⟨by simp only [isD,d1,d2,d3,d4]; rfl,rfl⟩
theorem je (st:PS) (s:Txt) (hw:WfP st):PC 130 [.s s] st (.v (.bool (cm st s).1)) (cm st s).2:=fun h id hid=>by
 refine ak.body hU hm Tryz.func130 rfl (by kernel_rfl) 18 rfl [.tmp 4] rfl (U6 rfl) (fun hwf=> ?_)
 have g:=hid;unfold PO at g;simp only [go_sem];refine (qP st s hw).go hid ?_;rw [bX hid];cases d1:isD st s
 ·have e:cm st s=(false,st):=by simp [cm,d1]
  simp only [go_sem];exact .mk _ (.refl _) (.refl _) ⟨by rw [e]; rfl,by rw [e,bX hid]⟩
 ·have e:cm st s=(true,aY st):=by simp [cm,d1]
  have w1:IntKind.i64.wrap ((st.pos:Int)+1)=((st.pos+1:Nat):Int):=by have:=hw.1; have:=hw.2.2; rw [bw _ (by omega)]; omega
  simp only [go_sem,g,w1];exact .mk _ (.refl _) (.refl _) ⟨by rw [e]; rfl,by rw [e]; rfl⟩
theorem jB (st:PS) (s:Txt) (hw:WfP st):PC 99 [.s s] st (.tup []) (dH st s):=fun h id hid=>by
 refine ak.body hU hm Tryz.func99 rfl (by kernel_rfl) 10 rfl [] rfl (U6 rfl) (fun hwf=> ?_)
 simp only [go_sem];refine (je st s hw).go hid ?_;cases d1:isD st s
 ·have e:cm st s=(false,st):=by simp [cm,d1]
  rw [e,bX hid];simp only [go_sem];refine (jS st hw).go hid ?_;simp only [go_sem];exact .mk _ (.refl _) (.refl _) ⟨rfl,by simp [dH,d1]⟩
 ·have e:cm st s=(true,aY st):=by simp [cm,d1]
  rw [e];simp only [go_sem];exact .mk _ (.refl _) (.refl _) ⟨rfl,by simp [dH,d1]⟩
theorem rm (st:PS) (hw:WfP st):PC 97 [] st (.s (ck st).1) (ck st).2:=fun h id hid=>by
 refine ak.body hU hm Tryz.func97 rfl (by kernel_rfl) 25 rfl [.tmp 2] rfl (U6 rfl) (fun hwf=> ?_)
 have g:=hid;unfold PO at g;have w1:IntKind.i64.wrap ((st.pos:Int)+1)=((st.pos+1:Nat):Int):=by have:=hw.1; have:=hw.2.2; rw [bw _ (by omega)]; omega
 simp only [go_sem];refine (j7 st hw).go hid ?_;rw [bX hid];simp only [go_sem,fh];intro i2 hi2;have n2:id≠i2:=fun e=>by rw [e,hi2] at hid; cases hid
 cases d1:((aJ st).kind !=1)
 case true=>
  have e1:(aJ st).kind≠1:=by simpa using d1
  have en:ck st=([],bf st):=by simp [ck,e1]
  simp only [go_sem,d1];have hid2:upd h i2 (some (.obj [.v (.int .i64 (aJ st).kind), .v (.int .i64 (aJ st).pos), .v (.int .i64 (aJ st).n), .s (aJ st).s] 137)) id=some (PO st):=by rw [ag _ _ n2]; exact hid
  refine (jS st hw).go hid2 ?_;have hb:(bf st).bad≠0:=by
   unfold bf bz; split
   ·show (5:Int)≠0; decide
   ·assumption
  have d2:((bf st).bad !=0)=true:=by simpa using hb
  simp only [go_sem,PO,d2];exact .mk _ (.refl _) (Sub.both (.ai hi2) _ _) ⟨by rw [en]; rfl,by rw [en]; try rfl⟩
 have e1:(aJ st).kind=1:=by simpa using d1
 cases d2:(st.bad !=0)
 case true=>
  have e2:st.bad≠0:=by simpa using d2
  have en:ck st=([],st):=by simp [ck,e1,e2]
  simp only [go_sem,g,aj,n2,d1,d2];exact .mk _ (.refl _) (.ai hi2) ⟨by rw [en]; rfl,by rw [en]; exact (bX hid).symm⟩
 have e2:st.bad=0:=by simpa using d2
 have en:ck st=((aJ st).s,aY st):=by simp [ck,e1,e2]
 simp only [go_sem,g,aj,n2,n2.symm,d1,d2,w1];exact .mk _ (.refl _) (Sub.both (.ai hi2) _ _) ⟨by rw [en]; rfl,by rw [en]; try rfl⟩
theorem PC.run {f:FuncId} {args:List AV} {st st' :PS} {R:AV} (hc:PC f args st R st') {G:Heap} {id:Nat} {Q:AV→Heap→Prop} (k:Q R (upd G id (some (PO st')))):ak Tryz.prog f (.ptr id 0::args) (upd G id (some (PO st))) Q:=
 hc.go (ah ..) (by rw [mS]; exact k)
theorem PC.of {f:FuncId} {args:List AV} {st st' :PS} {R:AV} (hk:∀(G:Heap) (id:Nat),ak Tryz.prog f (.ptr id 0::args) (upd G id (some (PO st))) fun r h' =>r=R∧h' =upd G id (some (PO st'))):PC f args st R st' :=fun h id hid=>by
 have:=hk h id;rw [bX hid] at this;exact this
theorem cp {α:Type} (f:Nat→α) {i j:Nat} (x y:α) (h:i≠j):upd (upd f i x) j y=upd (upd f j y) i x:=by
 funext k
 by_cases hi:k=i
 ·subst hi; rw [ag _ _ h,ah,ah]
 ·by_cases hj:k=j
  ·subst hj; rw [ah,ag _ _ hi,ah]
  ·rw [ag _ _ hj,ag _ _ hi,ag _ _ hi,ag _ _ hj]
theorem zb {s:Txt}:∀ {ws:List Txt} {i:Nat},rV s ws=some i→i<ws.length
 |w::r,i,h=>by
  simp only [rV] at h;split at h
  ·cases h; simp
  ·cases hr:rV s r with
   |none=>rw [hr] at h; cases h
   |some j=>rw [hr] at h; cases h; have:=zb hr; simp; omega
theorem Dt {s:Txt}:∀ {ws:List Txt} (i:Nat) (hi:i<ws.length),(∀j (hj:j<ws.length),j<i→ws[j]≠s)→ws[i]=s→rV s ws=some i
 |w::r,0,_,_,h=>by simp only [List.getElem_cons_zero] at h; simp [rV,h]
 |w::r,i+1,hi,hb,h=>by
  have h0:=hb 0 (by simp) (by omega)
  simp only [List.getElem_cons_zero] at h0;simp only [rV,if_neg h0];rw [Dt i (by simpa using hi) (fun j hj hlt=>by have:=hb (j+1) (by simpa using hj) (by omega); simpa using this) (by simpa using h)]
  rfl
theorem xN {s:Txt}:∀ {ws:List Txt},(∀j (hj:j<ws.length),ws[j]≠s)→rV s ws=none
 | [],_=>rfl
 |w::r,hb=>by
  have h0:=hb 0 (by simp)
  simp only [List.getElem_cons_zero] at h0;simp only [rV,if_neg h0];rw [xN (fun j hj=>by have:=hb (j+1) (by simpa using hj); simpa using this)]
  rfl
def LA (o:Option Nat):Int:=match o with
 |some i=>i
 |none=> -1
theorem ER (ws:List Txt) (q:Perm) (s:Txt) (hl:ws.length≤1000) (h:Heap):ak Tryz.prog 129 [.sl (ws.map AV.s) q, .s s] h fun r h' =>r= .v (.int .i64 (LA (rV s ws)))∧h' =h:=by
 refine ak.body hU hm Tryz.func129 rfl (by kernel_rfl) 19 rfl [.tmp 4] rfl (U6 rfl) (fun hwf=> ?_)
 simp only [go_sem,U7];refine .intro (fun m ρ h' =>h' =h∧∃i:Nat,i≤ws.length∧m=ws.length - i∧(∀j (hj:j<ws.length),j<i→ws[j]≠s)∧lk ρ 0=some (.sl (ws.map AV.s) q)∧lk ρ 1=some (.s s)∧lk ρ 7=some (.v (.int .i64 ws.length))∧lk ρ 8=some (.v (.int .i64 i))) ws.length ?_ ?_
 ·refine ⟨rfl,0,by omega,rfl,fun j _ hj=>(by omega), ?_, ?_, ?_, ?_⟩<;>simp only [go_sem]
 ·rintro m ρ h' ⟨rfl,i,hi,rfl,hc,r0,r1,r7,r8⟩
  simp only [go_sem,r7,r8];refine .intro (fun e=> ?_) (fun e=> ?_)
  ·have hlt:i<ws.length:=Ve e
   have w1:=Vd i (by omega)
   simp only [go_sem,r0,r1,r8];refine .at i (by simpa using hlt) (by rw [U8]; rfl) ?_
   cases d1:(s==ws[i])
   ·have e1:ws[i]≠s:=by intro e; rw [e] at d1; simp at d1
    simp only [go_sem,r8,U8,d1,w1];refine ⟨_, ?_,rfl,i+1,by omega,rfl,fun j hj hji=> ?_, ?_, ?_, ?_, ?_⟩
    ·omega
    ·by_cases e:j=i
     ·subst e; exact e1
     ·exact hc j hj (by omega)
    all_goals simp only [go_sem,r0,r1,r7]
   ·have e1:ws[i]=s:=by have:s=ws[i]:=(by simpa using d1); exact this.symm
    simp only [go_sem,U8,d1];exact .same (.refl _) ⟨by rw [Dt i hlt hc e1]; rfl,rfl⟩
  ·have hge:i=ws.length:=by have:=Va e; omega
   subst hge;simp only [go_sem];exact .same (.refl _) ⟨by rw [xN fun j hj=>hc j hj hj]; rfl,rfl⟩
theorem lS (st:PS) (ws:List Txt) (q:Perm) (hl:ws.length≤1000) (hw:WfP st):PC 96 [.sl (ws.map AV.s) q] st (.v (.int .i64 (aW st ws).1)) (aW st ws).2:= .of fun G id=>by
 refine ak.body hU hm Tryz.func96 rfl (by kernel_rfl) 28 rfl [.tmp 4] rfl (U6 rfl) (fun hwf=> ?_)
 simp only [go_sem];refine (j7 st hw).run ?_;simp only [go_sem,fh];intro i2 hi2;have n2:=aF hi2;have hG2:G i2=none:=by rw [ag _ _ n2] at hi2; exact hi2
 have c2:∀(f:Heap) (x y:Option Blk),upd (upd f id x) i2 y=upd (upd f i2 y) id x:=fun f x y=>cp f x y n2.symm
 cases d1:((aJ st).kind==1)
 ·have e1:(aJ st).kind≠1:=by simpa using d1
  have en:aW st ws=(0,bf st):=by unfold aW; split<;>simp [e1]
  simp only [go_sem,c2,aj,n2,d1];refine (jS st hw).run ?_;simp only [go_sem];exact .mk _ (.refl _) (Sub.both (.ai hG2) _ _) ⟨by rw [en]; rfl,by rw [en]⟩
 have e1:(aJ st).kind=1:=by simpa using d1
 simp only [go_sem,c2,aj,n2,d1];refine (ER ws q _ hl _).pthen ?_;cases ei:rV (aJ st).s ws with
 |none=>
  have en:aW st ws=(0,bf st):=by simp [aW,ei]
  have dm:decide ((0:Int)≤ -1)=false:=by decide
  simp only [go_sem,LA,dm];refine (jS st hw).run ?_;simp only [go_sem];exact .mk _ (.refl _) (Sub.both (.ai hG2) _ _) ⟨by rw [en]; rfl,by rw [en]⟩
 |some i=>
  have hil:=zb ei;have d2:decide (0≤(i:Int))=true:=by simp
  have w1:IntKind.i64.wrap ((i:Int)+1)=((i:Int)+1):=by rw [bw _ (by omega)]
  simp only [go_sem,LA,d2,aj,n2];refine (je st _ hw).run ?_;cases d3:(st.bad==0)
  ·have e3:st.bad≠0:=by simpa using d3
   have et:cm st (aJ st).s=(false,st):=by simp [cm,isD,d3]
   have en:aW st ws=(0,bf st):=by simp [aW,ei,e3]
   rw [et];simp only [go_sem];refine (jS st hw).run ?_;simp only [go_sem];exact .mk _ (.refl _) (Sub.both (.ai hG2) _ _) ⟨by rw [en]; rfl,by rw [en]⟩
  ·have e3:st.bad=0:=by simpa using d3
   have et:cm st (aJ st).s=(true,aY st):=by simp [cm,isD,e3,e1]
   have en:aW st ws=((i:Int)+1,aY st):=by simp [aW,ei,e3,e1]
   rw [et];simp only [go_sem,w1];exact .mk _ (.refl _) (Sub.both (.ai hG2) _ _) ⟨by rw [en]; rfl,by rw [en]⟩
theorem F7 (st:PS) (hw:WfP st):PC 207 [] st (zJ (fA st).1) (fA st).2:= .of fun G id=>by
 have h1:=fQ sO hw;have h2:=ia [46] h1.1;have h3:=kY h2.1;refine ak.body hU hm Tryz.func207 rfl (by kernel_rfl) 17 rfl [.cell 2 214] rfl (U6 rfl) (fun hwf=> ?_)
 simp only [go_sem];intro i2 hi2;have n2:=aF hi2;have hG2:G i2=none:=by rw [ag _ _ n2] at hi2; exact hi2
 have c2:∀(f:Heap) (x y:Option Blk),upd (upd f id x) i2 y=upd (upd f i2 y) id x:=fun f x y=>cp f x y n2.symm
 simp only [go_sem,c2];intro i3 hi3;have n3:=aF hi3;have hi3' :=hi3;rw [ag _ _ n3] at hi3';have n32:=aF hi3';have hG3:G i3=none:=by rw [ag _ _ n32] at hi3'; exact hi3'
 have c3:∀(f:Heap) (x y:Option Blk),upd (upd f id x) i3 y=upd (upd f i3 y) id x:=fun f x y=>cp f x y n3.symm
 have c23:∀(f:Heap) (x y:Option Blk),upd (upd f i3 x) i2 y=upd (upd f i2 y) i3 x:=fun f x y=>cp f x y n32
 have m32:¬i3=i2:=n32;have m23:¬i2=i3:=n32.symm;simp only [go_sem,c3];refine (lS st sO .full (by decide) hw).run ?_
 simp only [go_sem,c3,aj,n3];refine (jB _ [46] h1.1).run ?_;simp only [go_sem];refine (rm _ h2.1).run ?_;simp only [go_sem,c3,aj,n3];refine (je _ [33] h3.1).run ?_;simp only [go_sem,c2,c3,c23,aj,n2,n3,m23];exact .mk _ (.refl _) (Sub.both (by repeat (first|exact .refl _|refine Sub.put ?_ (by assumption) _)) _ _) ⟨rfl,rfl⟩
set_option maxRecDepth 20000 in
theorem rG (st:PS) (hw:WfP st):PC 208 [] st (aT (aD st).1) (aD st).2:= .of fun G id=>by
 refine ak.body hU hm Tryz.func208 rfl (by kernel_rfl) 56 rfl [.cell 2 24] rfl (U6 rfl) (fun hwf=> ?_)
 have w1:IntKind.i64.wrap ((st.pos:Int)+1)=((st.pos+1:Nat):Int):=by have:=hw.1; have:=hw.2.2; rw [bw _ (by omega)]; omega
 simp only [go_sem];intro i2 hi2;have n2:=aF hi2;have hG2:G i2=none:=by rw [ag _ _ n2] at hi2; exact hi2
 have c2:∀(f:Heap) (x y:Option Blk),upd (upd f id x) i2 y=upd (upd f i2 y) id x:=fun f x y=>cp f x y n2.symm
 simp only [go_sem,c2];refine (j7 st hw).run ?_;simp only [go_sem,fh];intro i3 hi3;have n3:=aF hi3;have hi3' :=hi3;rw [ag _ _ n3] at hi3';have n32:=aF hi3';have hG3:G i3=none:=by rw [ag _ _ n32] at hi3'; exact hi3'
 have c3:∀(f:Heap) (x y:Option Blk),upd (upd f id x) i3 y=upd (upd f i3 y) id x:=fun f x y=>cp f x y n3.symm
 have c23:∀(f:Heap) (x y:Option Blk),upd (upd f i3 x) i2 y=upd (upd f i2 y) i3 x:=fun f x y=>cp f x y n32
 have m32:¬i3=i2:=n32;have m23:¬i2=i3:=n32.symm;simp only [go_sem,c3,aj,n3];intro i4 hi4;have n4:=aF hi4;have hi4' :=hi4;rw [ag _ _ n4] at hi4';have n43:=aF hi4';have hi4'' :=hi4';rw [ag _ _ n43] at hi4'';have n42:=aF hi4'';have hG4:G i4=none:=by rw [ag _ _ n42] at hi4''; exact hi4''
 have c4:∀(f:Heap) (x y:Option Blk),upd (upd f id x) i4 y=upd (upd f i4 y) id x:=fun f x y=>cp f x y n4.symm
 have c24:∀(f:Heap) (x y:Option Blk),upd (upd f i4 x) i2 y=upd (upd f i2 y) i4 x:=fun f x y=>cp f x y n42
 have c34:∀(f:Heap) (x y:Option Blk),upd (upd f i4 x) i3 y=upd (upd f i3 y) i4 x:=fun f x y=>cp f x y n43
 have m42:¬i4=i2:=n42;have m24:¬i2=i4:=n42.symm;have m43:¬i4=i3:=n43;have m34:¬i3=i4:=n43.symm;cases k2:((aJ st).kind==2)
 case true=>
  have e2:(aJ st).kind=2:=by simpa using k2
  have ev:fz st=(⟨2,(aJ st).n,(aJ st).s⟩,st):=by simp [fz,e2]
  cases kb:(st.bad !=0)
  ·have eb:st.bad=0:=by simpa using kb
   have en:aD st=(⟨2,(aJ st).n,(aJ st).s⟩,aY st):=by simp [aD,ev,eb]
   simp only [go_sem,c2,c4,c23,c24,aj,n2,n3,n4,m23,m24,m34,k2,PO,kb,w1];exact .mk (h' :=upd G id (some (PO (aD st).2))) _ (.refl _) (by rw [en]; exact Sub.both (by repeat (first|exact .refl _|refine Sub.put ?_ (by assumption) _)) _ _) ⟨by rw [en]; rfl,rfl⟩
  ·have eb:st.bad≠0:=by simpa using kb
   have en:aD st=(⟨0,0,[]⟩,st):=by simp [aD,ev,eb]
   simp only [go_sem,c2,c4,c23,c24,aj,n2,n3,n4,m23,m24,m34,k2,PO,kb];exact .mk (h' :=upd G id (some (PO (aD st).2))) _ (.refl _) (by rw [en]; exact Sub.both (by repeat (first|exact .refl _|refine Sub.put ?_ (by assumption) _)) _ _) ⟨by rw [en]; rfl,rfl⟩
 have e2:(aJ st).kind≠2:=by simpa using k2
 cases k3:((aJ st).kind==3)
 case true=>
  have e3:(aJ st).kind=3:=by simpa using k3
  have ev:fz st=(⟨4,(aJ st).n,(aJ st).s⟩,st):=by simp [fz,e3]
  cases kb:(st.bad !=0)
  ·have eb:st.bad=0:=by simpa using kb
   have en:aD st=(⟨4,(aJ st).n,(aJ st).s⟩,aY st):=by simp [aD,ev,eb]
   simp only [go_sem,c2,c4,c23,c24,aj,n2,n3,n4,m23,m24,m34,k2,k3,PO,kb,w1];exact .mk (h' :=upd G id (some (PO (aD st).2))) _ (.refl _) (by rw [en]; exact Sub.both (by repeat (first|exact .refl _|refine Sub.put ?_ (by assumption) _)) _ _) ⟨by rw [en]; rfl,rfl⟩
  ·have eb:st.bad≠0:=by simpa using kb
   have en:aD st=(⟨0,0,[]⟩,st):=by simp [aD,ev,eb]
   simp only [go_sem,c2,c4,c23,c24,aj,n2,n3,n4,m23,m24,m34,k2,k3,PO,kb];exact .mk (h' :=upd G id (some (PO (aD st).2))) _ (.refl _) (by rw [en]; exact Sub.both (by repeat (first|exact .refl _|refine Sub.put ?_ (by assumption) _)) _ _) ⟨by rw [en]; rfl,rfl⟩
 have e3:(aJ st).kind≠3:=by simpa using k3
 cases k4:((aJ st).kind==4)
 case true=>
  have e4:(aJ st).kind=4:=by simpa using k4
  have ev:fz st=(⟨5,(aJ st).n,(aJ st).s⟩,st):=by simp [fz,e4]
  cases kb:(st.bad !=0)
  ·have eb:st.bad=0:=by simpa using kb
   have en:aD st=(⟨5,(aJ st).n,(aJ st).s⟩,aY st):=by simp [aD,ev,eb]
   simp only [go_sem,c2,c4,c23,c24,aj,n2,n3,n4,m23,m24,m34,k2,k3,k4,PO,kb,w1];exact .mk (h' :=upd G id (some (PO (aD st).2))) _ (.refl _) (by rw [en]; exact Sub.both (by repeat (first|exact .refl _|refine Sub.put ?_ (by assumption) _)) _ _) ⟨by rw [en]; rfl,rfl⟩
  ·have eb:st.bad≠0:=by simpa using kb
   have en:aD st=(⟨0,0,[]⟩,st):=by simp [aD,ev,eb]
   simp only [go_sem,c2,c4,c23,c24,aj,n2,n3,n4,m23,m24,m34,k2,k3,k4,PO,kb];exact .mk (h' :=upd G id (some (PO (aD st).2))) _ (.refl _) (by rw [en]; exact Sub.both (by repeat (first|exact .refl _|refine Sub.put ?_ (by assumption) _)) _ _) ⟨by rw [en]; rfl,rfl⟩
 have e4:(aJ st).kind≠4:=by simpa using k4
 cases k5:((aJ st).kind==5)
 case true=>
  have e5:(aJ st).kind=5:=by simpa using k5
  have ev:fz st=(⟨3,(aJ st).n,(aJ st).s⟩,st):=by simp [fz,e5]
  cases kb:(st.bad !=0)
  ·have eb:st.bad=0:=by simpa using kb
   have en:aD st=(⟨3,(aJ st).n,(aJ st).s⟩,aY st):=by simp [aD,ev,eb]
   simp only [go_sem,c2,c4,c23,c24,aj,n2,n3,n4,m23,m24,m34,k2,k3,k4,k5,PO,kb,w1];exact .mk (h' :=upd G id (some (PO (aD st).2))) _ (.refl _) (by rw [en]; exact Sub.both (by repeat (first|exact .refl _|refine Sub.put ?_ (by assumption) _)) _ _) ⟨by rw [en]; rfl,rfl⟩
  ·have eb:st.bad≠0:=by simpa using kb
   have en:aD st=(⟨0,0,[]⟩,st):=by simp [aD,ev,eb]
   simp only [go_sem,c2,c4,c23,c24,aj,n2,n3,n4,m23,m24,m34,k2,k3,k4,k5,PO,kb];exact .mk (h' :=upd G id (some (PO (aD st).2))) _ (.refl _) (by rw [en]; exact Sub.both (by repeat (first|exact .refl _|refine Sub.put ?_ (by assumption) _)) _ _) ⟨by rw [en]; rfl,rfl⟩
 have e5:(aJ st).kind≠5:=by simpa using k5
 simp only [go_sem,c4,aj,n3,n4,m34,k2,k3,k4,k5];refine (qP st tM hw).run ?_;cases kt:isD st tM
 case true=>
  have ev:fz st=(⟨1,1,[]⟩,st):=by simp [fz,e2,e3,e4,e5,kt]
  cases kb:(st.bad !=0)
  ·have eb:st.bad=0:=by simpa using kb
   have en:aD st=(⟨1,1,[]⟩,aY st):=by simp [aD,ev,eb]
   simp only [go_sem,c2,c4,c23,c24,aj,n2,n4,m23,m24,PO,kb,w1];exact .mk (h' :=upd G id (some (PO (aD st).2))) _ (.refl _) (by rw [en]; exact Sub.both (by repeat (first|exact .refl _|refine Sub.put ?_ (by assumption) _)) _ _) ⟨by rw [en]; rfl,rfl⟩
  ·have eb:st.bad≠0:=by simpa using kb
   have en:aD st=(⟨0,0,[]⟩,st):=by simp [aD,ev,eb]
   simp only [go_sem,c2,c4,c23,c24,aj,n2,n4,m23,m24,PO,kb];exact .mk (h' :=upd G id (some (PO (aD st).2))) _ (.refl _) (by rw [en]; exact Sub.both (by repeat (first|exact .refl _|refine Sub.put ?_ (by assumption) _)) _ _) ⟨by rw [en]; rfl,rfl⟩
 simp only [go_sem];refine (qP st nP hw).run ?_;cases kf:isD st nP
 case true=>
  have ev:fz st=(⟨1,0,[]⟩,st):=by simp [fz,e2,e3,e4,e5,kt,kf]
  cases kb:(st.bad !=0)
  ·have eb:st.bad=0:=by simpa using kb
   have en:aD st=(⟨1,0,[]⟩,aY st):=by simp [aD,ev,eb]
   simp only [go_sem,c2,c4,c23,c24,aj,n2,n4,m23,m24,PO,kb,w1];exact .mk (h' :=upd G id (some (PO (aD st).2))) _ (.refl _) (by rw [en]; exact Sub.both (by repeat (first|exact .refl _|refine Sub.put ?_ (by assumption) _)) _ _) ⟨by rw [en]; rfl,rfl⟩
  ·have eb:st.bad≠0:=by simpa using kb
   have en:aD st=(⟨0,0,[]⟩,st):=by simp [aD,ev,eb]
   simp only [go_sem,c2,c4,c23,c24,aj,n2,n4,m23,m24,PO,kb];exact .mk (h' :=upd G id (some (PO (aD st).2))) _ (.refl _) (by rw [en]; exact Sub.both (by repeat (first|exact .refl _|refine Sub.put ?_ (by assumption) _)) _ _) ⟨by rw [en]; rfl,rfl⟩
 have ev:fz st=(⟨0,(aJ st).n,(aJ st).s⟩,bf st):=by simp [fz,e2,e3,e4,e5,kt,kf]
 have en:aD st=(⟨0,0,[]⟩,bf st):=by simp [aD,ev,oZ]
 have kb:((bf st).bad !=0)=true:=by simpa using oZ st
 simp only [go_sem];refine (jS st hw).run ?_;simp only [go_sem,c2,c23,c24,aj,n2,m23,m24,PO,kb];exact .mk (h' :=upd G id (some (PO (aD st).2))) _ (.refl _) (by rw [en]; exact Sub.both (by repeat (first|exact .refl _|refine Sub.put ?_ (by assumption) _)) _ _) ⟨by rw [en]; rfl,rfl⟩
def qX:List Txt:= [[61],[60],[62]]
theorem LY {st:PS} (i:Nat) (hi:i<qX.length) (hb:∀j (hj:j<qX.length),j<i→isD st qX[j]=false) (h:isD st qX[i]=true):opP st=((i:Int)+1,aY st):=by
 have h3:i<3:=hi;rcases (by omega:i=0∨i=1∨i=2) with rfl|rfl|rfl
 ·simp only [opP,show isD st [61]=true from h,if_true]; rfl
 ·simp only [opP,show isD st [61]=false from hb 0 (by decide) (by decide),show isD st [60]=true from h,if_true]; rfl
 ·simp only [opP,show isD st [61]=false from hb 0 (by decide) (by decide),show isD st [60]=false from hb 1 (by decide) (by decide),show isD st [62]=true from h,if_true]; rfl
theorem Hr {st:PS} (hb:∀j (hj:j<qX.length),isD st qX[j]=false):opP st=(0,bf st):=by
 simp only [opP,show isD st [61]=false from hb 0 (by decide),show isD st [60]=false from hb 1 (by decide),show isD st [62]=false from hb 2 (by decide)]; rfl
set_option maxRecDepth 20000 in
theorem Dz (st:PS) (hw:WfP st):PC 188 [] st (cZ (fN st).1) (fN st).2:= .of fun G id=>by
 have h1:=yJ hw;obtain ⟨a,st1,e1⟩:∃a st1,fA st=(a,st1):=⟨_,_,rfl⟩;have hat:=F7 st hw;rw [e1] at h1 hat;simp only at h1 hat;refine ak.body hU hm Tryz.func188 rfl (by kernel_rfl) 32 rfl [.cell 2 216] rfl (U6 rfl) (fun hwf=> ?_)
 simp only [go_sem];intro i2 hi2;have n2:=aF hi2;have hG2:G i2=none:=by rw [ag _ _ n2] at hi2; exact hi2
 have c2:∀(f:Heap) (x y:Option Blk),upd (upd f id x) i2 y=upd (upd f i2 y) id x:=fun f x y=>cp f x y n2.symm
 simp only [go_sem,c2];refine hat.run ?_;simp only [go_sem,zJ];intro i3 hi3;have n3:=aF hi3;have hi3' :=hi3;rw [ag _ _ n3] at hi3';have n32:=aF hi3';have hG3:G i3=none:=by rw [ag _ _ n32] at hi3'; exact hi3'
 have c3:∀(f:Heap) (x y:Option Blk),upd (upd f id x) i3 y=upd (upd f i3 y) id x:=fun f x y=>cp f x y n3.symm
 have c23:∀(f:Heap) (x y:Option Blk),upd (upd f i3 x) i2 y=upd (upd f i2 y) i3 x:=fun f x y=>cp f x y n32
 have m32:¬i3=i2:=n32;have m23:¬i2=i3:=n32.symm;simp only [go_sem,c3,aj,n3];refine .intro (fun m ρ H=>H=upd (upd (upd G i2 (some (.obj [.v (.int .i64 0), .s [], .v (.bool false), .v (.int .i64 0), .v (.int .i64 0), .v (.int .i64 0), .s []] 216))) i3 (some (.obj [.v (.int .i64 a.cat), .s a.name, .v (.bool a.must), .v (.int .i64 0), .v (.int .i64 0), .v (.int .i64 0), .s []] 216))) id (some (PO st1))∧
  ∃i:Nat,i≤3∧m=3 - i∧(∀j (hj:j<qX.length),j<i→isD st1 qX[j]=false)∧lk ρ 0=some (.ptr id 0)∧lk ρ 2=some (.ptr i2 0)∧lk ρ 3=some (.ptr i3 0)∧lk ρ 9=some (.sl (qX.map AV.s) .full)∧lk ρ 10=some (.v (.int .i64 3))∧lk ρ 11=some (.v (.int .i64 i))) 3 ?_ ?_
 ·refine ⟨rfl,0,by omega,rfl,fun j _ hj=>(by omega), ?_, ?_, ?_, ?_, ?_, ?_⟩<;>simp only [go_sem]<;>rfl
 ·rintro m ρ H ⟨rfl,i,hi,rfl,hb,r0,r2,r3,r9,r10,r11⟩
  simp only [go_sem,r10,r11];refine .intro (fun e=> ?_) (fun e=> ?_)
  ·have hlt:i<3:=by have:=U9 e; omega
   have hlo:i<qX.length:=hlt;have w1:=Vd i (by omega)
   have w2:IntKind.i64.wrap (1+(i:Int))=((i:Int)+1):=by rw [bw _ (by omega)]; omega
   simp only [go_sem,r9,r11];refine .at i (by simpa using hlo) (by rw [U8]; rfl) ?_
   simp only [go_sem,r0,U8];refine (je st1 qX[i] h1.1).run ?_;cases d1:isD st1 qX[i]
   ·have et:cm st1 qX[i]=(false,st1):=by simp [cm,d1]
    rw [et];simp only [go_sem,r11,w1];refine ⟨_, ?_,rfl,i+1,by omega,rfl,fun j hj hji=> ?_, ?_, ?_, ?_, ?_, ?_, ?_⟩
    ·omega
    ·by_cases e:j=i
     ·subst e; exact d1
     ·exact hb j hj (by omega)
    all_goals simp only [go_sem,r0,r2,r3,r9,r10]
   ·have et:cm st1 qX[i]=(true,aY st1):=by simp [cm,d1]
    have eo:=LY i hlo hb d1;have h2:Ah st1 (aY st1):=dJ h1.1 (cC d1);have en:fN st=(⟨a,(i:Int)+1,(aD (aY st1)).1⟩,(aD (aY st1)).2):=by simp [fN,e1,eo]
    have d2:(((i:Int)+1)==0)=false:=by simp; omega
    rw [et];simp only [go_sem,c3,aj,n3,r0,r3,w2,d2];refine (rG (aY st1) h2.1).run ?_;simp only [go_sem,c2,c3,c23,aj,n2,n3,m23,aT,r2,r3];exact .mk (h' :=upd G id (some (PO (fN st).2))) _ (.refl _) (by rw [en]; exact Sub.both (by repeat (first|exact .refl _|refine Sub.put ?_ (by assumption) _)) _ _) ⟨by rw [en]; rfl,rfl⟩
  ·have hge:i=3:=by have:=Va e; omega
   subst hge;have eo:=Hr fun j hj=>hb j hj hj
   have h2:Ah st1 (bf st1):=kG h1.1;have en:fN st=(⟨a,0,(aD (bf st1)).1⟩,(aD (bf st1)).2):=by simp [fN,e1,eo]
   simp only [go_sem,r0,r3,aj,n3];refine (jS st1 h1.1).run ?_;simp only [go_sem,r0];refine (rG (bf st1) h2.1).run ?_;simp only [go_sem,c2,c3,c23,aj,n2,n3,m23,aT,r2,r3];exact .mk (h' :=upd G id (some (PO (fN st).2))) _ (.refl _) (by rw [en]; exact Sub.both (by repeat (first|exact .refl _|refine Sub.put ?_ (by assumption) _)) _ _) ⟨by rw [en]; rfl,rfl⟩
theorem Mm:(U 216).sz=7:=by simp only [go_sem]
theorem OY:(U 216).bytes=72:=by simp only [go_sem]
theorem DS (l:List bJ):Sized 7 (l.map cZ):=fun z hz=>by
 obtain ⟨c,_,rfl⟩:=List.mem_map.1 hz; rfl
theorem Ml:(U 191).sz=1:=by simp only [go_sem]
theorem OX:(U 191).bytes=24:=by simp only [go_sem]
theorem DR (l:List (List bJ)):Sized 1 (l.map gH):=fun z hz=>by
 obtain ⟨c,_,rfl⟩:=List.mem_map.1 hz; rfl
theorem Mo:(U 190).sz=1:=by simp only [go_sem]
theorem O0:(U 190).bytes=24:=by simp only [go_sem]
theorem DU (l:List (List (List bJ))):Sized 1 (l.map cI):=fun z hz=>by
 obtain ⟨c,_,rfl⟩:=List.mem_map.1 hz; rfl
theorem J4 (st:PS) (hw:WfP st):PC 165 [] st (gH (nh st).1) (nh st).2:= .of fun G id=>by
 have h1:=nC hw;have hm1:=Dz st hw;obtain ⟨x0,st1,e1⟩:∃x0 st1,fN st=(x0,st1):=⟨_,_,rfl⟩;have ep:fm fN [44] 8 st.ts.length st1 [x0]=nh st:=by simp only [nh,e1]
 rw [e1] at h1 hm1;simp only [cZ] at h1 hm1;refine ak.body hU hm Tryz.func165 rfl (by kernel_rfl) 20 rfl [.tmp 2] rfl (U6 rfl) (fun hwf=> ?_)
 simp only [go_sem];refine hm1.run ?_;simp only [go_sem];have hB:upd G id none id=none:=ah ..;refine .intro (fun m ρ H=>∃(f:Nat) (st' :PS) (l:List _) (y:AV),H id=some (PO st')∧Acc U 216 (upd G id none) H y (l.map cZ)∧Ah st1 st'∧fm fN [44] 8 f st' l=nh st∧st1.ts.length≤f+st'.pos∧l.length≤st'.pos+1∧m=st1.ts.length - st'.pos∧lk ρ 0=some (.ptr id 0)∧lk ρ 3=some y) (st1.ts.length - st1.pos) ?_ ?_
 ·refine ⟨st.ts.length,st1,[x0], .sl ([x0].map cZ) .full,ah .., .full (base_start G id _), .refl h1.1,ep,by rw [h1.2.1]; omega,by simp,rfl, ?_, ?_⟩<;>simp only [go_sem]<;>rfl
 ·rintro m ρ H ⟨f,st',l,y,hH,hy,ha,hfin,hf,hll,rfl,r0,r3⟩
  have hlen:=ha.1.2.2;have hpos:=ha.1.1;have htl:=ha.2.1;simp only [go_sem,r0];refine (je st' [44] ha.1).go hH ?_;cases d1:isD st' [44]
  ·have et:cm st' [44]=(false,st'):=by simp [cm,d1]
   have ef:fm fN [44] 8 f st' l=(l,st'):=by cases f<;>simp [fm,d1]
   rw [et,bX hH];rw [ef] at hfin;simp only [go_sem,r3];exact .mk (h' :=upd G id (some (PO (nh st).2))) (gH l) hy.weak (by rw [←hfin]; exact eN hy.1 hH) ⟨by rw [←hfin],rfl⟩
  ·have et:cm st' [44]=(true,aY st'):=by simp [cm,d1]
   obtain ⟨g,rfl⟩:∃g,f=g+1:=⟨f - 1,by rw [htl] at hpos; omega⟩
   simp only [fm,d1,if_true] at hfin;have h2:=dJ ha.1 (cC d1);have hone:=Dz (aY st') h2.1;have h3:=(fun _ h=>nC h:∀st,WfP st→Ah st (fN st).2) _ h2.1
   obtain ⟨x,st2,e2⟩:∃x st2,fN (aY st')=(x,st2):=⟨_,_,rfl⟩;rw [e2] at hfin hone h3;simp only [cZ] at hfin hone h3;have hdec:decide ((8:Int)<((l.length+1:Nat):Int))=decide (8<l.length+1):=by
    by_cases h:8<l.length+1
    ·simp only [h,decide_true]; exact decide_eq_true (by omega)
    ·simp only [h,decide_false]; exact decide_eq_false (by omega)
   have h4:=jI (decide (8<l.length+1)) h3.1;have hnp:(aY st').pos=st'.pos+1:=rfl;have hp3:=h3.2.2;have hp4:=h4.2.2;rw [et];simp only [go_sem,r0,r3];refine hone.run ?_;simp only [go_sem];refine (hy.put hB hH _).app (zs:= [cZ x]) (by rw [Mm]; decide) (by rw [OY]; decide) (fun k hk=>hk) (by rw [Mm]; exact DS l) (by rw [Mm]; exact DS [x]) (by rw [OY]; simp; omega) fun y' H2 hy' hk2=> ?_
   have hH2:H2 id=some (PO st2):=hk2 _ _ _ (ah ..);simp only [go_sem,r0,hy'.len,Vb,U7,List.length_cons,List.length_nil,Nat.zero_add,hdec];refine (cG st2 _ h3.1).go hH2 ?_;simp only [go_sem];refine ⟨_, ?_,g,bB st2 (decide (8<l.length+1)),l++ [x],y',ah ..,by rw [List.map_append]; exact hy'.put hB hH2 _,(((ha.trans h2).trans h3).trans h4),hfin,by omega,by simp; omega,rfl, ?_, ?_⟩
   ·have:st1.ts.length=st'.ts.length:=by rw [htl]
    omega
   all_goals simp only [go_sem,r0]
theorem J5 (st:PS) (hw:WfP st):PC 131 [] st (cI (o8 st).1) (o8 st).2:= .of fun G id=>by
 have h0:=ia [40] hw;have h1:=yH h0.1;have hm1:=J4 _ h0.1;obtain ⟨x0,st1,e1⟩:∃x0 st1,nh (dH st [40])=(x0,st1):=⟨_,_,rfl⟩;obtain ⟨M,eM⟩:∃M,fm nh orT 8 st.ts.length st1 [x0]=M:=⟨_,rfl⟩;have epp:(M.1,dH M.2 [41])=o8 st:=by simp only [o8,e1,eM]
 rw [e1] at h1 hm1;simp only [gH] at h1 hm1;refine ak.body hU hm Tryz.func131 rfl (by kernel_rfl) 24 rfl [.tmp 2] rfl (U6 rfl) (fun hwf=> ?_)
 simp only [go_sem];refine (jB st [40] hw).run ?_;simp only [go_sem];refine hm1.run ?_;simp only [go_sem];have hB:upd G id none id=none:=ah ..;refine .intro (fun m ρ H=>∃(f:Nat) (st' :PS) (l:List _) (y:AV),H id=some (PO st')∧Acc U 191 (upd G id none) H y (l.map gH)∧Ah st1 st'∧fm nh orT 8 f st' l=M∧st1.ts.length≤f+st'.pos∧l.length≤st'.pos+1∧m=st1.ts.length - st'.pos∧lk ρ 0=some (.ptr id 0)∧lk ρ 3=some y) (st1.ts.length - st1.pos) ?_ ?_
 ·refine ⟨st.ts.length,st1,[x0], .sl ([x0].map gH) .full,ah .., .full (base_start G id _), .refl h1.1,eM,by rw [h1.2.1,h0.2.1]; omega,by simp,rfl, ?_, ?_⟩<;>simp only [go_sem]<;>rfl
 ·rintro m ρ H ⟨f,st',l,y,hH,hy,ha,hfin,hf,hll,rfl,r0,r3⟩
  have hlen:=ha.1.2.2;have hpos:=ha.1.1;have htl:=ha.2.1;simp only [go_sem,r0];refine (je st' orT ha.1).go hH ?_;cases d1:isD st' orT
  ·have et:cm st' orT=(false,st'):=by simp [cm,d1]
   have ef:fm nh orT 8 f st' l=(l,st'):=by cases f<;>simp [fm,d1]
   rw [et,bX hH];rw [ef] at hfin;simp only [go_sem,r0];refine (jB st' [41] ha.1).go hH ?_;simp only [go_sem,r3];exact .mk (h' :=upd G id (some (PO (o8 st).2))) (cI l) hy.weak (by rw [←epp,←hfin]; exact eN (hy.1.put hB _) (ah ..)) ⟨by rw [←epp,←hfin],rfl⟩
  ·have et:cm st' orT=(true,aY st'):=by simp [cm,d1]
   obtain ⟨g,rfl⟩:∃g,f=g+1:=⟨f - 1,by rw [htl] at hpos; omega⟩
   simp only [fm,d1,if_true] at hfin;have h2:=dJ ha.1 (cC d1);have hone:=J4 (aY st') h2.1;have h3:=(fun _ h=>yH h:∀st,WfP st→Ah st (nh st).2) _ h2.1
   obtain ⟨x,st2,e2⟩:∃x st2,nh (aY st')=(x,st2):=⟨_,_,rfl⟩;rw [e2] at hfin hone h3;simp only [gH] at hfin hone h3;have hdec:decide ((8:Int)<((l.length+1:Nat):Int))=decide (8<l.length+1):=by
    by_cases h:8<l.length+1
    ·simp only [h,decide_true]; exact decide_eq_true (by omega)
    ·simp only [h,decide_false]; exact decide_eq_false (by omega)
   have h4:=jI (decide (8<l.length+1)) h3.1;have hnp:(aY st').pos=st'.pos+1:=rfl;have hp3:=h3.2.2;have hp4:=h4.2.2;rw [et];simp only [go_sem,r0,r3];refine hone.run ?_;simp only [go_sem];refine (hy.put hB hH _).app (zs:= [gH x]) (by rw [Ml]; decide) (by rw [OX]; decide) (fun k hk=>hk) (by rw [Ml]; exact DR l) (by rw [Ml]; exact DR [x]) (by rw [OX]; simp; omega) fun y' H2 hy' hk2=> ?_
   have hH2:H2 id=some (PO st2):=hk2 _ _ _ (ah ..);simp only [go_sem,r0,hy'.len,Vb,U7,List.length_cons,List.length_nil,Nat.zero_add,hdec];refine (cG st2 _ h3.1).go hH2 ?_;simp only [go_sem];refine ⟨_, ?_,g,bB st2 (decide (8<l.length+1)),l++ [x],y',ah ..,by rw [List.map_append]; exact hy'.put hB hH2 _,(((ha.trans h2).trans h3).trans h4),hfin,by omega,by simp; omega,rfl, ?_, ?_⟩
   ·have:st1.ts.length=st'.ts.length:=by rw [htl]
    omega
   all_goals simp only [go_sem,r0]
theorem KB (st:PS) (hw:WfP st):PC 98 [] st (aS (fZ st).1) (fZ st).2:= .of fun G id=>by
 refine ak.body hU hm Tryz.func98 rfl (by kernel_rfl) 23 rfl [.tmp 2] rfl (U6 rfl) (fun hwf=> ?_)
 simp only [go_sem];refine (je st BD hw).run ?_;cases d0:isD st BD
 ·have et:cm st BD=(false,st):=by simp [cm,d0]
  have ep:fZ st=([],st):=by simp [fZ,d0]
  rw [et];simp only [go_sem];exact .mk (h' :=upd G id (some (PO (fZ st).2))) (aS []) (.sl _ _) (by rw [ep]; exact .refl _) ⟨by rw [ep],rfl⟩
 have et:cm st BD=(true,aY st):=by simp [cm,d0]
 have h0:=dJ hw (cC d0);have h1:=yI h0.1;have hm1:=J5 _ h0.1;obtain ⟨x0,st1,e1⟩:∃x0 st1,o8 (aY st)=(x0,st1):=⟨_,_,rfl⟩;obtain ⟨M,eM⟩:∃M,fm o8 zG 8 st.ts.length st1 [x0]=M:=⟨_,rfl⟩;have ep:M=fZ st:=by simp only [fZ,d0,if_true,e1,eM]
 rw [e1] at h1 hm1;simp only [cI] at h1 hm1;rw [et];simp only [go_sem];refine hm1.run ?_;simp only [go_sem];have hB:upd G id none id=none:=ah ..;refine .intro (fun m ρ H=>∃(f:Nat) (st' :PS) (l:List _) (y:AV),H id=some (PO st')∧Acc U 190 (upd G id none) H y (l.map cI)∧Ah st1 st'∧fm o8 zG 8 f st' l=M∧st1.ts.length≤f+st'.pos∧l.length≤st'.pos+1∧m=st1.ts.length - st'.pos∧lk ρ 0=some (.ptr id 0)∧lk ρ 3=some y) (st1.ts.length - st1.pos) ?_ ?_
 ·refine ⟨st.ts.length,st1,[x0], .sl ([x0].map cI) .full,ah .., .full (base_start G id _), .refl h1.1,eM,by rw [h1.2.1,h0.2.1]; omega,by simp,rfl, ?_, ?_⟩<;>simp only [go_sem]<;>rfl
 ·rintro m ρ H ⟨f,st',l,y,hH,hy,ha,hfin,hf,hll,rfl,r0,r3⟩
  have hlen:=ha.1.2.2;have hpos:=ha.1.1;have htl:=ha.2.1;simp only [go_sem,r0];refine (je st' zG ha.1).go hH ?_;cases d1:isD st' zG
  ·have et:cm st' zG=(false,st'):=by simp [cm,d1]
   have ef:fm o8 zG 8 f st' l=(l,st'):=by cases f<;>simp [fm,d1]
   rw [et,bX hH];rw [ef] at hfin;simp only [go_sem,r3];exact .mk (h' :=upd G id (some (PO (fZ st).2))) (aS l) hy.weak (by rw [←ep,←hfin]; exact eN hy.1 hH) ⟨by rw [←ep,←hfin],rfl⟩
  ·have et:cm st' zG=(true,aY st'):=by simp [cm,d1]
   obtain ⟨g,rfl⟩:∃g,f=g+1:=⟨f - 1,by rw [htl] at hpos; omega⟩
   simp only [fm,d1,if_true] at hfin;have h2:=dJ ha.1 (cC d1);have hone:=J5 (aY st') h2.1;have h3:=(fun _ h=>yI h:∀st,WfP st→Ah st (o8 st).2) _ h2.1
   obtain ⟨x,st2,e2⟩:∃x st2,o8 (aY st')=(x,st2):=⟨_,_,rfl⟩;rw [e2] at hfin hone h3;simp only [cI] at hfin hone h3;have hdec:decide ((8:Int)<((l.length+1:Nat):Int))=decide (8<l.length+1):=by
    by_cases h:8<l.length+1
    ·simp only [h,decide_true]; exact decide_eq_true (by omega)
    ·simp only [h,decide_false]; exact decide_eq_false (by omega)
   have h4:=jI (decide (8<l.length+1)) h3.1;have hnp:(aY st').pos=st'.pos+1:=rfl;have hp3:=h3.2.2;have hp4:=h4.2.2;rw [et];simp only [go_sem,r0,r3];refine hone.run ?_;simp only [go_sem];refine (hy.put hB hH _).app (zs:= [cI x]) (by rw [Mo]; decide) (by rw [O0]; decide) (fun k hk=>hk) (by rw [Mo]; exact DU l) (by rw [Mo]; exact DU [x]) (by rw [O0]; simp; omega) fun y' H2 hy' hk2=> ?_
   have hH2:H2 id=some (PO st2):=hk2 _ _ _ (ah ..);simp only [go_sem,r0,hy'.len,Vb,U7,List.length_cons,List.length_nil,Nat.zero_add,hdec];refine (cG st2 _ h3.1).go hH2 ?_;simp only [go_sem];refine ⟨_, ?_,g,bB st2 (decide (8<l.length+1)),l++ [x],y',ah ..,by rw [List.map_append]; exact hy'.put hB hH2 _,(((ha.trans h2).trans h3).trans h4),hfin,by omega,by simp; omega,rfl, ?_, ?_⟩
   ·have:st1.ts.length=st'.ts.length:=by rw [htl]
    omega
   all_goals simp only [go_sem,r0]
theorem AU (op:Int) (h:Heap):ak Tryz.prog 227 [.v (.int .i64 op)] h fun r h' =>r= .sl ((opers op).map iP) .no∧h' =h:=by
 refine ak.body hU hm Tryz.func227 rfl (by kernel_rfl) 15 rfl [.tmp 2] rfl (U6 rfl) (fun hwf=> ?_)
 cases k3:(op==3)<;>cases k4:(op==4)<;>cases k5:(op==5)<;>cases k11:(op==11)
 all_goals
  simp only [go_sem,k3,k4,k5,k11];simp only [beq_iff_eq,beq_eq_false_iff_ne] at k3 k4 k5 k11;refine .mk _ (.sl _ _) (.refl _) ⟨?_,rfl⟩;simp [opers,k3,k4,k5,k11,iP]
theorem Mn:(U 64).sz=3:=by simp only [go_sem]
theorem OZ:(U 64).bytes=32:=by simp only [go_sem]
theorem DT (l:List cA):Sized 3 (l.map bk):=fun z hz=>by
 obtain ⟨c,_,rfl⟩:=List.mem_map.1 hz; rfl
set_option maxRecDepth 20000 in
theorem qC (st:PS) (hw:WfP st):PC 102 [] st (ax (fK st).1) (fK st).2:= .of fun G id=>by
 obtain ⟨M,eM⟩:∃M,fK st=M:=⟨_,rfl⟩;have eM2:fm vI tr 8 st.ts.length st []=M:=eM;refine ak.body hU hm Tryz.func102 rfl (by kernel_rfl) 28 rfl [.tmp 2] rfl (U6 rfl) (fun hwf=> ?_)
 simp only [go_sem];have hB:upd G id none id=none:=ah ..;refine .intro (fun m ρ H=>∃(f:Nat) (st' :PS) (l:List cA) (y:AV),H id=some (PO st')∧Acc U 64 (upd G id none) H y (l.map bk)∧Ah st st'∧fm vI tr 8 f st' l=M∧st.ts.length≤f+st'.pos∧l.length≤st'.pos+1∧m=st.ts.length - st'.pos∧lk ρ 0=some (.ptr id 0)∧lk ρ 3=some y) (st.ts.length - st.pos) ?_ ?_
 ·refine ⟨st.ts.length,st,[], .sl ([].map bk) .full,ah .., .full (base_start G id _), .refl hw,eM2,by omega,by simp,rfl, ?_, ?_⟩<;>simp only [go_sem]<;>rfl
 ·rintro m ρ H ⟨f,st',l,y,hH,hy,ha,hfin,hf,hll,rfl,r0,r3⟩
  have hlen:=ha.1.2.2;have hpos:=ha.1.1;have htl:=ha.2.1;simp only [go_sem,r0];refine (je st' tr ha.1).go hH ?_;cases d1:isD st' tr
  ·have et:cm st' tr=(false,st'):=by simp [cm,d1]
   have ef:fm vI tr 8 f st' l=(l,st'):=by cases f<;>simp [fm,d1]
   rw [et,bX hH];rw [ef] at hfin;simp only [go_sem,r3];exact .mk (h' :=upd G id (some (PO (fK st).2))) (ax l) hy.weak (by rw [eM,←hfin]; exact eN hy.1 hH) ⟨by rw [eM,←hfin],rfl⟩
  ·have et:cm st' tr=(true,aY st'):=by simp [cm,d1]
   obtain ⟨g,rfl⟩:∃g,f=g+1:=⟨f - 1,by rw [htl] at hpos; omega⟩
   simp only [fm,d1,if_true] at hfin;have h2:=dJ ha.1 (cC d1);have ho1:=fQ sk h2.1;have ho2:=fQ kI ho1.1;have ho3:=kY ho2.1;have h3:Ah (aY st') (vI (aY st')).2:=F3 h2.1;have hdec:decide ((8:Int)<((l.length+1:Nat):Int))=decide (8<l.length+1):=by
    by_cases h:8<l.length+1
    ·simp only [h,decide_true]; exact decide_eq_true (by omega)
    ·simp only [h,decide_false]; exact decide_eq_false (by omega)
   have h4:=jI (decide (8<l.length+1)) h3.1;have hnp:(aY st').pos=st'.pos+1:=rfl;have hp3:=h3.2.2;have hp4:=h4.2.2;have eX:(vI (aY st'))=(⟨(aW (aY st') sk).1,(aW (aW (aY st') sk).2 kI).1,(ck (aW (aW (aY st') sk).2 kI).2).1⟩,(ck (aW (aW (aY st') sk).2 kI).2).2):=rfl;obtain ⟨x,st2,e2⟩:∃x st2,vI (aY st')=(x,st2):=⟨_,_,rfl⟩;rw [et];simp only [go_sem];intro i4 hi4;have n4:=aF hi4;have hH4:H i4=none:=by rw [ag _ _ n4] at hi4; exact hi4
   have c4:∀(f:Heap) (x y:Option Blk),upd (upd f id x) i4 y=upd (upd f i4 y) id x:=fun f x y=>cp f x y n4.symm
   simp only [go_sem,r0,c4];refine (lS _ sk .full (by decide) h2.1).run ?_
   simp only [go_sem,r0,c4,aj,n4];refine (lS _ kI .full (by decide) ho1.1).run ?_
   simp only [go_sem,r0,c4,aj,n4];refine (rm _ ho2.1).run ?_;simp only [go_sem,r3,c4,aj,n4];rw [e2] at hfin h3 h4 hp3 hp4;simp only at hfin h3 h4 hp3 hp4;have ex1:x=(vI (aY st')).1:=by rw [e2]
   have ex2:st2=(ck (aW (aW (aY st') sk).2 kI).2).2:=by
    have:st2=(vI (aY st')).2:=by rw [e2]
    exact this
   rw [←ex2];refine ((hy.sub (Sub.ai (k:=_) hH4)).put hB (by rw [ag _ _ n4.symm]; exact hH) _).app (zs:= [bk x]) (by rw [Mn]; decide) (by rw [OZ]; decide) (fun k hk=>by rw [ex1] at hk; exact hk) (by rw [Mn]; exact DT l) (by rw [Mn]; exact DT [x]) (by rw [OZ]; simp; omega) fun y' H2 hy' hk2=> ?_
   have hH2:H2 id=some (PO st2):=hk2 _ _ _ (ah ..);simp only [go_sem,r0,hy'.len,Vb,U7,List.length_cons,List.length_nil,Nat.zero_add,hdec];refine (cG st2 _ h3.1).go hH2 ?_;simp only [go_sem];refine ⟨_, ?_,g,bB st2 (decide (8<l.length+1)),l++ [x],y',ah ..,by rw [List.map_append]; exact hy'.put hB hH2 _,(((ha.trans h2).trans h3).trans h4),hfin,by omega,by simp; omega,rfl, ?_, ?_⟩
   ·have:st.ts.length=st'.ts.length:=by rw [htl]
    omega
   all_goals simp only [go_sem,r0]
theorem qs {U:TypeId→TI} {e:TypeId} {B B' H:Heap} {y:AV} {xs:List AV} (hs:Sub B B') (ha:Acc U e B' H y xs):Acc U e B H y xs:=by
 obtain ⟨h1,rfl|⟨k,i1,rfl,i2⟩⟩:=ha
 ·exact ⟨hs.trans h1, .inl rfl⟩
 ·refine ⟨hs.trans h1, .inr ⟨k, ?_,rfl,i2⟩⟩
  cases hk:B k with
  |none=>rfl
  |some b=>rw [hs _ _ hk] at i1; cases i1
theorem uz {U:TypeId→TI} {e:TypeId} {B H:Heap} {y:AV} {xs:List AV} (ha:Acc U e B H y xs) {i:Nat} (hi:H i=none) (b:Option Blk):Acc U e (upd B i b) (upd H i b) y xs:=by
 obtain ⟨h1,rfl|⟨k,i1,rfl,i2⟩⟩:=ha
 ·exact ⟨h1.both _ _, .inl rfl⟩
 ·have hne:k≠i:=fun hh=>by subst hh; rw [hi] at i2; cases i2
  exact ⟨h1.both _ _, .inr ⟨k,by rw [ag _ _ hne]; exact i1,rfl,by rw [ag _ _ hne]; exact i2⟩⟩
theorem lR {U:TypeId→TI} {e:TypeId} {G K:Heap} {id:Nat} {st:PS} {y:AV} {xs:List AV} (ha:Acc U e (upd G id none) (upd K id (some (PO st))) y xs) (st' :PS):Acc U e (upd G id none) (upd K id (some (PO st'))) y xs:=by
 have:=ha.put (id:=id) (ah ..) (cs:=_) (t:=_) (ah ..) (some (PO st'));rw [mS] at this;exact this
def XC (f:FuncId) (args:List AV) (st:PS) (l:List aN) (mk:AV→AV) (st' :PS) (l' :List aN):Prop:=
 ∀(G K:Heap) (id:Nat) (y:AV),Acc U 226 (upd G id none) (upd K id (some (PO st))) y (l.map cU)→ak Tryz.prog f (.ptr id 0::y::args) (upd K id (some (PO st))) fun r h' =>∃y',r=mk y'∧h' id=some (PO st')∧Acc U 226 (upd G id none) h' y' (l'.map cU)
theorem XC.run {f:FuncId} {args:List AV} {st st' :PS} {l l' :List aN} {mk:AV→AV} (hc:XC f args st l mk st' l') {G K:Heap} {id:Nat} {y:AV} {Q:AV→Heap→Prop} (ha:Acc U 226 (upd G id none) (upd K id (some (PO st))) y (l.map cU))
  (k:∀y' K',Acc U 226 (upd G id none) (upd K' id (some (PO st'))) y' (l'.map cU)→Q (mk y') (upd K' id (some (PO st')))):ak Tryz.prog f (.ptr id 0::y::args) (upd K id (some (PO st))) Q:=
 (hc G K id y ha).mono fun r h' ⟨y',e1,e2,e3⟩=>by
  subst e1;have:=k y' h' (by rw [bX e2]; exact e3)
  rwa [bX e2] at this
def EH (ex:ExF) (f:Nat):Prop:=∀st l,WfP st→st.ts.length≤f+st.pos→l.length≤2*st.pos+1→XC 189 [] st l (fun y=> .tup [y, .v (.bool (ex st l).1.2)]) (ex st l).2 (ex st l).1.1
theorem D5 (st:PS) (ws:List Txt):0≤(aW st ws).1∧(aW st ws).1≤ws.length:=by
 unfold aW;cases ei:rV (aJ st).s ws with
 |none=>simp
 |some i=>
  have:=zb ei;simp only;split<;>simp<;>omega
theorem xV {ex:ExF} (ho:BG ex) {f:Nat} (he:EH ex f) (st:PS) (l:List aN) (b:Bool) (hw:WfP st) (hf:st.ts.length≤f+st.pos) (hl:l.length≤2*st.pos+1):XC 166 [.v (.bool b)] st l (fun y=>y) (gA ex st l b).2 (gA ex st l b).1:=fun G K id y ha=>by
 refine ak.body hU hm Tryz.func166 rfl (by kernel_rfl) 25 rfl [.tmp 6] rfl (U6 rfl) (fun hwf=> ?_)
 simp only [go_sem];refine (j7 st hw).run ?_;simp only [go_sem,fh];refine (he st l hw hf hl).run ha fun y' K' ha' => ?_
 cases db:((ex st l).1.2==b)
 ·have e1:(ex st l).1.2≠b:=by simpa using db
  have en:gA ex st l b=((ex st l).1.1,bz (ex st l).2 5 (aJ st).pos):=by simp [gA,e1]
  simp only [go_sem,db,Bool.not_false];refine (oP _ 5 _).run ?_;simp only [go_sem];exact .mk (h' :=upd K' id (some (PO (bz (ex st l).2 5 (aJ st).pos)))) y' (.refl _) (.refl _) ⟨y',rfl,by rw [en]; exact ah ..,by rw [en]; exact lR ha' _⟩
 ·have e1:(ex st l).1.2=b:=by simpa using db
  have en:gA ex st l b=((ex st l).1.1,(ex st l).2):=by simp [gA,e1]
  simp only [go_sem,db,Bool.not_true];exact .mk (h' :=upd K' id (some (PO (ex st l).2))) y' (.refl _) (.refl _) ⟨y',rfl,by rw [en]; exact ah ..,by rw [en]; exact ha'⟩
set_option maxRecDepth 20000 in
theorem Ce {ex:ExF} (ho:BG ex) {f:Nat} (he:EH ex f) (st:PS) (l:List aN) (hw:WfP st) (hf:st.ts.length≤f+st.pos) (hl:l.length+1≤2*st.pos):XC 209 [] st l (fun y=> .tup [y,cU (nR ex st l).1.2]) (nR ex st l).2 (nR ex st l).1.1:=fun G K id y ha=>by
 have h1:=fQ jZ hw;have hrg:=D5 st jZ;have hfl:jZ.length=11:=rfl;have w2:IntKind.i64.wrap (2+(aW st jZ).1)=2+(aW st jZ).1:=by rw [bw _ (by omega)]
 refine ak.body hU hm Tryz.func209 rfl (by kernel_rfl) 36 rfl [.tmp 4, .cell 5 226] rfl (U6 rfl) (fun hwf=> ?_)
 simp only [go_sem];intro i5 hi5;have n5:=aF hi5;have hK5:K i5=none:=by rw [ag _ _ n5] at hi5; exact hi5
 have c5:∀(f:Heap) (x y:Option Blk),upd (upd f id x) i5 y=upd (upd f i5 y) id x:=fun f x y=>cp f x y n5.symm
 simp only [go_sem,c5];refine (lS _ jZ .full (by decide) hw).run ?_
 simp only [go_sem,w2];intro i6 hi6;have n6:=aF hi6;have c6:∀(f:Heap) (x y:Option Blk),upd (upd f id x) i6 y=upd (upd f i6 y) id x:=fun f x y=>cp f x y n6.symm
 have hi6' :=hi6;rw [ag _ _ n6] at hi6';have n65:=aF hi6';have hK6:K i6=none:=by rw [ag _ _ n65] at hi6'; exact hi6'
 simp only [go_sem,c6,aj,n6];refine (AU _ _).pthen ?_;simp only [go_sem];have h5f:=ha;obtain ⟨bs,ebs⟩:∃bs,opers (2+(aW st jZ).1)=bs:=⟨_,rfl⟩;obtain ⟨M,eM⟩:∃M,iC ex bs (aW st jZ).2 l=M:=⟨_,rfl⟩;have hb2:bs.length≤2:=by rw [←ebs]; exact AW _
 have hMr:nR ex st l=((M.1,⟨2+(aW st jZ).1,⟨0,0,[]⟩,⟨0,[],false⟩⟩),dH M.2 [41]):=by simp only [nR,ebs,eM]
 obtain ⟨st1,es1⟩:∃st1,(aW st jZ).2=st1:=⟨_,rfl⟩;have hac0:=uz (uz (lR ha st1) (by rw [ag _ _ n5]; exact hK5) (some (.obj [.v (.int .i64 0), .v (.int .i64 0), .v (.int .i64 0), .s [], .v (.int .i64 0), .s [], .v (.bool false)] 226))) (by rw [ag _ _ n65,ag _ _ n6]; exact hK6) (some (.obj [.v (.int .i64 (2+(aW st jZ).1)), .v (.int .i64 0), .v (.int .i64 0), .s [], .v (.int .i64 0), .s [], .v (.bool false)] 226))
 simp only [c5,c6] at hac0;obtain ⟨G',eG⟩:∃G',G' =upd (upd G i5 (some (.obj [.v (.int .i64 0), .v (.int .i64 0), .v (.int .i64 0), .s [], .v (.int .i64 0), .s [], .v (.bool false)] 226))) i6 (some (.obj [.v (.int .i64 (2+(aW st jZ).1)), .v (.int .i64 0), .v (.int .i64 0), .s [], .v (.int .i64 0), .s [], .v (.bool false)] 226)):=⟨_,rfl⟩;have g5:upd G' id none i5=some (.obj [.v (.int .i64 0), .v (.int .i64 0), .v (.int .i64 0), .s [], .v (.int .i64 0), .s [], .v (.bool false)] 226):=by rw [eG,ag _ _ n5,ag _ _ (Ne.symm n65),ah]
 have g6:upd G' id none i6=some (.obj [.v (.int .i64 (2+(aW st jZ).1)), .v (.int .i64 0), .v (.int .i64 0), .s [], .v (.int .i64 0), .s [], .v (.bool false)] 226):=by rw [eG,ag _ _ n6,ah]
 rw [←eG] at hac0;have gi5:upd G id none i5=none:=by
  cases hk:upd G id none i5 with
  |none=>rfl
  |some b=>rw [ha.1 _ _ hk] at hi5; cases hi5
 have hsG:Sub (upd G id none) (upd G' id none):=fun k b hk=>by
  have hs1:=ha.1 k b hk;have hk5:k≠i5:=fun e=>by rw [e,hi5] at hs1; cases hs1
  have hk6:k≠i6:=fun e=>by
   rw [e,ag _ _ n6,hK6] at hs1; cases hs1
  by_cases hkid:k=id
  ·subst hkid; rw [ah] at hk; cases hk
  ·rw [ag _ _ hkid] at hk⊢
   rw [eG,ag _ _ hk6,ag _ _ hk5]; exact hk
 simp only [es1,ebs] at h1 eM⊢;refine .intro (fun m ρ H=>∃(i:Nat) (st' :PS) (l' :List aN) (y' :AV) (K' :Heap),H=upd K' id (some (PO st'))∧Acc U 226 (upd G' id none) (upd K' id (some (PO st'))) y' (l'.map cU)∧Ah st1 st'∧i≤bs.length∧iC ex (bs.drop i) st' l' =M∧l'.length+1≤2*st'.pos+i∧m=bs.length - i∧lk ρ 0=some (.ptr id 0)∧lk ρ 1=some y'∧lk ρ 5=some (.ptr i5 0)∧lk ρ 6=some (.ptr i6 0)∧lk ρ 16=some (.sl (bs.map iP) .no)∧lk ρ 17=some (.v (.int .i64 bs.length))∧lk ρ 18=some (.v (.int .i64 i))) bs.length ?_ ?_
 ·refine ⟨0,st1,l,y,_,rfl,hac0, .refl h1.1,by omega,by simpa using eM,by have:=h1.2.2; omega,rfl, ?_, ?_, ?_, ?_, ?_, ?_, ?_⟩<;>simp only [go_sem]<;>(try rfl)<;>simp
 ·rintro m ρ H ⟨i,st',l',y',K',rfl,hac,hah,hi,hfin,hll,rfl,r0,r1,r5,r6,r16,r17,r18⟩
  simp only [go_sem,r17,r18];have k6:upd K' id (some (PO st')) i6=some (.obj [.v (.int .i64 (2+(aW st jZ).1)), .v (.int .i64 0), .v (.int .i64 0), .s [], .v (.int .i64 0), .s [], .v (.bool false)] 226):=hac.1 _ _ g6;have k5:upd K' id (some (PO st')) i5=some (.obj [.v (.int .i64 0), .v (.int .i64 0), .v (.int .i64 0), .s [], .v (.int .i64 0), .s [], .v (.bool false)] 226):=hac.1 _ _ g5;rw [ag _ _ n6] at k6;rw [ag _ _ n5] at k5;refine .intro (fun e=> ?_) (fun e=> ?_)
  ·have hlt:i<bs.length:=Ve e
   simp only [go_sem,r16,r18];refine .at i (by simpa using hlt) (by rw [U8]; rfl) ?_
   cases db:(st'.bad !=0)
   ·have e1:st'.bad=0:=by simpa using db
    rw [List.drop_eq_getElem_cons hlt] at hfin;simp only [iC,e1,if_true] at hfin;simp only [go_sem,r0,r1,U8,iP,PO,db];have hpl:=hah.2.2;refine (xV ho he st' l' bs[i] hah.1 (by rw [hah.2.1,h1.2.1]; have:=h1.2.2; omega) (by omega)).run hac fun y2 K2 hac2=> ?_
    obtain ⟨q1,q2⟩:=vJ ho st' l' bs[i] hah.1;have w1:=Vd i (by omega)
    simp only [go_sem,r18,w1];refine ⟨_, ?_,i+1,(gA ex st' l' bs[i]).2,(gA ex st' l' bs[i]).1,y2,K2,rfl,hac2,hah.trans q1,hlt,hfin,by omega,rfl, ?_⟩
    ·omega
    refine ⟨?_, ?_, ?_, ?_, ?_, ?_, ?_⟩
    all_goals simp only [go_sem,r0,r5,r6,r16,r17]
   ·have e1:st'.bad≠0:=by simpa using db
    have hfin2:(l',st')=M:=by
     rw [←hfin,List.drop_eq_getElem_cons hlt];simp [iC,e1]
    clear hfin;have hfin:=hfin2;simp only [go_sem,r0,U8,iP,PO,db];refine (jB _ [41] hah.1).run ?_;simp only [go_sem,r1,r5,r6,aj,n5,n6,k5,k6];refine ⟨.of (by kernel_rfl), ?_⟩
    exact .mk (.tup [y',cU ⟨2+(aW st jZ).1,⟨0,0,[]⟩,⟨0,[],false⟩⟩]) (.refl _) (.refl _) ⟨y',by rw [hMr],by rw [hMr,←hfin]; exact (ag _ _ (Ne.symm n5)).trans (ah ..),by rw [hMr,←hfin]; exact (qs hsG (lR hac (dH st' [41]))).put gi5 ((ag _ _ n5).trans k5) _⟩
  ·have hge:i=bs.length:=by have:=Va e; omega
   subst hge;rw [List.drop_length] at hfin;simp only [iC] at hfin;simp only [go_sem,r0];refine (jB _ [41] hah.1).run ?_;simp only [go_sem,r1,r5,r6,aj,n5,n6,k5,k6];refine ⟨.of (by kernel_rfl), ?_⟩
   exact .mk (.tup [y',cU ⟨2+(aW st jZ).1,⟨0,0,[]⟩,⟨0,[],false⟩⟩]) (.refl _) (.refl _) ⟨y',by rw [hMr],by rw [hMr,←hfin]; exact (ag _ _ (Ne.symm n5)).trans (ah ..),by rw [hMr,←hfin]; exact (qs hsG (lR hac (dH st' [41]))).put gi5 ((ag _ _ n5).trans k5) _⟩
theorem qk:(U 226).sz=7:=by simp only [go_sem]
theorem xd:(U 226).bytes=72:=by simp only [go_sem]
theorem jF (l:List aN):Sized 7 (l.map cU):=fun z hz=>by
 obtain ⟨c,_,rfl⟩:=List.mem_map.1 hz; rfl
set_option maxRecDepth 20000 in
theorem Lx (f:Nat) (ih:EH (dP f) f):EH (dP (f+1)) (f+1):=fun st l hw hf hl G K id y ha=>by
 refine ak.body hU hm Tryz.func189 rfl (by kernel_rfl) 52 rfl [.tmp 4, .tmp 5] rfl (U6 rfl) (fun hwf=> ?_)
 simp only [go_sem];intro i6 hi6;have n6:=aF hi6;have hK6:K i6=none:=by rw [ag _ _ n6] at hi6; exact hi6
 have c6:∀(f:Heap) (x y:Option Blk),upd (upd f id x) i6 y=upd (upd f i6 y) id x:=fun f x y=>cp f x y n6.symm
 have gi6:upd G id none i6=none:=by
  cases hk:upd G id none i6 with
  |none=>rfl
  |some b=>rw [ha.1 _ _ hk] at hi6; cases hi6
 have hac:=uz ha hi6 (some (.obj [.v (.int .i64 0), .v (.int .i64 0), .v (.int .i64 0), .s [], .v (.int .i64 0), .s [], .v (.bool false)] 226));simp only [go_sem,c6];refine (j7 st hw).run ?_;simp only [go_sem,fh];intro i7 hi7;have n7:=aF hi7;have hi7' :=hi7;rw [ag _ _ n7] at hi7';have n76:=aF hi7';have m76:¬i7=i6:=n76;have m67:¬i6=i7:=fun e=>n76 e.symm
 have hK7:K i7=none:=by rw [ag _ _ n76] at hi7'; exact hi7'
 have c7:∀(f:Heap) (x y:Option Blk),upd (upd f id x) i7 y=upd (upd f i7 y) id x:=fun f x y=>cp f x y n7.symm
 have e6:upd (upd G id none) i6 (some (.obj [.v (.int .i64 0), .v (.int .i64 0), .v (.int .i64 0), .s [], .v (.int .i64 0), .s [], .v (.bool false)] 226))=upd (upd G i6 (some (.obj [.v (.int .i64 0), .v (.int .i64 0), .v (.int .i64 0), .s [], .v (.int .i64 0), .s [], .v (.bool false)] 226))) id none:=c6 G none _;have hac7:∀k,Acc U 226 (upd (upd G i6 (some (.obj [.v (.int .i64 0), .v (.int .i64 0), .v (.int .i64 0), .s [], .v (.int .i64 0), .s [], .v (.bool false)] 226))) id none) (upd (upd (upd K i6 (some (.obj [.v (.int .i64 0), .v (.int .i64 0), .v (.int .i64 0), .s [], .v (.int .i64 0), .s [], .v (.bool false)] 226))) i7 k) id (some (PO st))) y (l.map cU):=fun k=>by
  have:=hac.sub (Sub.ai (k:=k) (by rw [c6]; exact hi7))
  rw [e6,c6 K,c7] at this;exact this
 have hsG:Sub (upd G id none) (upd (upd G i6 (some (.obj [.v (.int .i64 0), .v (.int .i64 0), .v (.int .i64 0), .s [], .v (.int .i64 0), .s [], .v (.bool false)] 226))) id none):=by
  rw [←e6]; exact Sub.ai gi6
 have g6:upd (upd G i6 (some (.obj [.v (.int .i64 0), .v (.int .i64 0), .v (.int .i64 0), .s [], .v (.int .i64 0), .s [], .v (.bool false)] 226))) id none i6=some (.obj [.v (.int .i64 0), .v (.int .i64 0), .v (.int .i64 0), .s [], .v (.int .i64 0), .s [], .v (.bool false)] 226):=by rw [←e6,ah]
 simp only [go_sem,c7,aj,n7];refine (je st [40] hw).run ?_;have hacX:∀tk NB st',Acc U 226 (upd G id none) (upd (upd (upd (upd K i6 (some (.obj [.v (.int .i64 0), .v (.int .i64 0), .v (.int .i64 0), .s [], .v (.int .i64 0), .s [], .v (.bool false)] 226))) i7 tk) i6 NB) id (some (PO st'))) y (l.map cU):=fun tk NB st' =>by
  have:=(lR (qs hsG (hac7 tk)) st').put gi6 ((ag _ _ n6).trans ((ag _ _ m67).trans (ah ..))) NB;rw [c6] at this;exact this
 obtain ⟨⟨⟨lh,n⟩,sth⟩,eh⟩:∃x,gZ (dP f) st l=x:=⟨_,rfl⟩;obtain ⟨hha,hhl⟩:=Au (nO f) st l hw;rw [eh] at hha hhl;simp only at hha hhl;have hwp:=hha.1.2.2;have hwq:=hha.1.1;have hpl:=hha.2.2;have hdec:decide ((32:Int)<((lh.length+1:Nat):Int))=decide (32<lh.length+1):=by
  by_cases h:32<lh.length+1
  ·simp only [h,decide_true]; exact decide_eq_true (by omega)
  ·simp only [h,decide_false]; exact decide_eq_false (by omega)
 cases d0:isD st [40]
 ·have et:cm st [40]=(false,st):=by simp [cm,d0]
  rw [et];cases d1:((aJ st).kind==1)
  ·have en:gZ (dP f) st l=((l,⟨1,(aD st).1,⟨0,[],false⟩⟩),(aD st).2):=by
    have:(aJ st).kind≠1:=by simpa using d1
    simp [gZ,d0,this]
   simp only [go_sem,aj,n7,d1];refine (rG st hw).run ?_;rw [en] at eh;injection eh with eh1 eh2
   injection eh1 with eh3 eh4
   subst eh2;subst eh3;subst eh4;simp only [go_sem,c6,aj,n6,m67,aT];refine (hacX _ _ _).app (zs:= [cU (⟨1,(aD st).1,⟨0,[],false⟩⟩:aN)]) (by rw [qk]; decide) (by rw [xd]; decide) (fun k hk=>hk) (by rw [qk]; exact jF _) (by rw [qk]; exact jF [(⟨1,(aD st).1,⟨0,[],false⟩⟩:aN)]) (by rw [xd]; simp; omega) fun y3 H3 hy3 hk3=> ?_
   have hH3:H3 id=some (PO (aD st).2):=hk3 _ _ _ (ah ..);have hb3:H3 i6=some (.obj [.v (.int .i64 (⟨1,(aD st).1,⟨0,[],false⟩⟩:aN).op), .v (.int .i64 (⟨1,(aD st).1,⟨0,[],false⟩⟩:aN).val.kind), .v (.int .i64 (⟨1,(aD st).1,⟨0,[],false⟩⟩:aN).val.n), .s (⟨1,(aD st).1,⟨0,[],false⟩⟩:aN).val.s, .v (.int .i64 (⟨1,(aD st).1,⟨0,[],false⟩⟩:aN).attr.cat), .s (⟨1,(aD st).1,⟨0,[],false⟩⟩:aN).attr.name, .v (.bool (⟨1,(aD st).1,⟨0,[],false⟩⟩:aN).attr.must)] 226):=hk3 _ _ _ ((ag _ _ n6).trans (ah ..));simp only [go_sem,hy3.len,Vb,U7,List.length_cons,List.length_nil,Nat.zero_add,hdec];refine (cG (aD st).2 _ hha.1).go hH3 ?_;simp only [go_sem,aj,n6,hb3];refine ⟨.of (by kernel_rfl), ?_⟩
   have efin:dP (f+1) st l=((l++ [(⟨1,(aD st).1,⟨0,[],false⟩⟩:aN)],(⟨1,(aD st).1,⟨0,[],false⟩⟩:aN).op==2),bB (aD st).2 (decide (32<l.length+1))):=by simp only [dP,en]
   exact .mk (.tup [y3, .v (.bool ((⟨1,(aD st).1,⟨0,[],false⟩⟩:aN).op==2))]) (.refl _) (.refl _) ⟨y3,by rw [efin],by rw [efin]; exact ah ..,by rw [efin,List.map_append]; exact hy3.put (ah ..) hH3 _⟩
  ·have k1:(aJ st).kind=1:=by simpa using d1
   cases d2:((aJ st).s== [116,114,117,101])
   ·have k2:(aJ st).s≠tM:=by unfold tM; simpa using d2
    cases d3:((aJ st).s== [102,97,108,115,101])
    ·have k3:(aJ st).s≠nP:=by unfold nP; simpa using d3
     have en:gZ (dP f) st l=((l,⟨2,⟨0,0,[]⟩,(fA st).1⟩),(fA st).2):=by simp [gZ,d0,k1,k2,k3]
     simp only [go_sem,aj,n7,d1,d2,d3,Bool.not_false];refine (F7 st hw).run ?_;rw [en] at eh;injection eh with eh1 eh2
     injection eh1 with eh3 eh4
     subst eh2;subst eh3;subst eh4;simp only [go_sem,c6,aj,n6,m67,zJ];refine (hacX _ _ _).app (zs:= [cU (⟨2,⟨0,0,[]⟩,(fA st).1⟩:aN)]) (by rw [qk]; decide) (by rw [xd]; decide) (fun k hk=>hk) (by rw [qk]; exact jF _) (by rw [qk]; exact jF [(⟨2,⟨0,0,[]⟩,(fA st).1⟩:aN)]) (by rw [xd]; simp; omega) fun y3 H3 hy3 hk3=> ?_
     have hH3:H3 id=some (PO (fA st).2):=hk3 _ _ _ (ah ..);have hb3:H3 i6=some (.obj [.v (.int .i64 (⟨2,⟨0,0,[]⟩,(fA st).1⟩:aN).op), .v (.int .i64 (⟨2,⟨0,0,[]⟩,(fA st).1⟩:aN).val.kind), .v (.int .i64 (⟨2,⟨0,0,[]⟩,(fA st).1⟩:aN).val.n), .s (⟨2,⟨0,0,[]⟩,(fA st).1⟩:aN).val.s, .v (.int .i64 (⟨2,⟨0,0,[]⟩,(fA st).1⟩:aN).attr.cat), .s (⟨2,⟨0,0,[]⟩,(fA st).1⟩:aN).attr.name, .v (.bool (⟨2,⟨0,0,[]⟩,(fA st).1⟩:aN).attr.must)] 226):=hk3 _ _ _ ((ag _ _ n6).trans (ah ..));simp only [go_sem,hy3.len,Vb,U7,List.length_cons,List.length_nil,Nat.zero_add,hdec];refine (cG (fA st).2 _ hha.1).go hH3 ?_;simp only [go_sem,aj,n6,hb3];refine ⟨.of (by kernel_rfl), ?_⟩
     have efin:dP (f+1) st l=((l++ [(⟨2,⟨0,0,[]⟩,(fA st).1⟩:aN)],(⟨2,⟨0,0,[]⟩,(fA st).1⟩:aN).op==2),bB (fA st).2 (decide (32<l.length+1))):=by simp only [dP,en]
     exact .mk (.tup [y3, .v (.bool ((⟨2,⟨0,0,[]⟩,(fA st).1⟩:aN).op==2))]) (.refl _) (.refl _) ⟨y3,by rw [efin],by rw [efin]; exact ah ..,by rw [efin,List.map_append]; exact hy3.put (ah ..) hH3 _⟩
    ·have k3:(aJ st).s=nP:=by unfold nP; simpa using d3
     have en:gZ (dP f) st l=((l,⟨1,(aD st).1,⟨0,[],false⟩⟩),(aD st).2):=by simp [gZ,d0,k1,k3]
     simp only [go_sem,aj,n7,d1,d2,d3,Bool.not_false,Bool.not_true];refine (rG st hw).run ?_;rw [en] at eh;injection eh with eh1 eh2
     injection eh1 with eh3 eh4
     subst eh2;subst eh3;subst eh4;simp only [go_sem,c6,aj,n6,m67,aT];refine (hacX _ _ _).app (zs:= [cU (⟨1,(aD st).1,⟨0,[],false⟩⟩:aN)]) (by rw [qk]; decide) (by rw [xd]; decide) (fun k hk=>hk) (by rw [qk]; exact jF _) (by rw [qk]; exact jF [(⟨1,(aD st).1,⟨0,[],false⟩⟩:aN)]) (by rw [xd]; simp; omega) fun y3 H3 hy3 hk3=> ?_
     have hH3:H3 id=some (PO (aD st).2):=hk3 _ _ _ (ah ..);have hb3:H3 i6=some (.obj [.v (.int .i64 (⟨1,(aD st).1,⟨0,[],false⟩⟩:aN).op), .v (.int .i64 (⟨1,(aD st).1,⟨0,[],false⟩⟩:aN).val.kind), .v (.int .i64 (⟨1,(aD st).1,⟨0,[],false⟩⟩:aN).val.n), .s (⟨1,(aD st).1,⟨0,[],false⟩⟩:aN).val.s, .v (.int .i64 (⟨1,(aD st).1,⟨0,[],false⟩⟩:aN).attr.cat), .s (⟨1,(aD st).1,⟨0,[],false⟩⟩:aN).attr.name, .v (.bool (⟨1,(aD st).1,⟨0,[],false⟩⟩:aN).attr.must)] 226):=hk3 _ _ _ ((ag _ _ n6).trans (ah ..));simp only [go_sem,hy3.len,Vb,U7,List.length_cons,List.length_nil,Nat.zero_add,hdec];refine (cG (aD st).2 _ hha.1).go hH3 ?_;simp only [go_sem,aj,n6,hb3];refine ⟨.of (by kernel_rfl), ?_⟩
     have efin:dP (f+1) st l=((l++ [(⟨1,(aD st).1,⟨0,[],false⟩⟩:aN)],(⟨1,(aD st).1,⟨0,[],false⟩⟩:aN).op==2),bB (aD st).2 (decide (32<l.length+1))):=by simp only [dP,en]
     exact .mk (.tup [y3, .v (.bool ((⟨1,(aD st).1,⟨0,[],false⟩⟩:aN).op==2))]) (.refl _) (.refl _) ⟨y3,by rw [efin],by rw [efin]; exact ah ..,by rw [efin,List.map_append]; exact hy3.put (ah ..) hH3 _⟩
   ·have k2:(aJ st).s=tM:=by unfold tM; simpa using d2
    have en:gZ (dP f) st l=((l,⟨1,(aD st).1,⟨0,[],false⟩⟩),(aD st).2):=by simp [gZ,d0,k1,k2]
    simp only [go_sem,aj,n7,d1,d2,Bool.not_true];refine (rG st hw).run ?_;rw [en] at eh;injection eh with eh1 eh2
    injection eh1 with eh3 eh4
    subst eh2;subst eh3;subst eh4;simp only [go_sem,c6,aj,n6,m67,aT];refine (hacX _ _ _).app (zs:= [cU (⟨1,(aD st).1,⟨0,[],false⟩⟩:aN)]) (by rw [qk]; decide) (by rw [xd]; decide) (fun k hk=>hk) (by rw [qk]; exact jF _) (by rw [qk]; exact jF [(⟨1,(aD st).1,⟨0,[],false⟩⟩:aN)]) (by rw [xd]; simp; omega) fun y3 H3 hy3 hk3=> ?_
    have hH3:H3 id=some (PO (aD st).2):=hk3 _ _ _ (ah ..);have hb3:H3 i6=some (.obj [.v (.int .i64 (⟨1,(aD st).1,⟨0,[],false⟩⟩:aN).op), .v (.int .i64 (⟨1,(aD st).1,⟨0,[],false⟩⟩:aN).val.kind), .v (.int .i64 (⟨1,(aD st).1,⟨0,[],false⟩⟩:aN).val.n), .s (⟨1,(aD st).1,⟨0,[],false⟩⟩:aN).val.s, .v (.int .i64 (⟨1,(aD st).1,⟨0,[],false⟩⟩:aN).attr.cat), .s (⟨1,(aD st).1,⟨0,[],false⟩⟩:aN).attr.name, .v (.bool (⟨1,(aD st).1,⟨0,[],false⟩⟩:aN).attr.must)] 226):=hk3 _ _ _ ((ag _ _ n6).trans (ah ..));simp only [go_sem,hy3.len,Vb,U7,List.length_cons,List.length_nil,Nat.zero_add,hdec];refine (cG (aD st).2 _ hha.1).go hH3 ?_;simp only [go_sem,aj,n6,hb3];refine ⟨.of (by kernel_rfl), ?_⟩
    have efin:dP (f+1) st l=((l++ [(⟨1,(aD st).1,⟨0,[],false⟩⟩:aN)],(⟨1,(aD st).1,⟨0,[],false⟩⟩:aN).op==2),bB (aD st).2 (decide (32<l.length+1))):=by simp only [dP,en]
    exact .mk (.tup [y3, .v (.bool ((⟨1,(aD st).1,⟨0,[],false⟩⟩:aN).op==2))]) (.refl _) (.refl _) ⟨y3,by rw [efin],by rw [efin]; exact ah ..,by rw [efin,List.map_append]; exact hy3.put (ah ..) hH3 _⟩
 ·have et:cm st [40]=(true,aY st):=by simp [cm,d0]
  have h1:=dJ hw (cC d0);have hnp:(aY st).pos=st.pos+1:=rfl;have hnt:(aY st).ts=st.ts:=rfl;rw [et];simp only [go_sem];have ef:nR (dP f) (aY st) l=((lh,n),sth):=by rw [←eh]; simp [gZ,d0]
  have hfx:=Ce (nO f) ih (aY st) l h1.1 (by rw [hnt]; omega) (by omega)
  simp only [ef] at hfx;refine hfx.run (lR (hac7 _) _) fun y2 K2 hac2=> ?_
  have k6:=hac2.1 _ _ g6;rw [ag _ _ n6] at k6;simp only [go_sem,c6,aj,n6,k6,cU];have hac3:=(qs hsG hac2).put gi6 ((ag _ _ n6).trans k6) (some (.obj [.v (.int .i64 n.op), .v (.int .i64 n.val.kind), .v (.int .i64 n.val.n), .s n.val.s, .v (.int .i64 n.attr.cat), .s n.attr.name, .v (.bool n.attr.must)] 226));rw [c6] at hac3;refine (hac3).app (zs:= [cU n]) (by rw [qk]; decide) (by rw [xd]; decide) (fun k hk=>hk) (by rw [qk]; exact jF _) (by rw [qk]; exact jF [n]) (by rw [xd]; simp; omega) fun y3 H3 hy3 hk3=> ?_
  have hH3:H3 id=some (PO sth):=hk3 _ _ _ (ah ..);have hb3:H3 i6=some (.obj [.v (.int .i64 n.op), .v (.int .i64 n.val.kind), .v (.int .i64 n.val.n), .s n.val.s, .v (.int .i64 n.attr.cat), .s n.attr.name, .v (.bool n.attr.must)] 226):=hk3 _ _ _ ((ag _ _ n6).trans (ah ..));simp only [go_sem,hy3.len,Vb,U7,List.length_cons,List.length_nil,Nat.zero_add,hdec];refine (cG sth _ hha.1).go hH3 ?_;simp only [go_sem,aj,n6,hb3];refine ⟨.of (by kernel_rfl), ?_⟩
  have efin:dP (f+1) st l=((lh++ [n],n.op==2),bB sth (decide (32<lh.length+1))):=by simp only [dP,eh]
  exact .mk (.tup [y3, .v (.bool (n.op==2))]) (.refl _) (.refl _) ⟨y3,by rw [efin],by rw [efin]; exact ah ..,by rw [efin,List.map_append]; exact hy3.put (ah ..) hH3 _⟩
theorem Gt:∀f,EH (dP f) f
 |0=>fun st l hw hf _=>absurd hw.1 (by omega)
 |f+1=>Lx f (Gt f)
theorem Cc {P:Program} {f:FuncId} {args:List AV} {h:Heap} {Q Q' :AV→Heap→Prop} (hf:ak P f args h Q) (hq:∀x h1,Q x h1→∃y h2,Weak x y∧Sub h2 h1∧Q' y h2):ak P f args h Q' :=
 fun c vs h1 h2 h3 h4=>(hf c vs h1 h2 h3 h4).mono fun u w' ⟨c',x,h',g1,g2,g3,g4,g5,g6⟩=>by
  obtain ⟨y,h'',k1,k2,k3⟩:=hq x h' g6;exact ⟨c',y,h'',g1,g2,g3,g4.weak k1,k2.trans g5,k3⟩
def flat:AV→AV
 | .sl xs _=> .sl xs .no
 |x=>x
theorem fH (xs:List AV):Weak (.agg xs) (.agg (xs.map flat)):= .agg _ _ (by simp) fun i h1 h2=>by
 rw [U8];cases xs[i]<;>first|exact .refl _|exact .sl _ _
theorem E5 (st:PS) (hw:WfP st):PC 166 [.sl [] .full, .v (.bool false)] st (eO (gA (dP st.ts.length) st [] false).1) (gA (dP st.ts.length) st [] false).2:= .of fun G id=>by
 have hx:=xV (nO st.ts.length) (Gt st.ts.length) st [] false hw (by omega) (by simp)
 refine Cc (hx G G id (.sl [] .full) (.full (base_start G id _))) fun r h1 ⟨y',e1,e2,e3⟩=>⟨_,upd G id (some (PO (gA (dP st.ts.length) st [] false).2)), ?_,eN e3.1 e2,rfl,rfl⟩
 subst e1;exact e3.weak
set_option maxRecDepth 20000 in
theorem HO (deny:Bool) (st:PS) (hw:WfP st):PC 134 [.v (.bool deny)] st (aB (ng deny st).1) (ng deny st).2:= .of fun G id=>by
 have h1:=kY hw;have h2:=yN h1.1;have h3:=C8 h2.1;have h4:=yL h3.1;have ht:=KB _ h1.1;simp only [aS] at ht;refine ak.body hU hm Tryz.func134 rfl (by kernel_rfl) 23 rfl [.cell 4 164] rfl (U6 rfl) (fun hwf=> ?_)
 simp only [go_sem];intro i4 hi4;have n4:=aF hi4;have hG4:G i4=none:=by rw [ag _ _ n4] at hi4; exact hi4
 have c4:∀(f:Heap) (x y:Option Blk),upd (upd f id x) i4 y=upd (upd f i4 y) id x:=fun f x y=>cp f x y n4.symm
 simp only [go_sem,c4];refine (rm st hw).run ?_;simp only [go_sem];refine ht.run ?_;simp only [go_sem];intro i5 hi5;have n5:=aF hi5;have hi5' :=hi5;rw [ag _ _ n5] at hi5';have n54:=aF hi5';have m54:¬i5=i4:=n54;have m45:¬i4=i5:=n54.symm;have hG5:G i5=none:=by rw [ag _ _ n54] at hi5'; exact hi5'
 have c5:∀(f:Heap) (x y:Option Blk),upd (upd f id x) i5 y=upd (upd f i5 y) id x:=fun f x y=>cp f x y n5.symm
 have c45:∀(f:Heap) (x y:Option Blk),upd (upd f i5 x) i4 y=upd (upd f i4 y) i5 x:=fun f x y=>cp f x y n54
 simp only [go_sem,c5,aj,n5];refine (je _ ifT h2.1).run ?_;cases d0:isD (fZ (ck st).2).2 ifT
 ·have et:cm (fZ (ck st).2).2 ifT=(false,(fZ (ck st).2).2):=by simp [cm,d0]
  have ec:nM (fZ (ck st).2).2=([],(fZ (ck st).2).2):=by simp [nM,d0]
  have er:ng deny st=(⟨(ck st).1,deny,(fZ (ck st).2).1,[],(fK (fZ (ck st).2).2).1⟩,dH (fK (fZ (ck st).2).2).2 [59]):=by simp only [ng,ec]
  rw [ec] at h4;have ho:=qC _ h2.1;simp only [ax] at ho;rw [et];simp only [go_sem];refine ho.run ?_;simp only [go_sem,c5,aj,n5];refine (jB _ [59] h4.1).run ?_;simp only [go_sem,c4,c45,aj,n4,n5,m45];exact .mk (h' :=upd G id (some (PO (dH (fK (fZ (ck st).2).2).2 [59])))) (aB ⟨(ck st).1,deny,(fZ (ck st).2).1,[],(fK (fZ (ck st).2).2).1⟩) (fH _) (Sub.both (by repeat (first|exact .refl _|refine Sub.put ?_ (by assumption) _)) _ _) ⟨by rw [er],by rw [er]⟩
 ·have et:cm (fZ (ck st).2).2 ifT=(true,aY (fZ (ck st).2).2):=by simp [cm,d0]
  obtain ⟨⟨cn,stc⟩,ec⟩:∃x,nM (fZ (ck st).2).2=x:=⟨_,rfl⟩;have er:ng deny st=(⟨(ck st).1,deny,(fZ (ck st).2).1,cn,(fK stc).1⟩,dH (fK stc).2 [59]):=by simp only [ng,ec]
  have hcnd:=E5 (aY (fZ (ck st).2).2) (dJ h2.1 (cC d0)).1;have ec2:gA (dP (aY (fZ (ck st).2).2).ts.length) (aY (fZ (ck st).2).2) [] false=(cn,stc):=by rw [←ec]; simp only [nM,d0,if_true]; rfl
  rw [ec2] at hcnd;simp only [eO] at hcnd;rw [ec] at h3 h4;have ho:=qC _ h3.1;simp only [ax] at ho;rw [et];simp only [go_sem];refine hcnd.run ?_;simp only [go_sem,c5,aj,n5];refine ho.run ?_;simp only [go_sem,c5,aj,n5];refine (jB _ [59] h4.1).run ?_;simp only [go_sem,c4,c45,aj,n4,n5,m45];exact .mk (h' :=upd G id (some (PO (dH (fK stc).2 [59])))) (aB ⟨(ck st).1,deny,(fZ (ck st).2).1,cn,(fK stc).1⟩) (fH _) (Sub.both (by repeat (first|exact .refl _|refine Sub.put ?_ (by assumption) _)) _ _) ⟨by rw [er],by rw [er]⟩
theorem FJ:(U 164).sz=5:=by simp only [go_sem]
theorem JQ:(U 164).bytes=96:=by simp only [go_sem]
theorem uo (l:List cK):Sized 5 (l.map aB):=fun z hz=>by
 obtain ⟨c,_,rfl⟩:=List.mem_map.1 hz; rfl
set_option maxRecDepth 20000 in
theorem L9 (st:PS) (hw:WfP st) (hr:st.rules≤64):PC 101 [] st (.sl ((jb 17 st []).1.map aB) .no) (jb 17 st []).2:= .of fun G id=>by
 obtain ⟨M,eM⟩:∃M,jb 17 st []=M:=⟨_,rfl⟩;rw [eM];refine ak.body hU hm Tryz.func101 rfl (by kernel_rfl) 51 rfl [.tmp 2] rfl (U6 rfl) (fun hwf=> ?_)
 simp only [go_sem];have hB:upd G id none id=none:=ah ..;refine .intro (fun m ρ H=>∃(f:Nat) (st' :PS) (l:List cK) (y:AV),H id=some (PO st')∧Acc U 164 (upd G id none) H y (l.map aB)∧Ah st st'∧st'.rules≤64∧jb f st' l=M∧f+l.length=17∧l.length≤16∧m=f∧lk ρ 0=some (.ptr id 0)∧lk ρ 3=some y) 17 ?_ ?_
 ·refine ⟨17,st,[], .sl ([].map aB) .full,ah .., .full (base_start G id _), .refl hw,hr,eM,by simp,by simp,rfl, ?_, ?_⟩<;>simp only [go_sem]<;>rfl
 ·rintro m ρ H ⟨f,st',l,y,hH,hy,ha,hru,hfin,hf,hll,rfl,r0,r3⟩
  have hlen:=ha.1.2.2;have hpos:=ha.1.1;obtain ⟨g,rfl⟩:∃g,m=g+1:=⟨m - 1,by omega⟩
  simp only [go_sem,r0];refine (qP st' mH ha.1).go hH ?_;rw [bX hH];have fin:isD st' mH=false→isD st' gW=false→(l,st')=M:=fun d1 d2=>by
   rw [←hfin]; simp [jb,d1,d2]
  have rest:isD st' mH=true∨isD st' gW=true→True:=fun _=>trivial
  cases d1:isD st' mH
  ·simp only [go_sem,r0]
   refine (qP st' gW ha.1).go hH ?_;rw [bX hH];cases d2:isD st' gW
   ·simp only [go_sem,r3]
    have e:=fin d1 d2;exact .mk (h' :=upd G id (some (PO M.2))) (.sl (M.1.map aB) .no) (by rw [←e]; exact hy.weak) (by rw [←e]; exact eN hy.1 hH) ⟨rfl,rfl⟩
   ·have hd:isD st' mH=true∨isD st' gW=true:=by first|exact .inl d1|exact .inr d2
    have eb:=(kM hd).1;have ek:=(kM hd).2;have db:(st'.bad !=0)=false:=by simp [eb]
    have gP:=hH;unfold PO at gP;have lim:l.length=16∨st'.rules=64→(l,bB st' true)=M:=fun h=>by
     rw [←hfin]; simp only [jb,if_pos hd,if_pos h]
    have hdl:bB st' true=bz st' 6 (aJ st').pos:=rfl;have hlb:((bB st' true).bad !=0)=true:=by rw [hdl]; simp [bz,eb]
    cases dA:((l.length:Int)==16)
    ·cases dB:((st'.rules:Int)==64)
     ·have nA:l.length≠16:=fun e=>by rw [e] at dA; simp at dA
      have nB:st'.rules≠64:=fun e=>by rw [e] at dB; simp at dB
      have hno:¬(l.length=16∨st'.rules=64):=fun h=>h.elim nA nB
      simp only [jb,if_pos hd,if_neg hno] at hfin;simp only [go_sem,r0,r3,hy.len,U7,dA,gP,dB];refine (cG st' false ha.1).go hH ?_;rw [show bB st' false=st' from rfl,bX hH]
      have w1:IntKind.i64.wrap ((st'.rules:Int)+1)=((st'.rules+1:Nat):Int):=by rw [bw _ (by omega)]; omega
      have w2:IntKind.i64.wrap ((st'.pos:Int)+1)=((st'.pos+1:Nat):Int):=by rw [bw _ (by omega)]; omega
      simp only [go_sem,r0,gP,db,w1];have hwr:WfP {st' with rules:=st'.rules+1}:=ha.1
      refine (qP {st' with rules:=st'.rules+1} gW hwr).go (ah ..) ?_
      rw [mS];have g2:upd H id (some (PO {st' with rules:=st'.rules+1})) id=some (.obj [.sl (st'.ts.map fh) .no, .v (.int .i64 st'.pos), .v (.int .i64 (st'.rules+1:Nat)), .v (.int .i64 st'.bad), .v (.int .i64 st'.place)] 134):=ah ..
      simp only [go_sem,r0,r3,g2,w2];have h2:Ah st' {aY st' with rules:=st'.rules+1}:=uB ha.1 ek
      have h3:=yM (isD st' gW) h2.1;have hrp:=HO (isD st' gW) {aY st' with rules:=st'.rules+1} h2.1
      have hr3:=(oY (vW (isD st' gW) {aY st' with rules:=st'.rules+1})).2.2
      obtain ⟨x,st2,e2⟩:∃x st2,ng (isD st' gW) {aY st' with rules:=st'.rules+1}=(x,st2):=⟨_,_,rfl⟩
      rw [e2] at hfin hrp h3 hr3;simp only [aB] at hrp hfin h3 hr3;refine hrp.go (ah ..) ?_;rw [mS];simp only [go_sem];refine (hy.put hB hH _).app (zs:= [aB x]) (by rw [FJ]; decide) (by rw [JQ]; decide) (fun k hk=>hk) (by rw [FJ]; exact uo l) (by rw [FJ]; exact uo [x]) (by rw [JQ]; simp; omega) fun y' H2 hy' hk2=> ?_
      have hH2:H2 id=some (PO st2):=hk2 _ _ _ (ah ..);simp only [go_sem];refine ⟨_, ?_,g,st2,l++ [x],y',hH2,by rw [List.map_append]; exact hy',(ha.trans h2).trans h3,by omega,hfin,by simp; omega,by simp; omega,rfl, ?_, ?_⟩
      ·omega
      all_goals simp only [go_sem,r0]
     ·have nB:st'.rules=64:=by have:(st'.rules:Int)=64:=(by simpa using dB); omega
      have e:=lim (.inr nB);simp only [go_sem,r0,r3,hy.len,U7,dA,gP,dB];refine (cG st' true ha.1).go hH ?_;have g3:upd H id (some (PO (bB st' true))) id=some (PO (bB st' true)):=ah ..;unfold PO at g3;simp only [go_sem,r0,r3,g3,hlb,PO];exact .mk (h' :=upd G id (some (PO M.2))) (.sl (M.1.map aB) .no) (by rw [←e]; exact hy.weak) (by rw [←e]; exact eN (hy.put hB hH _).1 (ah ..)) ⟨rfl,rfl⟩
    ·have nA:l.length=16:=by have:(l.length:Int)=16:=(by simpa using dA); omega
     have e:=lim (.inl nA);simp only [go_sem,r0,r3,hy.len,U7,dA];refine (cG st' true ha.1).go hH ?_;have g3:upd H id (some (PO (bB st' true))) id=some (PO (bB st' true)):=ah ..;unfold PO at g3;simp only [go_sem,r0,r3,g3,hlb,PO];exact .mk (h' :=upd G id (some (PO M.2))) (.sl (M.1.map aB) .no) (by rw [←e]; exact hy.weak) (by rw [←e]; exact eN (hy.put hB hH _).1 (ah ..)) ⟨rfl,rfl⟩
  ·have hd:isD st' mH=true∨isD st' gW=true:=by first|exact .inl d1|exact .inr d2
   have eb:=(kM hd).1;have ek:=(kM hd).2;have db:(st'.bad !=0)=false:=by simp [eb]
   have gP:=hH;unfold PO at gP;have lim:l.length=16∨st'.rules=64→(l,bB st' true)=M:=fun h=>by
    rw [←hfin]; simp only [jb,if_pos hd,if_pos h]
   have hdl:bB st' true=bz st' 6 (aJ st').pos:=rfl;have hlb:((bB st' true).bad !=0)=true:=by rw [hdl]; simp [bz,eb]
   cases dA:((l.length:Int)==16)
   ·cases dB:((st'.rules:Int)==64)
    ·have nA:l.length≠16:=fun e=>by rw [e] at dA; simp at dA
     have nB:st'.rules≠64:=fun e=>by rw [e] at dB; simp at dB
     have hno:¬(l.length=16∨st'.rules=64):=fun h=>h.elim nA nB
     simp only [jb,if_pos hd,if_neg hno] at hfin;simp only [go_sem,r0,r3,hy.len,U7,dA,gP,dB];refine (cG st' false ha.1).go hH ?_;rw [show bB st' false=st' from rfl,bX hH]
     have w1:IntKind.i64.wrap ((st'.rules:Int)+1)=((st'.rules+1:Nat):Int):=by rw [bw _ (by omega)]; omega
     have w2:IntKind.i64.wrap ((st'.pos:Int)+1)=((st'.pos+1:Nat):Int):=by rw [bw _ (by omega)]; omega
     simp only [go_sem,r0,gP,db,w1];have hwr:WfP {st' with rules:=st'.rules+1}:=ha.1
     refine (qP {st' with rules:=st'.rules+1} gW hwr).go (ah ..) ?_
     rw [mS];have g2:upd H id (some (PO {st' with rules:=st'.rules+1})) id=some (.obj [.sl (st'.ts.map fh) .no, .v (.int .i64 st'.pos), .v (.int .i64 (st'.rules+1:Nat)), .v (.int .i64 st'.bad), .v (.int .i64 st'.place)] 134):=ah ..
     simp only [go_sem,r0,r3,g2,w2];have h2:Ah st' {aY st' with rules:=st'.rules+1}:=uB ha.1 ek
     have h3:=yM (isD st' gW) h2.1;have hrp:=HO (isD st' gW) {aY st' with rules:=st'.rules+1} h2.1
     have hr3:=(oY (vW (isD st' gW) {aY st' with rules:=st'.rules+1})).2.2
     obtain ⟨x,st2,e2⟩:∃x st2,ng (isD st' gW) {aY st' with rules:=st'.rules+1}=(x,st2):=⟨_,_,rfl⟩
     rw [e2] at hfin hrp h3 hr3;simp only [aB] at hrp hfin h3 hr3;refine hrp.go (ah ..) ?_;rw [mS];simp only [go_sem];refine (hy.put hB hH _).app (zs:= [aB x]) (by rw [FJ]; decide) (by rw [JQ]; decide) (fun k hk=>hk) (by rw [FJ]; exact uo l) (by rw [FJ]; exact uo [x]) (by rw [JQ]; simp; omega) fun y' H2 hy' hk2=> ?_
     have hH2:H2 id=some (PO st2):=hk2 _ _ _ (ah ..);simp only [go_sem];refine ⟨_, ?_,g,st2,l++ [x],y',hH2,by rw [List.map_append]; exact hy',(ha.trans h2).trans h3,by omega,hfin,by simp; omega,by simp; omega,rfl, ?_, ?_⟩
     ·omega
     all_goals simp only [go_sem,r0]
    ·have nB:st'.rules=64:=by have:(st'.rules:Int)=64:=(by simpa using dB); omega
     have e:=lim (.inr nB);simp only [go_sem,r0,r3,hy.len,U7,dA,gP,dB];refine (cG st' true ha.1).go hH ?_;have g3:upd H id (some (PO (bB st' true))) id=some (PO (bB st' true)):=ah ..;unfold PO at g3;simp only [go_sem,r0,r3,g3,hlb,PO];exact .mk (h' :=upd G id (some (PO M.2))) (.sl (M.1.map aB) .no) (by rw [←e]; exact hy.weak) (by rw [←e]; exact eN (hy.put hB hH _).1 (ah ..)) ⟨rfl,rfl⟩
   ·have nA:l.length=16:=by have:(l.length:Int)=16:=(by simpa using dA); omega
    have e:=lim (.inl nA);simp only [go_sem,r0,r3,hy.len,U7,dA];refine (cG st' true ha.1).go hH ?_;have g3:upd H id (some (PO (bB st' true))) id=some (PO (bB st' true)):=ah ..;unfold PO at g3;simp only [go_sem,r0,r3,g3,hlb,PO];exact .mk (h' :=upd G id (some (PO M.2))) (.sl (M.1.map aB) .no) (by rw [←e]; exact hy.weak) (by rw [←e]; exact eN (hy.put hB hH _).1 (ah ..)) ⟨rfl,rfl⟩
theorem FI:(U 37).sz=7:=by simp only [go_sem]
theorem JP:(U 37).bytes=128:=by simp only [go_sem]
theorem um (l:List bD):Sized 7 (l.map aK):=fun z hz=>by
 obtain ⟨c,_,rfl⟩:=List.mem_map.1 hz;cases c; rfl
set_option maxRecDepth 20000 in
theorem LJ (pol:PoF) (d:Nat) (hd5:d≤5) (hp:∀st,WfP st→st.rules≤64→d≤4→PC 59 [.v (.int .i64 d)] st (aK (pol st).1) (pol st).2) (hpa:∀st,WfP st→Ah st (pol st).2) (hpr:∀st,lM st (pol st).2)
  (st:PS) (hw:WfP st) (hr:st.rules≤64):PC 100 [.v (.int .i64 d)] st (.sl ((iU pol (decide ((4:Int)<(d:Int))) 17 st []).1.map aK) .no) (iU pol (decide ((4:Int)<(d:Int))) 17 st []).2:= .of fun G id=>by
 obtain ⟨M,eM⟩:∃M,iU pol (decide ((4:Int)<(d:Int))) 17 st []=M:=⟨_,rfl⟩;rw [eM];refine ak.body hU hm Tryz.func100 rfl (by kernel_rfl) 33 rfl [.tmp 4] rfl (U6 rfl) (fun hwf=> ?_)
 simp only [go_sem];have hB:upd G id none id=none:=ah ..;refine .intro (fun m ρ H=>∃(f:Nat) (st' :PS) (l:List bD) (y:AV),H id=some (PO st')∧Acc U 37 (upd G id none) H y (l.map aK)∧Ah st st'∧st'.rules≤64∧iU pol (decide ((4:Int)<(d:Int))) f st' l=M∧f+l.length=17∧l.length≤16∧m=f∧lk ρ 0=some (.ptr id 0)∧lk ρ 1=some (.v (.int .i64 d))∧lk ρ 5=some y) 17 ?_ ?_
 ·refine ⟨17,st,[], .sl ([].map aK) .full,ah .., .full (base_start G id _), .refl hw,hr,eM,by simp,by simp,rfl, ?_, ?_, ?_⟩<;>simp only [go_sem]<;>rfl
 ·rintro m ρ H ⟨f,st',l,y,hH,hy,ha,hru,hfin,hf,hll,rfl,r0,r1,r5⟩
  have hlen:=ha.1.2.2;have hpos:=ha.1.1;obtain ⟨g,rfl⟩:∃g,m=g+1:=⟨m - 1,by omega⟩
  simp only [go_sem,r0];refine (qP st' mI ha.1).go hH ?_;rw [bX hH];have fin:isD st' mI=false→isD st' CL=false→(l,st')=M:=fun d1 d2=>by
   rw [←hfin]; simp [iU,d1,d2]
  cases d1:isD st' mI
  ·simp only [go_sem,r0]
   refine (qP st' CL ha.1).go hH ?_;rw [bX hH];cases d2:isD st' CL
   ·simp only [go_sem,r5]
    have e:=fin d1 d2;exact .mk (h' :=upd G id (some (PO M.2))) (.sl (M.1.map aK) .no) (by rw [←e]; exact hy.weak) (by rw [←e]; exact eN hy.1 hH) ⟨rfl,rfl⟩
   ·have hd:isD st' mI=true∨isD st' CL=true:=by first|exact .inl d1|exact .inr d2
    have eb:=(kM hd).1;have ek:=(kM hd).2;have db:(st'.bad !=0)=false:=by simp [eb]
    have gP:=hH;unfold PO at gP;have lim:l.length=16∨decide ((4:Int)<(d:Int))=true→(l,bB st' true)=M:=fun h=>by
     rw [←hfin]; simp only [iU,if_pos hd,if_pos h]
    have hdl:bB st' true=bz st' 6 (aJ st').pos:=rfl;have hlb:((bB st' true).bad !=0)=true:=by rw [hdl]; simp [bz,eb]
    cases dA:((l.length:Int)==16)
    ·cases dB:decide ((4:Int)<(d:Int))
     ·have nA:l.length≠16:=fun e=>by rw [e] at dA; simp at dA
      have hno:¬(l.length=16∨decide ((4:Int)<(d:Int))=true):=fun h=>h.elim nA (fun e=>by rw [dB] at e; cases e)
      simp only [iU,if_pos hd,if_neg hno] at hfin;rw [dB] at hfin;have hd4:d≤4:=by have:=Va dB; omega
      simp only [go_sem,r0,r1,r5,hy.len,U7,dA,dB];refine (cG st' false ha.1).go hH ?_;rw [show bB st' false=st' from rfl,bX hH]
      have h3:=hpa st' ha.1;have hrp:=hp st' ha.1 hru hd4;have hr3:=sv (hpr st') hru;obtain ⟨x,st2,e2⟩:∃x st2,pol st' =(x,st2):=⟨_,_,rfl⟩;rw [e2] at hfin hrp h3 hr3;obtain ⟨pid,pset,palg,ptgt,prules,pkids,pobls⟩:=x;simp only [aK] at hrp hfin h3 hr3;simp only [go_sem,r0,r1,r5,gP,db];refine hrp.go hH ?_;simp only [go_sem];refine (hy.put hB hH _).app (zs:= [aK ⟨pid,pset,palg,ptgt,prules,pkids,pobls⟩]) (by rw [FI]; decide) (by rw [JP]; decide) (fun k hk=>hk) (by rw [FI]; exact um l) (by rw [FI]; exact um [⟨pid,pset,palg,ptgt,prules,pkids,pobls⟩]) (by rw [JP]; simp; omega) fun y' H2 hy' hk2=> ?_
      have hH2:H2 id=some (PO st2):=hk2 _ _ _ (ah ..);simp only [go_sem];refine ⟨_, ?_,g,st2,l++ [⟨pid,pset,palg,ptgt,prules,pkids,pobls⟩],y',hH2,by rw [List.map_append]; exact hy',ha.trans h3,hr3,hfin,by simp; omega,by simp; omega,rfl, ?_, ?_, ?_⟩
      ·omega
      all_goals simp only [go_sem,r0,r1]
     ·have e:=lim (.inr dB)
      simp only [go_sem,r0,r1,r5,hy.len,U7,dA,dB];refine (cG st' true ha.1).go hH ?_;have g3:upd H id (some (PO (bB st' true))) id=some (PO (bB st' true)):=ah ..;unfold PO at g3;simp only [go_sem,r0,r5,g3,hlb,PO];exact .mk (h' :=upd G id (some (PO M.2))) (.sl (M.1.map aK) .no) (by rw [←e]; exact hy.weak) (by rw [←e]; exact eN (hy.put hB hH _).1 (ah ..)) ⟨rfl,rfl⟩
    ·have nA:l.length=16:=by have:(l.length:Int)=16:=(by simpa using dA); omega
     have e:=lim (.inl nA);simp only [go_sem,r0,r5,hy.len,U7,dA];refine (cG st' true ha.1).go hH ?_;have g3:upd H id (some (PO (bB st' true))) id=some (PO (bB st' true)):=ah ..;unfold PO at g3;simp only [go_sem,r0,r5,g3,hlb,PO];exact .mk (h' :=upd G id (some (PO M.2))) (.sl (M.1.map aK) .no) (by rw [←e]; exact hy.weak) (by rw [←e]; exact eN (hy.put hB hH _).1 (ah ..)) ⟨rfl,rfl⟩
  ·have hd:isD st' mI=true∨isD st' CL=true:=by first|exact .inl d1|exact .inr d2
   have eb:=(kM hd).1;have ek:=(kM hd).2;have db:(st'.bad !=0)=false:=by simp [eb]
   have gP:=hH;unfold PO at gP;have lim:l.length=16∨decide ((4:Int)<(d:Int))=true→(l,bB st' true)=M:=fun h=>by
    rw [←hfin]; simp only [iU,if_pos hd,if_pos h]
   have hdl:bB st' true=bz st' 6 (aJ st').pos:=rfl;have hlb:((bB st' true).bad !=0)=true:=by rw [hdl]; simp [bz,eb]
   cases dA:((l.length:Int)==16)
   ·cases dB:decide ((4:Int)<(d:Int))
    ·have nA:l.length≠16:=fun e=>by rw [e] at dA; simp at dA
     have hno:¬(l.length=16∨decide ((4:Int)<(d:Int))=true):=fun h=>h.elim nA (fun e=>by rw [dB] at e; cases e)
     simp only [iU,if_pos hd,if_neg hno] at hfin;rw [dB] at hfin;have hd4:d≤4:=by have:=Va dB; omega
     simp only [go_sem,r0,r1,r5,hy.len,U7,dA,dB];refine (cG st' false ha.1).go hH ?_;rw [show bB st' false=st' from rfl,bX hH]
     have h3:=hpa st' ha.1;have hrp:=hp st' ha.1 hru hd4;have hr3:=sv (hpr st') hru;obtain ⟨x,st2,e2⟩:∃x st2,pol st' =(x,st2):=⟨_,_,rfl⟩;rw [e2] at hfin hrp h3 hr3;obtain ⟨pid,pset,palg,ptgt,prules,pkids,pobls⟩:=x;simp only [aK] at hrp hfin h3 hr3;simp only [go_sem,r0,r1,r5,gP,db];refine hrp.go hH ?_;simp only [go_sem];refine (hy.put hB hH _).app (zs:= [aK ⟨pid,pset,palg,ptgt,prules,pkids,pobls⟩]) (by rw [FI]; decide) (by rw [JP]; decide) (fun k hk=>hk) (by rw [FI]; exact um l) (by rw [FI]; exact um [⟨pid,pset,palg,ptgt,prules,pkids,pobls⟩]) (by rw [JP]; simp; omega) fun y' H2 hy' hk2=> ?_
     have hH2:H2 id=some (PO st2):=hk2 _ _ _ (ah ..);simp only [go_sem];refine ⟨_, ?_,g,st2,l++ [⟨pid,pset,palg,ptgt,prules,pkids,pobls⟩],y',hH2,by rw [List.map_append]; exact hy',ha.trans h3,hr3,hfin,by simp; omega,by simp; omega,rfl, ?_, ?_, ?_⟩
     ·omega
     all_goals simp only [go_sem,r0,r1]
    ·have e:=lim (.inr dB)
     simp only [go_sem,r0,r1,r5,hy.len,U7,dA,dB];refine (cG st' true ha.1).go hH ?_;have g3:upd H id (some (PO (bB st' true))) id=some (PO (bB st' true)):=ah ..;unfold PO at g3;simp only [go_sem,r0,r5,g3,hlb,PO];exact .mk (h' :=upd G id (some (PO M.2))) (.sl (M.1.map aK) .no) (by rw [←e]; exact hy.weak) (by rw [←e]; exact eN (hy.put hB hH _).1 (ah ..)) ⟨rfl,rfl⟩
   ·have nA:l.length=16:=by have:(l.length:Int)=16:=(by simpa using dA); omega
    have e:=lim (.inl nA);simp only [go_sem,r0,r5,hy.len,U7,dA];refine (cG st' true ha.1).go hH ?_;have g3:upd H id (some (PO (bB st' true))) id=some (PO (bB st' true)):=ah ..;unfold PO at g3;simp only [go_sem,r0,r5,g3,hlb,PO];exact .mk (h' :=upd G id (some (PO M.2))) (.sl (M.1.map aK) .no) (by rw [←e]; exact hy.weak) (by rw [←e]; exact eN (hy.put hB hH _).1 (ah ..)) ⟨rfl,rfl⟩
set_option maxRecDepth 20000 in
theorem A5 (r:Nat) (d:Nat) (hrd:r+d=4) (hp:∀st,WfP st→st.rules≤64→d+1≤4→PC 59 [.v (.int .i64 (d+1:Nat))] st (aK (fS r st).1) (fS r st).2) (st:PS) (hw:WfP st) (hr:st.rules≤64):
  PC 59 [.v (.int .i64 d)] st (aK (fS (r+1) st).1) (fS (r+1) st).2:= .of fun G id=>by
 have h1:=fQ kO hw;have h2:=kY h1.1;have h3:=fQ uD h2.1;have h4:=yN h3.1;have h5:Ah _ (cM st).2:=ia [123] h4.1;have ht:=KB _ h3.1;simp only [aS] at ht;have hrh:=sv (Ba st).big hr;have hset:(cM st).1.1=((aW st kO).1==2):=rfl;have w1:=Vd d (by omega)
 have hdp:(r==0)=decide ((4:Int)<((d+1:Nat):Int)):=by
  by_cases h:r=0
  ·rw [decide_eq_true (by omega),h]; rfl
  ·rw [decide_eq_false (by omega)]; simpa using h
 have hk:=LJ (fS r) (d+1) (by omega) hp (fun _ h=>uA r _ h) (zn r) _ h5.1 hrh
 have hs:=L9 _ h5.1 hrh;refine ak.body hU hm Tryz.func59 rfl (by kernel_rfl) 39 rfl [.cell 4 37] rfl (U6 rfl) (fun hwf=> ?_)
 simp only [go_sem];intro i4 hi4;have n4:=aF hi4;have hG4:G i4=none:=by rw [ag _ _ n4] at hi4; exact hi4
 have c4:∀(f:Heap) (x y:Option Blk),upd (upd f id x) i4 y=upd (upd f i4 y) id x:=fun f x y=>cp f x y n4.symm
 simp only [go_sem,c4];intro i5 hi5;have n5:=aF hi5;have hi5' :=hi5;rw [ag _ _ n5] at hi5';have n54:=aF hi5';have m54:¬i5=i4:=n54;have m45:¬i4=i5:=n54.symm;have hG5:G i5=none:=by rw [ag _ _ n54] at hi5'; exact hi5'
 have c5:∀(f:Heap) (x y:Option Blk),upd (upd f id x) i5 y=upd (upd f i5 y) id x:=fun f x y=>cp f x y n5.symm
 have c45:∀(f:Heap) (x y:Option Blk),upd (upd f i5 x) i4 y=upd (upd f i4 y) i5 x:=fun f x y=>cp f x y n54
 simp only [go_sem,c5];refine (lS st kO .full (by decide) hw).run ?_
 simp only [go_sem,c5,aj,n5];refine (rm _ h1.1).run ?_;simp only [go_sem,c5,aj,n5];refine (lS _ uD .full (by decide) h2.1).run ?_
 simp only [go_sem,c5,aj,n5];refine ht.run ?_;simp only [go_sem,c5,aj,n5];refine (jB _ [123] h4.1).run ?_;cases ds:((aW st kO).1==2)
 ·rw [ds] at hset
  simp only [go_sem,aj,n5];have eb:mV (fS r) (r==0) (cM st).1.1 (cM st).2=(((jb 17 (cM st).2 []).1,[]),(jb 17 (cM st).2 []).2):=by simp [mV,hset]
  have hb:=yK (fun _ h=>uA r _ h) (r==0) (cM st).1.1 h5.1
  obtain ⟨⟨rl,stb⟩,er⟩:∃x,jb 17 (cM st).2 []=x:=⟨_,rfl⟩;rw [er] at eb hs;rw [eb] at hb;have ho:=qC _ (ia [125] hb.1).1;simp only [ax] at ho hs;refine hs.run ?_;simp only [go_sem,c5,aj,n5];refine (jB _ [125] hb.1).run ?_;simp only [go_sem];refine ho.run ?_;simp only [go_sem,c4,c5,c45,aj,n4,n5,m45];have efin:fS (r+1) st=(.mk (cM st).1.2.1 false (cM st).1.2.2.1 (cM st).1.2.2.2 rl [] (fK (dH stb [125])).1,(fK (dH stb [125])).2):=by simp only [fS,eb]; rw [hset]
  exact .mk (h' :=upd G id (some (PO (fK (dH stb [125])).2))) (aK (.mk (cM st).1.2.1 false (cM st).1.2.2.1 (cM st).1.2.2.2 rl [] (fK (dH stb [125])).1)) (fH _) (Sub.both (by repeat (first|exact .refl _|refine Sub.put ?_ (by assumption) _)) _ _) ⟨by rw [efin],by rw [efin]⟩
 ·rw [ds] at hset
  simp only [go_sem,aj,n5,w1];have eb:mV (fS r) (r==0) (cM st).1.1 (cM st).2=(([],(iU (fS r) (r==0) 17 (cM st).2 []).1),(iU (fS r) (r==0) 17 (cM st).2 []).2):=by simp [mV,hset]
  have hb:=yK (fun _ h=>uA r _ h) (r==0) (cM st).1.1 h5.1
  rw [←hdp] at hk;obtain ⟨⟨kl,stb⟩,er⟩:∃x,iU (fS r) (r==0) 17 (cM st).2 []=x:=⟨_,rfl⟩;rw [er] at eb hk;rw [eb] at hb;have ho:=qC _ (ia [125] hb.1).1;simp only [ax] at ho hk;refine hk.run ?_;simp only [go_sem,c5,aj,n5];refine (jB _ [125] hb.1).run ?_;simp only [go_sem];refine ho.run ?_;simp only [go_sem,c4,c5,c45,aj,n4,n5,m45];have efin:fS (r+1) st=(.mk (cM st).1.2.1 true (cM st).1.2.2.1 (cM st).1.2.2.2 [] kl (fK (dH stb [125])).1,(fK (dH stb [125])).2):=by simp only [fS,eb]; rw [hset]
  exact .mk (h' :=upd G id (some (PO (fK (dH stb [125])).2))) (aK (.mk (cM st).1.2.1 true (cM st).1.2.2.1 (cM st).1.2.2.2 [] kl (fK (dH stb [125])).1)) (by simp only [aK,aX]; exact fH _) (Sub.both (by repeat (first|exact .refl _|refine Sub.put ?_ (by assumption) _)) _ _) ⟨by rw [efin],by rw [efin]⟩
theorem A4:∀(r d:Nat),r+d=4→∀st,WfP st→st.rules≤64→PC 59 [.v (.int .i64 d)] st (aK (fS (r+1) st).1) (fS (r+1) st).2
 |0,d,hrd=>fun st hw hr=>A5 0 d hrd (fun _ _ _ h=>absurd h (by omega)) st hw hr
 |r+1,d,hrd=>fun st hw hr=>A5 (r+1) d hrd (fun st hw hr _=>A4 r (d+1) (by omega) st hw hr) st hw hr
theorem F5 (l:List (List bJ)) (h:Heap):ak Tryz.prog 172 [cI l] h fun r h' =>r= .v (.int .i64 (tU l))∧h' =h:=by
 refine ak.body hU hm Tryz.func172 rfl (by kernel_rfl) 25 rfl [.tmp 2] rfl (U6 rfl) (fun hwf=> ?_)
 simp only [go_sem,cI,U7];refine (Dy _ _).pthen ?_;cases d1:(jh l.length !=0)
 case true=>
  have e1:jh l.length≠0:=by simpa using d1
  simp only [go_sem,d1];exact .same (.refl _) ⟨by simp [tU,e1,au],rfl⟩
 have e1:jh l.length=0:=by simpa using d1
 have hlen:=AK e1;simp only [go_sem,d1,U7];refine .intro (fun m ρ h' =>Ab.Sub h h'∧∃i:Nat,i≤l.length∧m=l.length - i∧gu tQ (l.take i)=0∧lk ρ 13=some (cI l)∧lk ρ 14=some (.v (.int .i64 l.length))∧lk ρ 15=some (.v (.int .i64 i))) l.length ?_ ?_
 ·refine ⟨.refl _,0,by omega,rfl,rfl, ?_, ?_, ?_⟩<;>simp only [go_sem,cI]
 ·rintro m ρ h' ⟨hs,i,hi,rfl,hc,r12,r13,r14⟩
  simp only [go_sem,r13,r14];refine .intro (fun e=> ?_) (fun e=> ?_)
  ·have hlt:i<l.length:=Ve e
   have w1:=Vd i (by omega)
   simp only [go_sem,r12,r14,cI];refine .at i (by simpa using hlt) (by rw [U8]; rfl) ?_
   simp only [go_sem,U8,gH];refine (F4 l[i] _).pthen ?_;cases d2:(tQ l[i] !=0)
   ·have e2:tQ l[i]=0:=by simpa using d2
    simp only [go_sem,r14,d2,w1];refine ⟨_, ?_,hs,i+1,by omega,rfl,sY hlt hc e2, ?_, ?_, ?_⟩
    ·omega
    all_goals simp only [go_sem,r12,r13,cI]
   ·have e2:tQ l[i]≠0:=by simpa using d2
    simp only [go_sem,d2];refine .mk _ (.refl _) hs ⟨?_,rfl⟩;simp [tU,e1,xH hlt hc e2,au]
  ·have hge:i=l.length:=by have:=Va e; omega
   subst hge;rw [List.take_length] at hc;simp only [go_sem];exact .mk _ (.refl _) hs ⟨by simp [tU,e1,hc,au],rfl⟩
theorem sx (l:fI) (h:Heap):ak Tryz.prog 146 [aS l] h fun r h' =>r= .v (.int .i64 (jT l))∧h' =h:=by
 refine ak.body hU hm Tryz.func146 rfl (by kernel_rfl) 21 rfl [.tmp 2] rfl (U6 rfl) (fun hwf=> ?_)
 cases d1:decide (8<(l.length:Int))
 case true=>
  have e1:8<l.length:=by have:=U9 d1; omega
  simp only [go_sem,aS,U7,d1];exact .same (.refl _) ⟨by simp [jT,e1,au],rfl⟩
 have e1:¬8<l.length:=by have:=Va d1; omega
 simp only [go_sem,d1,aS,U7];refine .intro (fun m ρ h' =>Ab.Sub h h'∧∃i:Nat,i≤l.length∧m=l.length - i∧gu tU (l.take i)=0∧lk ρ 9=some (aS l)∧lk ρ 10=some (.v (.int .i64 l.length))∧lk ρ 11=some (.v (.int .i64 i))) l.length ?_ ?_
 ·refine ⟨.refl _,0,by omega,rfl,rfl, ?_, ?_, ?_⟩<;>simp only [go_sem,aS]
 ·rintro m ρ h' ⟨hs,i,hi,rfl,hc,r12,r13,r14⟩
  simp only [go_sem,r13,r14];refine .intro (fun e=> ?_) (fun e=> ?_)
  ·have hlt:i<l.length:=Ve e
   have w1:=Vd i (by omega)
   simp only [go_sem,r12,r14,aS];refine .at i (by simpa using hlt) (by rw [U8]; rfl) ?_
   simp only [go_sem,U8,cI];refine (F5 l[i] _).pthen ?_;cases d2:(tU l[i] !=0)
   ·have e2:tU l[i]=0:=by simpa using d2
    simp only [go_sem,r14,d2,w1];refine ⟨_, ?_,hs,i+1,by omega,rfl,sY hlt hc e2, ?_, ?_, ?_⟩
    ·omega
    all_goals simp only [go_sem,r12,r13,aS]
   ·have e2:tU l[i]≠0:=by simpa using d2
    simp only [go_sem,d2];refine .mk _ (.refl _) hs ⟨?_,rfl⟩;simp [jT,e1,xH hlt hc e2,au]
  ·have hge:i=l.length:=by have:=Va e; omega
   subst hge;rw [List.take_length] at hc;simp only [go_sem];exact .mk _ (.refl _) hs ⟨by simp [jT,e1,hc,au],rfl⟩
theorem zj (l:List cA) (h:Heap):ak Tryz.prog 147 [ax l] h fun r h' =>r= .v (.int .i64 (gy l))∧h' =h:=by
 refine ak.body hU hm Tryz.func147 rfl (by kernel_rfl) 39 rfl [.tmp 2] rfl (U6 rfl) (fun hwf=> ?_)
 cases d1:decide (8<(l.length:Int))
 case true=>
  have e1:8<l.length:=by have:=U9 d1; omega
  simp only [go_sem,ax,U7,d1];exact .same (.refl _) ⟨by simp [gy,e1,au],rfl⟩
 have e1:¬8<l.length:=by have:=Va d1; omega
 simp only [go_sem,d1,ax,U7];refine .intro (fun m ρ h' =>Ab.Sub h h'∧∃i:Nat,i≤l.length∧m=l.length - i∧(l.take i).all ov=true∧lk ρ 8=some (ax l)∧lk ρ 9=some (.v (.int .i64 l.length))∧lk ρ 10=some (.v (.int .i64 i))) l.length ?_ ?_
 ·refine ⟨.refl _,0,by omega,rfl,rfl, ?_, ?_, ?_⟩<;>simp only [go_sem,ax]
 ·rintro m ρ h' ⟨hs,i,hi,rfl,hc,r12,r13,r14⟩
  simp only [go_sem,r13,r14];refine .intro (fun e=> ?_) (fun e=> ?_)
  ·have hlt:i<l.length:=Ve e
   have w1:=Vd i (by omega)
   simp only [go_sem,r12,r14,ax];refine .at i (by simpa using hlt) (by rw [U8]; rfl) ?_
   simp only [go_sem,U8,bk];intro id hid;have bad:ov l[i]=false→gy l=1:=fun hb=>by
    have:l.all ov=false:=List.all_eq_false.2 ⟨_,Vc hlt,by simp [hb]⟩
    simp [gy,e1,this]
   cases c1:decide (l[i].on<1)
   case true=>
    simp only [go_sem,c1];exact .mk _ (.refl _) (hs.new hid _) ⟨by rw [bad (by have:=U9 c1; simp [ov]; omega)]; rfl,rfl⟩
   cases c2:decide (2<l[i].on)
   case true=>
    simp only [go_sem,c1,c2];exact .mk _ (.refl _) (hs.new hid _) ⟨by rw [bad (by have:=U9 c2; simp [ov]; omega)]; rfl,rfl⟩
   cases c3:decide (l[i].kind<1)
   case true=>
    simp only [go_sem,c1,c2,c3];exact .mk _ (.refl _) (hs.new hid _) ⟨by rw [bad (by have:=U9 c3; simp [ov]; omega)]; rfl,rfl⟩
   cases c4:decide (4<l[i].kind)
   case true=>
    simp only [go_sem,c1,c2,c3,c4];exact .mk _ (.refl _) (hs.new hid _) ⟨by rw [bad (by have:=U9 c4; simp [ov]; omega)]; rfl,rfl⟩
   simp only [go_sem,c1,c2,c3,c4];refine (mB _ _).pthen ?_;cases d2:br l[i].arg
   ·simp only [go_sem]
    exact .mk _ (.refl _) (hs.new hid _) ⟨by rw [bad (by simp [ov,d2])]; rfl,rfl⟩
   ·simp only [go_sem,r14,w1]
    refine ⟨_, ?_,hs.new hid _,i+1,by omega,rfl, ?_, ?_, ?_, ?_⟩
    ·omega
    ·have f1:=Va c1
     have f2:=Va c2;have f3:=Va c3;have f4:=Va c4;rw [List.take_succ_eq_append_getElem hlt,List.all_append,hc]; simp [ov,d2]; omega
    all_goals simp only [go_sem,r12,r13,ax]
  ·have hge:i=l.length:=by have:=Va e; omega
   subst hge;rw [List.take_length] at hc;simp only [go_sem];exact .mk _ (.refl _) hs ⟨by simp [gy,e1,hc,au],rfl⟩
theorem It (op:Int) (h:Heap):ak Tryz.prog 196 [.v (.int .i64 op)] h fun r h' =>r=(match gF op with
  |none=> .tup [.sl [] .no, .v (.bool false)]
  |some w=> .tup [.sl (w.map iP) .no, .v (.bool true)])∧h' =h:=by
 refine ak.body hU hm Tryz.func196 rfl (by kernel_rfl) 35 rfl [.tmp 2, .tmp 3] rfl (U6 rfl) (fun hwf=> ?_)
 cases k1:(op==1)
 case true=>
  have e1:op=1:=by simpa using k1
  simp only [go_sem,k1];exact .mk _ (eT _) (.refl _) ⟨by simp [gF,e1,au,strip,ff],rfl⟩
 have n1:op≠1:=by simpa using k1
 cases k2:(op==2)
 case true=>
  have e1:op=2:=by simpa using k2
  simp only [go_sem,k1,k2];exact .mk _ (eT _) (.refl _) ⟨by simp [gF,e1,au,strip,ff],rfl⟩
 have n2:op≠2:=by simpa using k2
 cases k3:(op==3)
 case true=>
  have e1:op=3:=by simpa using k3
  simp only [go_sem,k1,k2,k3];exact .mk _ (eT _) (.refl _) ⟨by simp [gF,e1,au,strip,ff,iP],rfl⟩
 have n3:op≠3:=by simpa using k3
 cases k4:(op==4)
 case true=>
  have e1:op=4:=by simpa using k4
  simp only [go_sem,k1,k2,k3,k4];exact .mk _ (eT _) (.refl _) ⟨by simp [gF,e1,au,strip,ff,iP],rfl⟩
 have n4:op≠4:=by simpa using k4
 cases k5:(op==5)
 case true=>
  have e1:op=5:=by simpa using k5
  simp only [go_sem,k1,k2,k3,k4,k5];exact .mk _ (eT _) (.refl _) ⟨by simp [gF,e1,au,strip,ff,iP],rfl⟩
 have n5:op≠5:=by simpa using k5
 cases k11:(op==11)
 case true=>
  have e1:op=11:=by simpa using k11
  simp only [go_sem,k1,k2,k3,k4,k5,k11];exact .mk _ (eT _) (.refl _) ⟨by simp [gF,e1,au,strip,ff,iP],rfl⟩
 have n11:op≠11:=by simpa using k11
 cases k6:decide (6≤op)
 ·have n6:=Va k6
  simp only [go_sem,k1,k2,k3,k4,k5,k11,k6];exact .mk _ (eT _) (.refl _) ⟨by simp [gF,n1,n2,n3,n4,n5,n11,n6,au,strip,ff],rfl⟩
 cases k13:decide (op≤13)
 ·have n13:=Va k13
  simp only [go_sem,k1,k2,k3,k4,k5,k11,k6,k13];exact .mk _ (eT _) (.refl _) ⟨by simp [gF,n1,n2,n3,n4,n5,n11,n13,au,strip,ff],rfl⟩
 have n6:=U9 k6;have n13:=U9 k13;simp only [go_sem,k1,k2,k3,k4,k5,k11,k6,k13];exact .mk _ (eT _) (.refl _) ⟨by simp [gF,n1,n2,n3,n4,n5,n11,n6,n13,au,strip,ff,iP],rfl⟩
theorem Et (n:aN) (h:Heap):ak Tryz.prog 197 [cU n] h fun r h' =>r= .v (.bool (iS n))∧h' =h:=by
 refine ak.body hU hm Tryz.func197 rfl (by kernel_rfl) 37 rfl [.tmp 2] rfl (U6 rfl) (fun hwf=> ?_)
 simp only [go_sem,cU];intro id hid;have fa:∀x y z:Bool,(x && (y && (z && true)))=(x && (y && (z && true))):=fun _ _ _=>rfl
 cases k1:(n.op==1)
 case true=>
  have e1:n.op=1:=by simpa using k1
  simp only [go_sem,k1];refine (iK n.val _).pthen ?_;cases d0:bY n.val
  ·simp only [go_sem]
   exact .mk _ (.refl _) (.ai hid) ⟨by simp [iS,e1,d0,au],rfl⟩
  ·simp only [go_sem]
   exact .mk _ (.refl _) (.ai hid) ⟨by simp [iS,e1,d0,au,zeroAt],rfl⟩
 have n1:n.op≠1:=by simpa using k1
 cases k2:(n.op==2)
 case true=>
  have e1:n.op=2:=by simpa using k2
  simp only [go_sem,k1,k2];refine (Dd n.attr _).pthen ?_;cases d0:nE n.attr
  ·simp only [go_sem]
   exact .mk _ (.refl _) (.ai hid) ⟨by simp [iS,e1,d0,au],rfl⟩
  ·simp only [go_sem]
   exact .mk _ (.refl _) (.ai hid) ⟨by simp [iS,e1,d0,au,zeroV],rfl⟩
 have n2:n.op≠2:=by simpa using k2
 cases d0:zeroV n.val
 ·have d1:=d0
  unfold zeroV at d1;simp only [go_sem,k1,k2,d1];exact .mk _ (.refl _) (.ai hid) ⟨by simp [iS,n1,n2,d0,au],rfl⟩
 ·have d1:=d0
  unfold zeroV at d1;simp only [go_sem,k1,k2,d1];exact .mk _ (.refl _) (.ai hid) ⟨by simp [iS,n1,n2,d0,au,zeroAt],rfl⟩
theorem u4:(U 4).sz=1:=by simp only [go_sem]
theorem u4a:(U 4).k.agg=false:=by simp only [go_sem]
theorem u4b:(U 4).bytes=1:=by simp only [go_sem]
theorem u4f:fit (U 4).zero 1:=by simp only [go_sem]
theorem u4n:bu (U 4).zero=false:=by simp only [go_sem]
theorem De (l:List Bool):One (l.map iP):=One.map (fun _=>rfl) l
theorem JI (y:AV) (st:List Bool) (n:aN) (h0 h:Heap) (hy:WrA 4 h0 h y (st.map iP)) (hl:st.length≤1000000):
  ak Tryz.prog 173 [y,cU n] h fun r h' =>∃z,r= .tup [z, .v (.bool (gE st n).isSome)]∧match gE st n with
   |none=>Ab.Sub h0 h'
   |some st' =>WrA 4 h0 h' z (st'.map iP):=by
 refine ak.body hU hm Tryz.func173 rfl (by kernel_rfl) 60 rfl [.tmp 4, .tmp 5] rfl (U6 rfl) (fun hwf=> ?_)
 simp only [go_sem,cU];intro id hid;simp only [go_sem];have hyb:=hy.base hid (some (.obj [.v (.int .i64 n.op), .v (.int .i64 n.val.kind), .v (.int .i64 n.val.n), .s n.val.s, .v (.int .i64 n.attr.cat), .s n.attr.name, .v (.bool n.attr.must)] 226));have hw:=It n.op (upd h id (some (.obj [.v (.int .i64 n.op), .v (.int .i64 n.val.kind), .v (.int .i64 n.val.n), .s n.val.s, .v (.int .i64 n.attr.cat), .s n.attr.name, .v (.bool n.attr.must)] 226)));cases hwd:gF n.op with
 |none=>
  rw [hwd] at hw;have hst:gE st n=none:=by simp [gE,hwd]
  refine hw.pthen ?_;simp only [go_sem];exact .mk _ (.refl _) (.ai hid) ⟨_,by rw [hst]; rfl,by rw [hst]; exact hy.1⟩
 |some w=>
  rw [hwd] at hw;have hwl:w.length≤2:=by
   unfold gF at hwd
   repeat' split at hwd
   all_goals first|(cases hwd; simp; done)|(cases hwd)
  refine hw.pthen ?_;simp only [go_sem];refine (Et n _).pthen ?_;cases d1:iS n
  ·have hst:gE st n=none:=by simp [gE,hwd,d1]
   simp only [go_sem];exact .mk _ (.refl _) (.ai hid) ⟨_,by rw [hst]; rfl,by rw [hst]; exact hy.1⟩
  cases d2:decide ((st.length:Int)<(w.length:Int))
  case true=>
   have e2:¬w.length≤st.length:=by have:=U9 d2; omega
   have hst:gE st n=none:=by simp [gE,hwd,d1,e2]
   simp only [go_sem,hyb.len,U7,d2];exact .mk _ (.refl _) (.ai hid) ⟨_,by rw [hst]; rfl,by rw [hst]; exact hy.1⟩
  have e2:w.length≤st.length:=by have:=Va d2; omega
  have w1:IntKind.i64.wrap ((st.length:Int) - (w.length:Int))=((st.length - w.length:Nat):Int):=by rw [bw _ (by omega)]; omega
  obtain ⟨hb,ehb⟩:∃hb,upd h id (some (.obj [.v (.int .i64 n.op), .v (.int .i64 n.val.kind), .v (.int .i64 n.val.n), .s n.val.s, .v (.int .i64 n.attr.cat), .s n.attr.name, .v (.bool n.attr.must)] 226))=hb:=⟨_,rfl⟩;have hbid:hb id=some (.obj [.v (.int .i64 n.op), .v (.int .i64 n.val.kind), .v (.int .i64 n.val.n), .s n.val.s, .v (.int .i64 n.attr.cat), .s n.attr.name, .v (.bool n.attr.must)] 226):=by rw [←ehb]; exact ah ..
  have hsub:Ab.Sub h hb:=by rw [←ehb]; exact .ai hid
  rw [ehb] at hyb⊢;simp only [go_sem,hyb.len,U7,d2,w1];refine .intro (fun m ρ h' =>h' =hb∧∃i:Nat,i≤w.length∧m=w.length - i∧(∀j,j<i→st[st.length - w.length+j]? =w[j]?)∧lk ρ 0=some y∧lk ρ 3=some (.ptr id 0)∧lk ρ 8=some (.v (.int .i64 ((st.length - w.length:Nat):Int)))∧lk ρ 36=some (.sl (w.map iP) .no)∧lk ρ 37=some (.v (.int .i64 w.length))∧lk ρ 38=some (.v (.int .i64 i))) w.length ?_ ?_
  ·refine ⟨rfl,0,by omega,rfl,fun j hj=>(by omega), ?_, ?_, ?_, ?_, ?_, ?_⟩<;>simp only [go_sem]
  ·rintro m ρ h' ⟨rfl,i,hi,rfl,hc,r0,r3,r8,r36,r37,r38⟩
   simp only [go_sem,r37,r38];refine .intro (fun e=> ?_) (fun e=> ?_)
   ·have hlt:i<w.length:=Ve e
    have w2:=Vd i (by omega)
    have w3:IntKind.i64.wrap (((st.length - w.length:Nat):Int)+(i:Int))=((st.length - w.length+i:Nat):Int):=by rw [bw _ (by omega)]; omega
    have hlt2:st.length - w.length+i<st.length:=by omega
    simp only [go_sem,r36,r38];refine .at i (by simpa using hlt) (by rw [U8]; rfl) ?_
    simp only [go_sem,r0,r8,U8,iP,w3];refine hyb.idx (De st) (st.length - w.length+i) rfl (by simpa using hlt2) u4 u4a fun p hp=> ?_
    simp only [go_sem,hp _,U8,iP];cases d3:(st[st.length - w.length+i]==w[i])
    ·have hst:gE st n=none:=by
      have:st.drop (st.length - w.length)≠w:=fun hh=>by
       have:=congrArg (fun q=>q[i]?) hh
       simp only [List.getElem?_drop,List.getElem?_eq_getElem hlt,List.getElem?_eq_getElem hlt2,Option.some.injEq] at this;rw [this] at d3; simp at d3
      simp [gE,hwd,this]
     simp only [go_sem];exact .mk _ (.refl _) hsub ⟨_,by rw [hst]; rfl,by rw [hst]; exact hy.1⟩
    ·simp only [go_sem,r38,w2]
     refine ⟨_, ?_,rfl,i+1,by omega,rfl,fun j hj=> ?_, ?_, ?_, ?_, ?_, ?_, ?_⟩
     ·omega
     ·by_cases hji:j=i
      ·subst hji
       rw [List.getElem?_eq_getElem hlt2,List.getElem?_eq_getElem hlt];simpa using d3
      ·exact hc j (by omega)
     all_goals simp only [go_sem,r0,r3,r8,r36,r37]
   ·have hge:i=w.length:=by have:=Va e; omega
    subst hge;have hdrop:st.drop (st.length - w.length)=w:=by
     apply List.ext_getElem?;intro j;rw [List.getElem?_drop]
     by_cases hj:j<w.length
     ·exact hc j hj
     ·rw [List.getElem?_eq_none (by omega),List.getElem?_eq_none (by omega)]
    have hst:gE st n=some (st.take (st.length - w.length)++ [n.op==2]):=by
     simp [gE,hwd,d1,e2,hdrop]
    simp only [go_sem];refine .calls (hm1 id _) [0,1,2,3,4,5,6,7,8,9] (.hm1 hbid) (by kernel_rfl) rfl ?_
    simp only [go_sem,r0,r8];refine hyb.cut (x:= .i64) (st.length - w.length) (by simp only [go_sem]) rfl (by simp) u4 fun z hz=> ?_
    rw [←List.map_take] at hz;simp only [go_sem,r3,fE];refine hz.app (zs:= [.v (.bool (n.op==2))]) (De _) (De [n.op==2]) u4 (by rw [u4b]; decide) u4f u4n (fun k hk=>hk) (by rw [u4b]; simp; omega) fun z' h2 hz' => ?_
    refine ⟨fun j b hj=>((Sub.hm1 (ah ..)).trans hz'.1) j b hj, ?_⟩
    simp only [go_sem];have hz2:=hz'.less (Sub.ai (hy.1.none hid));refine .same (.refl _) ⟨z',by rw [hst]; rfl, ?_⟩
    rw [hst];simp only [List.map_append];exact hz2
theorem BU {l:List aN} (h:l.length≤32) (hs:fe [] l=none):jg l=1:=by
 simp [jg,hs,Nat.not_lt.2 h]
theorem jd (st:List Bool):∀(l:List aN) (i:Nat),fe st l=(match fe st (l.take i) with
  |none=>none
  |some st' =>fe st' (l.drop i))
 | [],i=>by simp [fe]
 |n::r,0=>by simp [fe]
 |n::r,i+1=>by
  simp only [List.take_succ_cons,List.drop_succ_cons,fe];cases gE st n with
  |none=>rfl
  |some st' =>simp only; exact jd st' r i
theorem pL (st st' :List Bool) (l:List aN) (h:fe st l=some st'):st'.length≤st.length+l.length:=by
 induction l generalizing st with
 |nil=>simp only [fe,Option.some.injEq] at h; subst h; simp
 |cons n r ih=>
  simp only [fe] at h;cases hs:gE st n with
  |none=>rw [hs] at h; cases h
  |some s2=>
   rw [hs] at h;have:=ih s2 h;unfold gE at hs;split at hs
   ·cases hs
   ·split at hs
    ·cases hs
     simp at this⊢;omega
    ·cases hs
theorem Dk (l:List aN) (h:Heap):ak Tryz.prog 148 [eO l] h fun r h' =>r= .v (.int .i64 (jg l))∧h' =h:=by
 refine ak.body hU hm Tryz.func148 rfl (by kernel_rfl) 38 rfl [.tmp 2] rfl (U6 rfl) (fun hwf=> ?_)
 cases d1:decide (32<(l.length:Int))
 case true=>
  have e1:32<l.length:=by have:=U9 d1; omega
  simp only [go_sem,eO,U7,d1];exact .same (.refl _) ⟨by simp [jg,e1,au],rfl⟩
 have e1:l.length≤32:=by have:=Va d1; omega
 simp only [go_sem,eO,U7,d1];refine .intro (fun m ρ h' =>∃(i:Nat) (y:AV) (st:List Bool),WrA 4 h h' y (st.map iP)∧fe [] (l.take i)=some st∧i≤l.length∧m=l.length - i∧
  lk ρ 0=some (eO l)∧lk ρ 3=some y∧lk ρ 10=some (eO l)∧lk ρ 11=some (.v (.int .i64 l.length))∧lk ρ 12=some (.v (.int .i64 i))) l.length ?_ ?_
 ·refine ⟨0,_,[], .nil (.refl _),rfl,by omega,rfl, ?_, ?_, ?_, ?_, ?_⟩<;>simp only [go_sem,eO]
 ·rintro m ρ h' ⟨i,y,st,hy,hst,hi,rfl,r0,r3,r10,r11,r12⟩
  have hsl:=pL _ _ _ hst;have hsl:st.length≤i:=by simpa [Nat.min_eq_left hi] using hsl
  simp only [go_sem,r11,r12];refine .intro (fun e=> ?_) (fun e=> ?_)
  ·have hlt:i<l.length:=Ve e
   have w1:=Vd i (by omega)
   have hnx:fe [] (l.take (i+1))=gE st l[i]:=by
    rw [jd [] _ i,List.take_take,Nat.min_eq_left (by omega),hst,List.take_succ_eq_append_getElem hlt,List.drop_append_of_le_length (by simp; omega),List.drop_of_length_le (by simp; omega)]
    simp only [List.nil_append,fe];cases gE st l[i]<;>rfl
   simp only [go_sem,r10,r12,eO];refine .at i (by simpa using hlt) (by rw [U8]; rfl) ?_
   simp only [go_sem,U8,cU];intro id hid;simp only [go_sem,r3];have hyb:=hy.sub (Sub.ai (k:=some (.obj [.v (.int .i64 l[i].op), .v (.int .i64 l[i].val.kind), .v (.int .i64 l[i].val.n), .s l[i].val.s, .v (.int .i64 l[i].attr.cat), .s l[i].attr.name, .v (.bool l[i].attr.must)] 226)) hid);refine (JI y st l[i] h _ hyb (by omega)).mono fun r h2 ⟨z,e2,hz⟩=> ?_
   subst e2;cases hsd:gE st l[i] with
   |none=>
    rw [hsd] at hz;simp only [go_sem,Option.isSome_none];refine .mk _ (.refl _) hz ⟨?_,rfl⟩;rw [BU e1 (by rw [jd [] l (i+1),hnx,hsd])]; rfl
   |some st' =>
    rw [hsd] at hz hnx;simp only [go_sem,r12,Option.isSome_some,w1];refine ⟨_, ?_,i+1,z,st',hz,hnx,by omega,rfl, ?_, ?_, ?_, ?_, ?_⟩
    ·omega
    all_goals simp only [go_sem,r0,r10,r11,eO]
  ·have hge:i=l.length:=by have:=Va e; omega
   subst hge;rw [List.take_length] at hst;have he:jg l=if l= []∨st= [false] then 0 else 1:=by
    simp only [jg,hst];rw [if_neg (by omega)]
   cases d2:decide (0<(l.length:Int))
   ·have e2:l= []:=by have:=Va d2; exact List.length_eq_zero_iff.1 (by omega)
    simp only [go_sem,r0,eO,U7,d2];exact .mk _ (.refl _) hy.1 ⟨by rw [he,if_pos (.inl e2)]; rfl,rfl⟩
   have e2:l≠ []:=by rintro rfl; simp at d2
   cases d3:((st.length:Int) !=1)
   case true=>
    have e3:st≠ [false]:=by rintro rfl; simp at d3
    simp only [go_sem,r0,r3,eO,U7,d2,hy.len,d3];exact .mk _ (.refl _) hy.1 ⟨by rw [he,if_neg (by simp [e2,e3])]; rfl,rfl⟩
   have e3:st.length=1:=by
    have:(st.length:Int)=1:=by simpa using d3
    omega
   obtain ⟨b,rfl⟩:=List.length_eq_one_iff.1 e3;simp only [go_sem,r0,r3,eO,U7,d2,hy.len];refine hy.idx (De [b]) 0 rfl (by simp) u4 u4a fun p hp=> ?_
   simp only [go_sem,hp _,iP,List.getElem_cons_zero];cases b
   ·simp only [go_sem]
    exact .mk _ (.refl _) hy.1 ⟨by rw [he,if_pos (.inr rfl)]; rfl,rfl⟩
   ·simp only [go_sem]
    exact .mk _ (.refl _) hy.1 ⟨by rw [he,if_neg (by simp [e2])]; rfl,rfl⟩
def Keeps (S:List Nat) (h h' :Heap):Prop:=∀j k,j∉S→h j=some k→h' j=some k
theorem Keeps.trans {S:List Nat} {a b c:Heap} (x:Keeps S a b) (y:Keeps S b c):Keeps S a c:=fun j k hj e=>y j k hj (x j k hj e)
theorem Keeps.of {S:List Nat} {a b:Heap} (x:Ab.Sub a b):Keeps S a b:=fun j k _ e=>x j k e
theorem Keeps.upd {S:List Nat} {a:Heap} {i:Nat} {b:Option Blk} (hi:i∈S):Keeps S a (Ab.upd a i b):=fun j k hj e=>by
 rw [ag _ _ (fun e=>hj (by rw [e]; exact hi))]; exact e
def fW (h:Heap) (idw mid:Nat) (m:dM):Prop:=h idw=some (.obj [.mp mid, .v (.int .i64 m.rules)] 158)∧h mid=some (.mp (wY m.met))∧(∀l∈m.met,l.length≤16)∧m.rules≤64
theorem fW.ne {h:Heap} {idw mid:Nat} {m:dM} (hw:fW h idw mid m):idw≠mid:=fun e=>by
 have h1:=hw.1; have h2:=hw.2.1
 rw [e,h2] at h1; cases h1
theorem fW.keep {h h' :Heap} {idw mid:Nat} {m:dM} (hw:fW h idw mid m) (hs:Ab.Sub h h'):fW h' idw mid m:=⟨hs _ _ hw.1,hs _ _ hw.2.1,hw.2.2⟩
theorem Q0:(U 256).sz=0:=by simp only [go_sem]
theorem Cv {s:Txt} (h:br s=true):s.length≤16:=by
 simp [br] at h; exact h.2
theorem vE {m:dM} {s:Txt} (h:s∈m.met∨br s=false):hY m s=none:=by
 unfold hY;rw [if_neg]
 rintro ⟨h1,h2⟩
 rcases h with h|h
 ·exact h1 h
 ·rw [h] at h2; cases h2
theorem BE (idw mid:Nat) (m:dM) (s:Txt) (h:Heap) (hw:fW h idw mid m):ak Tryz.prog 145 [.ptr idw 0, .s s] h fun r h' =>match hY m s with
  |none=>r= .v (.bool false)∧Ab.Sub h h'
  |some m' =>r= .v (.bool true)∧Keeps [idw,mid] h h'∧fW h' idw mid m' :=by
 refine ak.body hU hm Tryz.func145 rfl (by kernel_rfl) 28 rfl [.tmp 4] rfl (U6 rfl) (fun hwf=> ?_)
 obtain ⟨w1,w2,w3,w4⟩:=hw;have hlen:s.length≤maxLen:=by
  have:=hwf (.s s) (by simp)
  simp only [wfA,wf1,lim] at this;unfold maxLen; omega
 have hkeys:xm .str (wY m.met):=EX fun l hl=>by have:=w3 l hl; unfold maxLen; omega
 simp only [go_sem,w1,w2];refine ⟨hlen, .inr (by simp only [go_sem]),hkeys, ?_⟩
 rw [EZ _ _ Q0];simp only [go_sem];intro idv hidv;simp only [go_sem];cases d1:decide (s∈m.met)
 case true=>
  have hm:=vE (.inl (U9 d1));simp only [go_sem];rw [hm];exact .mk _ (.refl _) (.ai hidv) ⟨rfl, .refl _⟩
 have e1:=Va d1;simp only [go_sem];refine (mB _ _).pthen ?_;cases d2:br s
 ·have hm:=vE (m:=m) (.inr d2)
  simp only [go_sem];rw [hm];exact .mk _ (.refl _) (.ai hidv) ⟨rfl, .refl _⟩
 have hm:hY m s=some ⟨m.met++ [s],m.rules⟩:=by simp [hY,e1,d2]
 have hne:=fW.ne ⟨w1,w2,w3,w4⟩;have n1:idw≠idv:=fun e=>by rw [e,hidv] at w1; cases w1
 have n2:mid≠idv:=fun e=>by rw [e,hidv] at w2; cases w2
 have w1' :upd h idv (some (.obj [] 256)) idw=some (.obj [.mp mid, .v (.int .i64 m.rules)] 158):=by rw [ag _ _ n1]; exact w1
 have w2' :upd h idv (some (.obj [] 256)) mid=some (.mp (wY m.met)):=by rw [ag _ _ n2]; exact w2
 simp only [go_sem,w1',w2'];refine ⟨hlen,hkeys, ?_⟩;rw [HY e1];rw [hm];refine .same (.refl _) ⟨rfl,(Keeps.of (.ai hidv)).trans (.upd (by simp)), ?_, ?_, ?_,w4⟩
 ·rw [ag _ _ hne]; exact w1'
 ·rw [ah]
 ·intro l hl
  rcases List.mem_append.1 hl with hl|hl
  ·exact w3 l hl
  ·rw [List.mem_singleton.1 hl]; exact Cv d2
theorem Ix (idw mid:Nat) (m:dM) (r:cK) (h:Heap) (hw:fW h idw mid m):ak Tryz.prog 113 [.ptr idw 0,aB r] h fun x h' =>x= .v (.int .i64 (fL m r).err)∧Keeps [idw,mid] h h'∧∀m',fL m r= .ok m'→fW h' idw mid m' :=by
 refine ak.body hU hm Tryz.func113 rfl (by kernel_rfl) 39 rfl [.tmp 4] rfl (U6 rfl) (fun hwf=> ?_)
 simp only [go_sem,aB,aS,eO,ax];intro id hid;have n1:idw≠id:=fun e=>by have:=hw.1; rw [e,hid] at this; cases this
 have n2:mid≠id:=fun e=>by have:=hw.2.1; rw [e,hid] at this; cases this
 have hwb:=hw.keep (Sub.ai (k:=some (.obj [.s r.id, .v (.bool r.deny), .sl (r.tgt.map cI) .no, .sl (r.cond.map cU) .no, .sl (r.obls.map bk) .no] 164)) hid);have hk0:Keeps [idw,mid] h (upd h id (some (.obj [.s r.id, .v (.bool r.deny), .sl (r.tgt.map cI) .no, .sl (r.cond.map cU) .no, .sl (r.obls.map bk) .no] 164))):= .of (.ai hid);simp only [go_sem];obtain ⟨hb,ehb⟩:∃hb,upd h id (some (.obj [.s r.id, .v (.bool r.deny), .sl (r.tgt.map cI) .no, .sl (r.cond.map cU) .no, .sl (r.obls.map bk) .no] 164))=hb:=⟨_,rfl⟩;have hbid:hb id=some (.obj [.s r.id, .v (.bool r.deny), .sl (r.tgt.map cI) .no, .sl (r.cond.map cU) .no, .sl (r.obls.map bk) .no] 164):=by rw [←ehb]; exact ah ..
 rw [ehb] at hwb hk0⊢;refine (BE idw mid m r.id hb hwb).mono fun x h2 hx=> ?_
 cases hm:hY m r.id with
 |none=>
  rw [hm] at hx;obtain ⟨rfl,hs⟩:=hx;have hr:fL m r= .bad 1:=by simp [fL,hm]
  simp only [go_sem];exact .same (.refl _) ⟨by rw [hr]; rfl,hk0.trans (.of hs),fun m' h' =>by rw [hr] at h'; cases h'⟩
 |some m1=>
  rw [hm] at hx;obtain ⟨rfl,hk,hw2⟩:=hx;have g2:=hw2.1;have hle:=hw2.2.2.2;have hid2:h2 id=some (.obj [.s r.id, .v (.bool r.deny), .sl (r.tgt.map cI) .no, .sl (r.cond.map cU) .no, .sl (r.obls.map bk) .no] 164):=hk id _ (by simp [n1.symm,n2.symm]) hbid
  have w1:IntKind.i64.wrap ((m1.rules:Int)+1)=((m1.rules+1:Nat):Int):=by rw [bw _ (by omega)]; omega
  have hk3:Keeps [idw,mid] h (upd h2 idw (some (.obj [.mp mid, .v (.int .i64 ((m1.rules+1:Nat):Int))] 158))):=(hk0.trans hk).trans (.upd (by simp))
  have hid3:upd h2 idw (some (.obj [.mp mid, .v (.int .i64 ((m1.rules+1:Nat):Int))] 158)) id=some (.obj [.s r.id, .v (.bool r.deny), .sl (r.tgt.map cI) .no, .sl (r.cond.map cU) .no, .sl (r.obls.map bk) .no] 164):=by
   rw [ag _ _ n1.symm]; exact hid2
  cases d1:decide (64<((m1.rules+1:Nat):Int))
  case true=>
   have e1:m1.rules+1>64:=by have:=U9 d1; omega
   have hr:fL m r= .bad 6:=by simp [fL,hm,e1]
   simp only [go_sem,g2,w1,d1];exact .same (.refl _) ⟨by rw [hr]; rfl,hk3,fun m' h' =>by rw [hr] at h'; cases h'⟩
  have e1:¬m1.rules+1>64:=by have:=Va d1; omega
  have hr:fL m r=need (jT r.tgt) (need (jg r.cond) (need (gy r.obls) (.ok ⟨m1.met,m1.rules+1⟩))):=by simp [fL,hm,e1]
  simp only [go_sem,g2,w1,d1,hid3];refine (sx r.tgt _).pthen ?_;cases d2:(jT r.tgt !=0)
  case true=>
   have e2:jT r.tgt≠0:=by simpa using d2
   have hr:fL m r= .bad (jT r.tgt):=by rw [hr]; simp [need,e2]
   simp only [go_sem,d2];exact .same (.refl _) ⟨by rw [hr]; rfl,hk3,fun m' h' =>by rw [hr] at h'; cases h'⟩
  have e2:jT r.tgt=0:=by simpa using d2
  rw [need,if_pos e2] at hr;simp only [go_sem,d2,hid3];refine (Dk r.cond _).pthen ?_;cases d3:(jg r.cond !=0)
  case true=>
   have e3:jg r.cond≠0:=by simpa using d3
   have hr:fL m r= .bad (jg r.cond):=by rw [hr]; simp [need,e3]
   simp only [go_sem,d3];exact .same (.refl _) ⟨by rw [hr]; rfl,hk3,fun m' h' =>by rw [hr] at h'; cases h'⟩
  have e3:jg r.cond=0:=by simpa using d3
  rw [need,if_pos e3] at hr;simp only [go_sem,d3,hid3];refine (zj r.obls _).pthen ?_;simp only [go_sem]
  by_cases e4:gy r.obls=0
  ·rw [need,if_pos e4] at hr
   refine .same (.refl _) ⟨by rw [hr,e4]; rfl,hk3,fun m' h' => ?_⟩
   rw [hr] at h';cases h';refine ⟨ah .., ?_,hw2.2.2.1,by show m1.rules+1≤64; omega⟩
   rw [ag _ _ hw2.ne.symm]; exact hw2.2.1
  ·rw [need,if_neg e4] at hr
   exact .same (.refl _) ⟨by rw [hr]; rfl,hk3,fun m' h' =>by rw [hr] at h'; cases h'⟩
theorem vi {m:dM} {id:Txt} {set:Bool} {alg:Int} {tgt:fI} {nr nk:Nat} {obls:List cA} (h:hY m id=none):eC m id set alg tgt nr nk obls= .bad 1:=by
 simp [eC,h]
theorem Iv (idw mid:Nat) (m:dM) (id:Txt) (set:Bool) (alg:Int) (tgt:fI) (rules:List cK) (kids:List bD) (obls:List cA) (h:Heap) (hw:fW h idw mid m):
  ak Tryz.prog 112 [.ptr idw 0,aK (.mk id set alg tgt rules kids obls)] h fun x h' =>x= .v (.int .i64 (eC m id set alg tgt rules.length kids.length obls).err)∧Keeps [idw,mid] h h'∧∀m',eC m id set alg tgt rules.length kids.length obls= .ok m'→fW h' idw mid m' :=by
 refine ak.body hU hm Tryz.func112 rfl (by kernel_rfl) 68 rfl [.tmp 4] rfl (U6 rfl) (fun hwf=> ?_)
 simp -implicitDefEqProofs only [go_sem,aK,aS,ax];intro ip hip;have n1:idw≠ip:=fun e=>by have:=hw.1; rw [e,hip] at this; cases this
 have n2:mid≠ip:=fun e=>by have:=hw.2.1; rw [e,hip] at this; cases this
 have hwb:=hw.keep (Sub.ai (k:=some (.obj [.s id, .v (.bool set), .v (.int .i64 alg), .sl (tgt.map cI) .no, .sl (rules.map aB) .no, .sl (eR kids) .no, .sl (obls.map bk) .no] 37)) hip);have hk0:Keeps [idw,mid] h (upd h ip (some (.obj [.s id, .v (.bool set), .v (.int .i64 alg), .sl (tgt.map cI) .no, .sl (rules.map aB) .no, .sl (eR kids) .no, .sl (obls.map bk) .no] 37))):= .of (.ai hip);simp -implicitDefEqProofs only [go_sem];obtain ⟨hb,ehb⟩:∃hb,upd h ip (some (.obj [.s id, .v (.bool set), .v (.int .i64 alg), .sl (tgt.map cI) .no, .sl (rules.map aB) .no, .sl (eR kids) .no, .sl (obls.map bk) .no] 37))=hb:=⟨_,rfl⟩;have hbip:hb ip=some (.obj [.s id, .v (.bool set), .v (.int .i64 alg), .sl (tgt.map cI) .no, .sl (rules.map aB) .no, .sl (eR kids) .no, .sl (obls.map bk) .no] 37):=by rw [←ehb]; exact ah ..
 rw [ehb] at hwb hk0⊢;refine (BE idw mid m id hb hwb).mono fun x h2 hx=> ?_
 cases hm:hY m id with
 |none=>
  rw [hm] at hx;obtain ⟨rfl,hs⟩:=hx;simp -implicitDefEqProofs only [go_sem];exact .same (.refl _) ⟨by rw [vi hm]; rfl,hk0.trans (.of hs),fun m' h' =>by rw [vi hm] at h'; cases h'⟩
 |some m1=>
  rw [hm] at hx;obtain ⟨rfl,hk,hw2⟩:=hx;have hip2:h2 ip=some (.obj [.s id, .v (.bool set), .v (.int .i64 alg), .sl (tgt.map cI) .no, .sl (rules.map aB) .no, .sl (eR kids) .no, .sl (obls.map bk) .no] 37):=hk ip _ (by simp [n1.symm,n2.symm]) hbip
  have hkk:=hk0.trans hk;have bad:∀e,eC m id set alg tgt rules.length kids.length obls= .bad e→(.v (.int .i64 e):AV)= .v (.int .i64 (eC m id set alg tgt rules.length kids.length obls).err)∧Keeps [idw,mid] h h2∧∀m',eC m id set alg tgt rules.length kids.length obls= .ok m'→fW h2 idw mid m' :=
   fun e he=>⟨by rw [he]; rfl,hkk,fun m' h' =>by rw [he] at h'; cases h'⟩
  cases d1:decide (alg<1)
  case true=>
   have e1:=U9 d1;simp -implicitDefEqProofs only [go_sem,d1,hip2];exact .same (.refl _) (bad 1 (by simp [eC,hm,e1]))
  cases d2:decide (6<alg)
  case true=>
   have e2:=U9 d2;simp -implicitDefEqProofs only [go_sem,d1,d2,hip2];exact .same (.refl _) (bad 1 (by simp [eC,hm,e2]))
  have e1:¬(alg<1∨alg>6):=by have:=Va d1; have:=Va d2; omega
  have tail:∀(z:Unit),¬(set=true∧rules.length>0∨set=false∧(kids.length>0∨alg=4))→eC m id set alg tgt rules.length kids.length obls=need (jT tgt) (need (gy obls) (if rules.length>16∨kids.length>16 then .bad 6 else .ok m1)):=fun _ hh=>by
   simp only [eC,hm];rw [if_neg e1,if_neg hh]
  cases set
  ·cases d4:decide (0<(kids.length:Int))
   case true=>
    have f4:0<kids.length:=by have:=U9 d4; omega
    simp -implicitDefEqProofs only [go_sem,d1,d2,hip2,aX,U7,d4];exact .same (.refl _) (bad 1 (by simp [eC,hm,e1,f4]))
   have g4:¬0<kids.length:=by have:=Va d4; omega
   cases d5:(alg==4)
   case true=>
    have f5:alg=4:=by simpa using d5
    simp -implicitDefEqProofs only [go_sem,d1,d2,hip2,aX,U7,d4,d5];exact .same (.refl _) (bad 1 (by simp [eC,hm,f5]))
   have g5:alg≠4:=by simpa using d5
   simp -implicitDefEqProofs only [go_sem,d1,d2,hip2,aX,U7,d4,d5];have e3:=tail () (by simp [g4,g5])
   refine (sx tgt _).pthen ?_;cases t1:(jT tgt !=0)
   case true=>
    have f1:jT tgt≠0:=by simpa using t1
    simp -implicitDefEqProofs only [go_sem,t1];exact .same (.refl _) (bad _ (by rw [e3]; simp [need,f1]))
   have f1:jT tgt=0:=by simpa using t1
   simp -implicitDefEqProofs only [go_sem,t1,hip2];refine (zj obls _).pthen ?_;cases t2:(gy obls !=0)
   case true=>
    have f2:gy obls≠0:=by simpa using t2
    simp -implicitDefEqProofs only [go_sem,t2];exact .same (.refl _) (bad _ (by rw [e3]; simp [need,f1,f2]))
   have f2:gy obls=0:=by simpa using t2
   cases t3:decide (16<(rules.length:Int))
   case true=>
    have f3:16<rules.length:=by have:=U9 t3; omega
    simp -implicitDefEqProofs only [go_sem,t2,hip2,U7,t3];exact .same (.refl _) (bad _ (by rw [e3]; simp [need,f1,f2,f3]))
   have f3:¬16<rules.length:=by have:=Va t3; omega
   cases t4:decide (16<(kids.length:Int))
   case true=>
    have f4:16<kids.length:=by have:=U9 t4; omega
    simp -implicitDefEqProofs only [go_sem,t2,hip2,U7,t3,aX,t4];exact .same (.refl _) (bad _ (by rw [e3]; simp [need,f1,f2,f4]))
   have f4:¬16<kids.length:=by have:=Va t4; omega
   simp -implicitDefEqProofs only [go_sem,t2,hip2,U7,t3,aX,t4];have e4:eC m id false alg tgt rules.length kids.length obls= .ok m1:=by rw [e3]; simp [need,f1,f2,f3,f4]
   exact .same (.refl _) ⟨by rw [e4]; rfl,hkk,fun m' h' =>by rw [e4] at h'; cases h'; exact hw2⟩
  ·cases d3:decide (0<(rules.length:Int))
   case true=>
    have f3:0<rules.length:=by have:=U9 d3; omega
    simp -implicitDefEqProofs only [go_sem,d1,d2,hip2,U7,d3];exact .same (.refl _) (bad 1 (by simp [eC,hm,e1,f3]))
   have g3:¬0<rules.length:=by have:=Va d3; omega
   simp -implicitDefEqProofs only [go_sem,d1,d2,hip2,U7,d3];have e3:=tail () (by simp [g3])
   refine (sx tgt _).pthen ?_;cases t1:(jT tgt !=0)
   case true=>
    have f1:jT tgt≠0:=by simpa using t1
    simp -implicitDefEqProofs only [go_sem,t1];exact .same (.refl _) (bad _ (by rw [e3]; simp [need,f1]))
   have f1:jT tgt=0:=by simpa using t1
   simp -implicitDefEqProofs only [go_sem,t1,hip2];refine (zj obls _).pthen ?_;cases t2:(gy obls !=0)
   case true=>
    have f2:gy obls≠0:=by simpa using t2
    simp -implicitDefEqProofs only [go_sem,t2];exact .same (.refl _) (bad _ (by rw [e3]; simp [need,f1,f2]))
   have f2:gy obls=0:=by simpa using t2
   cases t3:decide (16<(rules.length:Int))
   case true=>
    have f3:16<rules.length:=by have:=U9 t3; omega
    simp -implicitDefEqProofs only [go_sem,t2,hip2,U7,t3];exact .same (.refl _) (bad _ (by rw [e3]; simp [need,f1,f2,f3]))
   have f3:¬16<rules.length:=by have:=Va t3; omega
   cases t4:decide (16<(kids.length:Int))
   case true=>
    have f4:16<kids.length:=by have:=U9 t4; omega
    simp -implicitDefEqProofs only [go_sem,t2,hip2,U7,t3,aX,t4];exact .same (.refl _) (bad _ (by rw [e3]; simp [need,f1,f2,f4]))
   have f4:¬16<kids.length:=by have:=Va t4; omega
   simp -implicitDefEqProofs only [go_sem,t2,hip2,U7,t3,aX,t4];have e4:eC m id true alg tgt rules.length kids.length obls= .ok m1:=by rw [e3]; simp [need,f1,f2,f3,f4]
   exact .same (.refl _) ⟨by rw [e4]; rfl,hkk,fun m' h' =>by rw [e4] at h'; cases h'; exact hw2⟩
theorem HD (k:bD):(aK k).cells.length=7:=by
 cases k; simp [aK,AV.cells]
theorem oV {m:dM} {d:Nat} {p:bD} (h:4<d):jt m d p= .bad 6:=by
 cases p; simp [jt,h]
theorem so {m:dM} {d:Nat} {id:Txt} {set:Bool} {alg:Int} {tgt:fI} {rules:List cK} {kids:List bD} {obls:List cA} {e:Int} (h:¬4<d)
  (hh:eC m id set alg tgt rules.length kids.length obls= .bad e):jt m d (.mk id set alg tgt rules kids obls)= .bad e:=by
 simp [jt,h,hh]
theorem vS {m m1:dM} {d:Nat} {id:Txt} {set:Bool} {alg:Int} {tgt:fI} {rules:List cK} {kids:List bD} {obls:List cA} {e:Int} (h:¬4<d)
  (hh:eC m id set alg tgt rules.length kids.length obls= .ok m1) (hr:dX m1 rules= .bad e):jt m d (.mk id set alg tgt rules kids obls)= .bad e:=by
 simp [jt,h,hh,hr]
theorem x7 {m m1 m2:dM} {d:Nat} {id:Txt} {set:Bool} {alg:Int} {tgt:fI} {rules:List cK} {kids:List bD} {obls:List cA} (h:¬4<d)
  (hh:eC m id set alg tgt rules.length kids.length obls= .ok m1) (hr:dX m1 rules= .ok m2):jt m d (.mk id set alg tgt rules kids obls)=gx m2 (d+1) kids:=by
 simp [jt,h,hh,hr]
theorem rq:∀(n d:Nat) (m:dM) (p:bD) (e:Int),d+n=5→jt m d p= .bad e→e≠0
 |0,d,m,p,e,hd,h=>by rw [oV (by omega)] at h; cases h; decide
 |n+1,d,m, .mk id set alg tgt rules kids obls,e,hd,h=>by
  by_cases h4:4<d
  ·rw [oV h4] at h; cases h; decide
  cases hh:eC m id set alg tgt rules.length kids.length obls with
  |bad e' =>rw [so h4 hh] at h; cases h; exact xJ hh
  |ok m1=>
   cases hr:dX m1 rules with
   |bad e' =>
    rw [vS h4 hh hr] at h; cases h
    clear hh hd
    induction rules generalizing m1 with
    |nil=>cases hr
    |cons r l ih=>
     simp only [dX] at hr;cases hx:fL m1 r with
     |bad x=>rw [hx] at hr; cases hr; exact ye hx
     |ok m2=>rw [hx] at hr; exact ih m2 hr
   |ok m2=>
    rw [x7 h4 hh hr] at h;have ih:=fun m p e=>rq n (d+1) m p e (by omega)
    clear hh hr
    induction kids generalizing m2 with
    |nil=>cases h
    |cons k l ihk=>
     simp only [gx] at h;cases hx:jt m2 (d+1) k with
     |bad x=>rw [hx] at h; cases h; exact ih _ _ _ hx
     |ok m3=>rw [hx] at h; exact ihk m3 h
theorem DD {e:Int} {w:Went} {m:dM} (h:need e w= .ok m):e=0∧w= .ok m:=by
 unfold need at h;split at h
 ·exact ⟨by assumption,h⟩
 ·cases h
theorem GC {m m1:dM} {id:Txt} {set:Bool} {alg:Int} {tgt:fI} {nr nk:Nat} {obls:List cA} (h:eC m id set alg tgt nr nk obls= .ok m1):
  hY m id=some m1∧1≤alg∧alg≤6∧(set=true→nr=0)∧(set=false→nk=0∧alg≠4)∧jT tgt=0∧gy obls=0∧nr≤16∧nk≤16:=by
 unfold eC at h;split at h
 ·cases h
 rename_i m2 hm
 split at h
 ·cases h
 split at h
 ·cases h
 rename_i h1 h2
 obtain ⟨h3,h⟩:=DD h;obtain ⟨h4,h⟩:=DD h;split at h
 ·cases h
 cases h;have h5:(set=true→nr=0)∧(set=false→nk=0∧alg≠4):=by
  cases set<;>simp at h2⊢<;>omega
 exact ⟨hm,by omega,by omega,h5.1,h5.2,h3,h4,by omega,by omega⟩
theorem D0:∀(n d:Nat),d+n=5→∀(idw mid:Nat) (m:dM) (p:bD) (h:Heap),fW h idw mid m→
  ak Tryz.prog 79 [.ptr idw 0,aK p, .v (.int .i64 d)] h fun x h' =>x= .v (.int .i64 (jt m d p).err)∧Keeps [idw,mid] h h'∧∀m',jt m d p= .ok m'→fW h' idw mid m'
 |n,d,hd,idw,mid,m, .mk id set alg tgt rules kids obls,h,hw=>by
  refine ak.body hU hm Tryz.func79 rfl (by kernel_rfl) 52 rfl [.tmp 6] rfl (U6 rfl) (fun hwf=> ?_)
  simp only [go_sem,aK,aS,ax];intro ip hip;have n1:idw≠ip:=fun e=>by have:=hw.1; rw [e,hip] at this; cases this
  have n2:mid≠ip:=fun e=>by have:=hw.2.1; rw [e,hip] at this; cases this
  have hwb:=hw.keep (Sub.ai (k:=some (.obj [.s id, .v (.bool set), .v (.int .i64 alg), .sl (tgt.map cI) .no, .sl (rules.map aB) .no, .sl (eR kids) .no, .sl (obls.map bk) .no] 37)) hip);have hk0:Keeps [idw,mid] h (upd h ip (some (.obj [.s id, .v (.bool set), .v (.int .i64 alg), .sl (tgt.map cI) .no, .sl (rules.map aB) .no, .sl (eR kids) .no, .sl (obls.map bk) .no] 37))):= .of (.ai hip);obtain ⟨hb,ehb⟩:∃hb,upd h ip (some (.obj [.s id, .v (.bool set), .v (.int .i64 alg), .sl (tgt.map cI) .no, .sl (rules.map aB) .no, .sl (eR kids) .no, .sl (obls.map bk) .no] 37))=hb:=⟨_,rfl⟩;have hbip:hb ip=some (.obj [.s id, .v (.bool set), .v (.int .i64 alg), .sl (tgt.map cI) .no, .sl (rules.map aB) .no, .sl (eR kids) .no, .sl (obls.map bk) .no] 37):=by rw [←ehb]; exact ah ..
  rw [ehb] at hwb hk0⊢;cases d0:decide (4<(d:Int))
  case true=>
   have e0:4<d:=by have:=U9 d0; omega
   simp only [go_sem,d0];exact .same (.refl _) ⟨by rw [oV e0]; rfl,hk0,fun m' h' =>by rw [oV e0] at h'; cases h'⟩
  have e0:¬4<d:=by have:=Va d0; omega
  simp only [go_sem,d0,hbip];have hhead:=Iv idw mid m id set alg tgt rules kids obls hb hwb;simp only [aK,aS,ax] at hhead;refine hhead.mono fun x h2 ⟨ex,hk,hw2⟩=> ?_
  subst ex;have hk2:=hk0.trans hk;cases hh:eC m id set alg tgt rules.length kids.length obls with
  |bad e=>
   have hne:=xJ hh;have t1:(e !=0)=true:=by simpa using hne
   simp only [go_sem,Went.err,t1];exact .same (.refl _) ⟨by rw [so e0 hh]; rfl,hk2,fun m' h' =>by rw [so e0 hh] at h'; cases h'⟩
  |ok m1=>
   have hw2:=hw2 _ hh;have hle:=(GC hh).2.2.2.2.2.2.2;have hip2:=hk ip _ (by simp [n1.symm,n2.symm]) hbip
   simp only [go_sem,Went.err,hip2,U7];refine .intro (fun k ρ h' =>∃(i:Nat) (mi:dM),i≤rules.length∧k=rules.length - i∧dX m1 (rules.take i)= .ok mi∧Keeps [idw,mid] h h'∧fW h' idw mid mi∧
    h' ip=some (.obj [.s id, .v (.bool set), .v (.int .i64 alg), .sl (tgt.map cI) .no, .sl (rules.map aB) .no, .sl (eR kids) .no, .sl (obls.map bk) .no] 37)∧
    lk ρ 0=some (.ptr idw 0)∧lk ρ 2=some (.v (.int .i64 d))∧lk ρ 4=some (.ptr ip 0)∧lk ρ 23=some (.sl (rules.map aB) .no)∧lk ρ 24=some (.v (.int .i64 rules.length))∧lk ρ 25=some (.v (.int .i64 i))) rules.length ?_ ?_
   ·refine ⟨0,m1,by omega,rfl,rfl,hk2,hw2,hip2, ?_, ?_, ?_, ?_, ?_, ?_⟩<;>simp only [go_sem]
   ·rintro k ρ h' ⟨i,mi,hi,rfl,hri,hki,hwi,hipi,r0,r2,r4,r23,r24,r25⟩
    simp only [go_sem,r24,r25];refine .intro (fun e=> ?_) (fun e=> ?_)
    ·have hlt:i<rules.length:=Ve e
     have w1:=Vd i (by omega)
     simp only [go_sem,r23,r25];refine .at i (by simpa using hlt) (by rw [U8]; rfl) ?_
     simp only [go_sem,U8,aB];intro ir hir;have hrl:=Ix idw mid mi rules[i] _ (hwi.keep (Sub.ai (k:=some (.obj [.s rules[i].id, .v (.bool rules[i].deny),aS rules[i].tgt,eO rules[i].cond,ax rules[i].obls] 164)) hir));simp only [aB] at hrl;simp only [go_sem,r0];refine hrl.mono fun x h3 ⟨ex,hk3,hw3⟩=> ?_
     subst ex;have hk4:=(hki.trans (.of (Sub.ai hir))).trans hk3;have hip3:=hk3 ip _ (by simp [n1.symm,n2.symm]) ((Sub.ai hir) _ _ hipi)
     cases hx:fL mi rules[i] with
     |bad x=>
      have t1:(x !=0)=true:=by simpa using ye hx
      simp only [go_sem,Went.err,t1];have hp:=vS (d:=d) (kids:=kids) e0 hh (Bj hlt hri hx);exact .same (.refl _) ⟨by rw [hp]; rfl,hk4,fun m' h' =>by rw [hp] at h'; cases h'⟩
     |ok m3=>
      simp only [go_sem,r25,Went.err,w1];refine ⟨_, ?_,i+1,m3,by omega,rfl,by rw [tE hlt hri,hx],hk4,hw3 _ hx,hip3, ?_, ?_, ?_, ?_, ?_, ?_⟩
      ·omega
      all_goals simp only [go_sem,r0,r2,r4,r23,r24]
    ·have hge:i=rules.length:=by have:=Va e; omega
     subst hge;rw [List.take_length] at hri;have hpk:=x7 (d:=d) (kids:=kids) e0 hh hri;simp only [go_sem,r4,hipi,aX,U7];refine .intro (fun k ρ h' =>∃(i:Nat) (mj:dM),i≤kids.length∧k=kids.length - i∧gx mi (d+1) (kids.take i)= .ok mj∧Keeps [idw,mid] h h'∧fW h' idw mid mj∧
      lk ρ 0=some (.ptr idw 0)∧lk ρ 2=some (.v (.int .i64 d))∧lk ρ 37=some (.sl (kids.map aK) .no)∧lk ρ 38=some (.v (.int .i64 kids.length))∧lk ρ 39=some (.v (.int .i64 i))) kids.length ?_ ?_
     ·refine ⟨0,mi,by omega,rfl,rfl,hki,hwi, ?_, ?_, ?_, ?_, ?_⟩<;>simp only [go_sem,r0,r2]
     ·rintro k ρ h' ⟨i,mj,hi,rfl,hkj,hki,hwi,r0,r2,r37,r38,r39⟩
      simp only [go_sem,r38,r39];refine .intro (fun e=> ?_) (fun e=> ?_)
      ·have hlt:i<kids.length:=Ve e
       have w1:=Vd i (by omega)
       have w2:=Vd d (by omega)
       obtain ⟨n',rfl⟩:∃n',n=n' +1:=⟨n - 1,by omega⟩
       have hrec:=D0 n' (d+1) (by omega) idw mid mj kids[i]
       cases hki' :kids[i] with
       |mk kid kset kalg ktgt krules kkids kobls=>
       rw [hki'] at hrec;simp only [aK,aS,ax] at hrec;simp only [go_sem,r37,r39];refine .at i (by simpa using hlt) (by rw [U8]; exact HD _) ?_
       simp only [go_sem,U8,hki',aK,aS,ax];intro ir hir;simp only [go_sem,r0,r2,w2];refine (hrec _ (hwi.keep (Sub.ai hir))).mono fun x h3 ⟨ex,hk3,hw3⟩=> ?_
       subst ex;have hk4:=(hki.trans (.of (Sub.ai hir))).trans hk3;cases hx:jt mj (d+1) (.mk kid kset kalg ktgt krules kkids kobls) with
       |bad x=>
        have t1:(x !=0)=true:=by simpa using rq n' (d+1) _ _ _ (by omega) hx
        simp only [go_sem,Went.err,t1];have hp:=Cq hlt hkj (by rw [hki']; exact hx)
        exact .same (.refl _) ⟨by rw [hpk,hp]; rfl,hk4,fun m' h' =>by rw [hpk,hp] at h'; cases h'⟩
       |ok m3=>
        simp only [go_sem,r39,Went.err,w1];refine ⟨_, ?_,i+1,m3,by omega,rfl,by rw [vo hlt hkj,hki',hx],hk4,hw3 _ hx, ?_, ?_, ?_, ?_, ?_⟩
        ·omega
        all_goals simp only [go_sem,r0,r2,r37,r38]
      ·have hge:i=kids.length:=by have:=Va e; omega
       subst hge;rw [List.take_length] at hkj;simp only [go_sem];exact .same (.refl _) ⟨by rw [hpk,hkj]; rfl,hki,fun m' h' =>by rw [hpk,hkj] at h'; cases h'; exact hwi⟩
theorem Cw {h:Heap} {i j:Nat} {b:Blk} (e:upd h i (some b) j=none):j≠i:=fun hh=>by
 subst hh; rw [ah] at e; cases e
theorem rz (p:bD) (h:Heap):ak Tryz.prog 44 [aK p] h fun r h' =>r= .v (.int .i64 (fO p))∧h' =h:=by
 cases p with
 |mk id set alg tgt rules kids obls=>
 refine ak.body hU hm Tryz.func44 rfl (by kernel_rfl) 10 rfl [.tmp 2] rfl (U6 rfl) (fun hwf=> ?_)
 simp only [go_sem,aK,aS,ax];intro ip hip;simp only [go_sem];intro im him;simp only [go_sem];intro iw hiw;have n1:=Cw him;have n2:=Cw hiw;have hiw1:=hiw;rw [ag _ _ n2] at hiw1;have n3:=Cw hiw1;have s1:Ab.Sub h (upd (upd (upd h ip (some (.obj [.s id, .v (.bool set), .v (.int .i64 alg), .sl (tgt.map cI) .no, .sl (rules.map aB) .no, .sl (eR kids) .no, .sl (obls.map bk) .no] 37))) im (some (.mp []))) iw (some (.obj [.mp im, .v (.int .i64 0)] 158))):=
  ((Sub.ai hip).trans (.ai him)).trans (.ai hiw)
 obtain ⟨h3,e3⟩:∃h3,upd (upd (upd h ip (some (.obj [.s id, .v (.bool set), .v (.int .i64 alg), .sl (tgt.map cI) .no, .sl (rules.map aB) .no, .sl (eR kids) .no, .sl (obls.map bk) .no] 37))) im (some (.mp []))) iw (some (.obj [.mp im, .v (.int .i64 0)] 158))=h3:=⟨_,rfl⟩;have g1:h3 ip=some (.obj [.s id, .v (.bool set), .v (.int .i64 alg), .sl (tgt.map cI) .no, .sl (rules.map aB) .no, .sl (eR kids) .no, .sl (obls.map bk) .no] 37):=by
  rw [←e3,ag _ _ n3.symm,ag _ _ n1.symm,ah]
 have g2:fW h3 iw im ⟨[],0⟩:=by
  refine ⟨by rw [←e3,ah]; rfl,by rw [←e3,ag _ _ n2.symm,ah]; rfl,fun l hl=>(by cases hl),by decide⟩
 have hi0:h im=none:=by rw [ag _ _ n1] at him; exact him
 have hw0:h iw=none:=by rw [ag _ _ n3] at hiw1; exact hiw1
 simp only [go_sem];rw [e3] at s1⊢;simp only [go_sem,g1];have hp:=D0 4 1 rfl iw im ⟨[],0⟩ (.mk id set alg tgt rules kids obls) h3 g2;simp only [aK,aS,ax,Int.cast_ofNat_Int] at hp;refine hp.mono fun x h4 ⟨ex,hk,_⟩=> ?_
 subst ex;simp only [go_sem];refine .mk _ (.refl _) (fun j k hj=> ?_) ⟨rfl,rfl⟩
 refine hk j k ?_ (s1 _ _ hj);simp only [List.mem_cons,List.not_mem_nil,or_false,not_or];exact ⟨fun e=>(by rw [e,hw0] at hj; cases hj),fun e=>(by rw [e,hi0] at hj; cases hj)⟩
def iW (x:bD×Int×Int):AV:= .tup [aK x.1, .v (.int .i64 x.2.1), .v (.int .i64 x.2.2)]
theorem iG (a b c:AV) (h:Weak a b) (d:AV):Weak (.tup [a,c,d]) (.tup [b,c,d]):= .tup _ _ rfl fun i h1 h2=>by
 rcases i with _|_|_|i
 ·exact h
 ·exact .refl _
 ·exact .refl _
 ·simp at h1; omega
set_option maxRecDepth 20000 in
theorem vN (s:Txt) (h:Heap) (he:rK h):ak Tryz.prog 32 [.s s] h fun r h' =>r=iW (aP s)∧h' =h:=by
 refine ak.body hU hm Tryz.func32 rfl (by kernel_rfl) 61 rfl [.cell 2 37, .tmp 3, .tmp 4] rfl (U6 rfl) (fun hwf=> ?_)
 simp only [go_sem];intro i2 hi2;simp only [go_sem];refine (BK s _ (he.sub (.ai hi2))).pthen ?_;cases el:pY s with
 |bad e a=>
  have e1:=vt el;have d1:(e !=0)=true:=by
   have:e≠0:=by rcases e1.1 with h|h<;>rw [h]<;>decide
   simpa using this
  have efin:aP s=(me,e,a):=by simp only [aP,el]
  simp only [go_sem,Js,d1];rw [efin];exact .mk (h' :=h) (iW (me,e,a)) (iG _ _ _ (fH _) _) (.ai hi2) ⟨rfl,rfl⟩
 |ok ts=>
  have efin:aP s=vM s ts:=by simp only [aP,el]
  have hw:=FL el 0 0 0;have hpol:=A4 3 1 rfl ⟨ts,0,0,0,0⟩ hw (Nat.zero_le _);have hap:=uA 4 ⟨ts,0,0,0,0⟩ hw;obtain ⟨⟨⟨pid,pset,palg,ptgt,prules,pkids,pobls⟩,st1⟩,ep⟩:∃x,fS 4 ⟨ts,0,0,0,0⟩=x:=⟨_,rfl⟩;rw [show 3+1=4 from rfl,ep] at hpol
  rw [ep] at hap;simp only [aK] at hpol hap;simp only [vM,ep] at efin;simp only [go_sem,Js];intro i8 hi8;have n8:=aF hi8;have m82:¬i8=i2:=n8;have m28:¬i2=i8:=fun e=>n8 e.symm
  have hh8:h i8=none:=by rw [ag _ _ n8] at hi8; exact hi8
  simp only [go_sem];refine hpol.go (ah ..) ?_;rw [mS];simp only [go_sem];intro i9 hi9;have n9:=aF hi9;have hi9' :=hi9;rw [ag _ _ n9] at hi9';have n92:=aF hi9';have m92:¬i9=i2:=n92;have m29:¬i2=i9:=fun e=>n92 e.symm
  have m98:¬i9=i8:=n9;have m89:¬i8=i9:=fun e=>n9 e.symm
  have hh9:h i9=none:=by rw [ag _ _ n92] at hi9'; exact hi9'
  have c9:∀(f:Heap) (x y:Option Blk),upd (upd f i8 x) i9 y=upd (upd f i9 y) i8 x:=fun f x y=>cp f x y n9.symm
  simp only [go_sem,c9,aj,m98];refine (j7 st1 hap.1).run ?_;have subs:∀x y z,Sub h (upd (upd (upd h i2 x) i9 y) i8 z):=fun x y z=>((Sub.ai hi2).put hh9 _).put hh8 _
  cases d1:((aJ st1).kind !=7)
  ·have k1:(aJ st1).kind=7:=by simpa using d1
   have e2:(if (aJ st1).kind=7 then st1 else bf st1)=st1:=if_pos k1
   simp only [go_sem,fh,d1];cases db:((st1).bad==0)
   ·have eb:(st1).bad≠0:=by simpa using db
    simp only [go_sem,PO,db];have eend:nq s (.mk pid pset palg ptgt prules pkids pobls,st1)=st1:=by
     unfold nq; simp only [e2]; rw [if_neg (fun h=>eb h.1)]
    have hbb:(st1).bad≠0:=eb;have dn:((st1).bad !=0)=true:=by simpa using hbb
    simp only [go_sem,dn];refine .calls (hm1 i8 (PO (st1))) [0,1,2,3,4,5,6,7,8,9,10,11] (.hm1 (ah ..)) (by kernel_rfl) rfl ?_
    simp only [go_sem,aj,m28,m29,PO,fE];refine ⟨.hm1 ((ag _ _ n8).trans (ah ..)), ?_⟩;have efin2:aP s=(me,(st1).bad,(st1).place):=by rw [efin,if_neg (by rw [eend]; exact hbb),eend]
    rw [efin2];exact .mk (h' :=h) (iW (me,(st1).bad,(st1).place)) (iG _ _ _ (fH _) _) (Sub.put (subs _ _ _) hi2 _) ⟨rfl,rfl⟩
   ·have eb:(st1).bad=0:=by simpa using db
    simp only [go_sem,aj,m98,PO,db];refine (rz (.mk pid pset palg ptgt prules pkids pobls) _).pthen ?_;cases dr:(fO (.mk pid pset palg ptgt prules pkids pobls) !=0)
    ·have er:fO (.mk pid pset palg ptgt prules pkids pobls)=0:=by simpa using dr
     have dn:((st1).bad !=0)=false:=by simpa using eb
     simp only [go_sem,aj,m28,m29,m98,dr,dn];have eend:nq s (.mk pid pset palg ptgt prules pkids pobls,st1)=st1:=by
      unfold nq; simp only [e2]; rw [if_neg (fun h=>h.2 er)]
     have efin2:aP s=(.mk pid pset palg ptgt prules pkids pobls,0,0):=by rw [efin,if_pos (by rw [eend]; exact eb)]
     rw [efin2];exact .mk (h' :=h) (iW (.mk pid pset palg ptgt prules pkids pobls,0,0)) (iG _ _ _ (fH _) _) (Sub.put (subs _ _ _) hi2 _) ⟨rfl,rfl⟩
    ·have er:fO (.mk pid pset palg ptgt prules pkids pobls)≠0:=by simpa using dr
     simp only [go_sem,dr];refine (oP (st1) 5 s.length).run ?_;have eend:nq s (.mk pid pset palg ptgt prules pkids pobls,st1)=bz (st1) 5 s.length:=by
      unfold nq; simp only [e2]; rw [if_pos ⟨eb,er⟩]
     have hwb:bz (st1) 5 s.length= {(st1) with bad:=5,place:=s.length}:=by rw [bz,if_pos eb]
     have hbb:(bz (st1) 5 s.length).bad≠0:=by rw [hwb]; show (5:Int)≠0; decide
     have dn:((bz (st1) 5 s.length).bad !=0)=true:=by simpa using hbb
     simp only [go_sem,PO,dn];refine .calls (hm1 i8 (PO (bz (st1) 5 s.length))) [0,1,2,3,4,5,6,7,8,9,10,11] (.hm1 (ah ..)) (by kernel_rfl) rfl ?_
     simp only [go_sem,aj,m28,m29,PO,fE];refine ⟨.hm1 ((ag _ _ n8).trans (ah ..)), ?_⟩;have efin2:aP s=(me,(bz (st1) 5 s.length).bad,(bz (st1) 5 s.length).place):=by rw [efin,if_neg (by rw [eend]; exact hbb),eend]
     rw [efin2];exact .mk (h' :=h) (iW (me,(bz (st1) 5 s.length).bad,(bz (st1) 5 s.length).place)) (iG _ _ _ (fH _) _) (Sub.put (subs _ _ _) hi2 _) ⟨rfl,rfl⟩
  ·have k1:(aJ st1).kind≠7:=by simpa using d1
   have e2:(if (aJ st1).kind=7 then st1 else bf st1)=bf st1:=if_neg k1
   simp only [go_sem,fh,d1];refine (jS st1 hap.1).run ?_;simp only [go_sem];cases db:((bf st1).bad==0)
   ·have eb:(bf st1).bad≠0:=by simpa using db
    simp only [go_sem,PO,db];have eend:nq s (.mk pid pset palg ptgt prules pkids pobls,st1)=bf st1:=by
     unfold nq; simp only [e2]; rw [if_neg (fun h=>eb h.1)]
    have hbb:(bf st1).bad≠0:=eb;have dn:((bf st1).bad !=0)=true:=by simpa using hbb
    simp only [go_sem,dn];refine .calls (hm1 i8 (PO (bf st1))) [0,1,2,3,4,5,6,7,8,9,10,11] (.hm1 (ah ..)) (by kernel_rfl) rfl ?_
    simp only [go_sem,aj,m28,m29,PO,fE];refine ⟨.hm1 ((ag _ _ n8).trans (ah ..)), ?_⟩;have efin2:aP s=(me,(bf st1).bad,(bf st1).place):=by rw [efin,if_neg (by rw [eend]; exact hbb),eend]
    rw [efin2];exact .mk (h' :=h) (iW (me,(bf st1).bad,(bf st1).place)) (iG _ _ _ (fH _) _) (Sub.put (subs _ _ _) hi2 _) ⟨rfl,rfl⟩
   ·have eb:(bf st1).bad=0:=by simpa using db
    simp only [go_sem,aj,m98,PO,db];refine (rz (.mk pid pset palg ptgt prules pkids pobls) _).pthen ?_;cases dr:(fO (.mk pid pset palg ptgt prules pkids pobls) !=0)
    ·have er:fO (.mk pid pset palg ptgt prules pkids pobls)=0:=by simpa using dr
     have dn:((bf st1).bad !=0)=false:=by simpa using eb
     simp only [go_sem,aj,m28,m29,m98,dr,dn];have eend:nq s (.mk pid pset palg ptgt prules pkids pobls,st1)=bf st1:=by
      unfold nq; simp only [e2]; rw [if_neg (fun h=>h.2 er)]
     have efin2:aP s=(.mk pid pset palg ptgt prules pkids pobls,0,0):=by rw [efin,if_pos (by rw [eend]; exact eb)]
     rw [efin2];exact .mk (h' :=h) (iW (.mk pid pset palg ptgt prules pkids pobls,0,0)) (iG _ _ _ (fH _) _) (Sub.put (subs _ _ _) hi2 _) ⟨rfl,rfl⟩
    ·have er:fO (.mk pid pset palg ptgt prules pkids pobls)≠0:=by simpa using dr
     simp only [go_sem,dr];refine (oP (bf st1) 5 s.length).run ?_;have eend:nq s (.mk pid pset palg ptgt prules pkids pobls,st1)=bz (bf st1) 5 s.length:=by
      unfold nq; simp only [e2]; rw [if_pos ⟨eb,er⟩]
     have hwb:bz (bf st1) 5 s.length= {(bf st1) with bad:=5,place:=s.length}:=by rw [bz,if_pos eb]
     have hbb:(bz (bf st1) 5 s.length).bad≠0:=by rw [hwb]; show (5:Int)≠0; decide
     have dn:((bz (bf st1) 5 s.length).bad !=0)=true:=by simpa using hbb
     simp only [go_sem,PO,dn];refine .calls (hm1 i8 (PO (bz (bf st1) 5 s.length))) [0,1,2,3,4,5,6,7,8,9,10,11] (.hm1 (ah ..)) (by kernel_rfl) rfl ?_
     simp only [go_sem,aj,m28,m29,PO,fE];refine ⟨.hm1 ((ag _ _ n8).trans (ah ..)), ?_⟩;have efin2:aP s=(me,(bz (bf st1) 5 s.length).bad,(bz (bf st1) 5 s.length).place):=by rw [efin,if_neg (by rw [eend]; exact hbb),eend]
     rw [efin2];exact .mk (h' :=h) (iW (me,(bz (bf st1) 5 s.length).bad,(bz (bf st1) 5 s.length).place)) (iG _ _ _ (fH _) _) (Sub.put (subs _ _ _) hi2 _) ⟨rfl,rfl⟩
end Go.Proofs.YtnlbeamjpefpfaaGreatDoor
namespace Go.Ab
open Go
theorem OwE.keepb {tb:TypeId} {h0 h h' :Heap} {sz:Nat} {y:AV} {xs:List AV} (hw:OwE tb h0 h sz y xs) (hk:∀id,h0 id=Option.none→h id≠Option.none→h' id=h id):OwE tb h0 h' sz y xs:=
 hw.keep fun id e=>hk id (hw.nid e).1 (hw.nid e).2.1
end Go.Ab
namespace Go.Proofs.YtnlbeamjpefpfaaGreatDoor
open Go Go.Ab Go.Bf
theorem eL.keepb {h0 h h' :Heap} {ys:List AV} {x:AV} {c:aL} (hm:eL h0 h ys x c) (hk:∀id,h0 id=none→h id≠none→h' id=h id):eL h0 h' ys x c:=by
 obtain ⟨f,l,e,a,b,c,d⟩:=hm;exact ⟨f,l,e,a.keepb hk,b.keepb hk,c,d⟩
theorem j4.keepb {h0 h h' :Heap} {ys:List AV} {y:AV} {cs:List aL} {i0:Nat} (ho:j4 h0 h ys y cs i0) (hk:∀id,h0 id=none→h id≠none→h' id=h id):j4 h0 h' ys y cs i0:=by
 obtain ⟨xs,a,b,c,d⟩:=ho;exact ⟨xs,a.keepb hk,b,c,fun h1 h2=>(d h1 h2).keepb hk⟩
theorem qq.keepb {h0 h h' :Heap} {x:AV} {s:an} {i0:Nat} (ho:qq h0 h x s i0) (hk:∀id,h0 id=none→h id≠none→h' id=h id):qq h0 h' x s i0:=by
 obtain ⟨y1,y2,y3,y4,e,a,b,c,d,r⟩:=ho;exact ⟨y1,y2,y3,y4,e,a.keepb hk,b.keepb hk,c.keepb hk,d.keepb hk,r⟩
theorem j4.keepx {h0 h h' :Heap} {ys:List AV} {y z:AV} {cs:List aL} {i0:Nat} (ho:j4 h0 h ys y cs i0) (hz:z∈ys) (hy:apart y z) (hk:∀id,h0 id=none→h id≠none→nid z≠some id→h' id=h id):j4 h0 h' ys y cs i0:=by
 obtain ⟨xs,a,b,c,d⟩:=ho;refine ⟨xs,a.keep fun id e=>hk id (a.nid e).1 (a.nid e).2.1 (hy id e),b,c,fun h1 h2=> ?_⟩
 obtain ⟨f,l,e,of,ol,hap,hys⟩:=d h1 h2;exact ⟨f,l,e,of.keep fun id e=>hk id (of.nid e).1 (of.nid e).2.1 ((hys z hz).1 id e),ol.keep fun id e=>hk id (ol.nid e).1 (ol.nid e).2.1 ((hys z hz).2 id e),hap,hys⟩
theorem eL.frz {g h0 h:Heap} {ys:List AV} {x:AV} {c:aL} (hm:eL h0 h ys x c) (hg:Ab.Sub g h0):Frz g h x (bN c):=by
 obtain ⟨f,l,rfl,a,b,_⟩:=hm;refine .agg _ _ rfl fun j h1 h2=> ?_
 rcases j with _|_|_|_|_|j
 ·exact .pure rfl
 ·exact .pure rfl
 ·exact .pure rfl
 ·exact (a.less hg).frz (bl (fun _=>rfl) _)
 ·exact (b.less hg).frz (bl (fun _=>rfl) _)
 ·simp at h1; omega
theorem EB {g h0 h:Heap} {y:AV} {xs:List AV} {cs:List aL} (hw:OwE 78 h0 h 5 y xs) (hg:Ab.Sub g h0) (hn:xs.length=cs.length) (hx:∀j (h1:j<xs.length) (h2:j<cs.length),Frz g h xs[j] (bN cs[j])):Frz g h y (iQ cs):=by
 rcases hw with ⟨rfl,rfl⟩|⟨id,h1,hw⟩
 ·have:cs= []:=List.length_eq_zero_iff.1 hn.symm
  subst this;exact .sl [] [] .full rfl (fun i h1=>by cases h1) (fun i h1=>by cases h1)
 ·have hsz:∀i (h1:i<xs.length),xs[i].cells.length=5:=fun i h1=>hw.rd.1 _ (Vc h1)
  refine hw.frz (hg.none h1) (by simpa using hn) (fun i h1 h2=>by rw [hsz i h1,U8]; rfl) fun i h1 h2 j h3 h4=> ?_
  have h2' :i<cs.length:=by simpa using h2
  have hf:=hx i h1 h2';have key:∀x y:AV,Frz g h x y→bu y=true→cB y=true→∀j (h3:j<x.cells.length) (h4:j<y.cells.length),Frz g h x.cells[j] y.cells[j]:=by
   intro x y hf ha hp j h3 h4;cases hf with
   |keep x hx=>exact .pure (lD hp _ (Vc h4))
   |agg xs ys hn hr=>exact hr j h3 h4
   |_=>cases ha
  have e:(cs.map bN)[i]'h2=bN cs[i]:=U8 ..;simp only [e] at h4⊢;exact key _ _ hf rfl (by simp only [bN,kH,cB,gm,fC,pg,Bool.and_true,Bool.true_and,Bool.and_eq_true]; exact ⟨bl (fun _=>rfl) _,bl (fun _=>rfl) _⟩) j h3 h4
theorem j4.frz {g h0 h:Heap} {ys:List AV} {y:AV} {cs:List aL} {i0:Nat} (ho:j4 h0 h ys y cs i0) (hg:Ab.Sub g h0):Frz g h y (iQ cs):=by
 obtain ⟨xs,a,b,c,d⟩:=ho;refine EB a hg b fun j h1 h2=> ?_
 by_cases e:j=i0
 ·subst e; exact (d h1 h2).frz hg
 ·rw [c j h1 h2 e]; exact Ak _
theorem HE {g h:Heap} (p:bD):∀x∈fy p,Frz g h x x:=fun x hx=>by
 refine .pure (lD (x:=aK p) (A6 p) x ?_);rw [JB];exact hx
theorem Al {g h:Heap} {xs:List AV} (hx:∀x∈xs,Frz g h x x):∀i (h1:i<xs.length) (h2:i<xs.length),Frz g h xs[i] xs[i]:=fun i h1 _=>hx _ (Vc h1)
theorem Dq {g h:Heap} {ps bs cs ds:List AV} (n1:ps.length=bs.length) (n2:cs.length=ds.length) (h1:∀i (a:i<ps.length) (b:i<bs.length),Frz g h ps[i] bs[i]) (h2:∀i (a:i<cs.length) (b:i<ds.length),Frz g h cs[i] ds[i]):
  ∀i (a:i<(ps++cs).length) (b:i<(bs++ds).length),Frz g h (ps++cs)[i] (bs++ds)[i]:=fun i a b=>by
 by_cases e:i<ps.length
 ·rw [List.getElem_append_left e,List.getElem_append_left (by omega)]; exact h1 i e (by omega)
 ·rw [List.getElem_append_right (by omega),List.getElem_append_right (by omega)]
  simp only [Vb] at a b;have:=h2 (i - ps.length) (by omega) (by omega)
  simp only [n1] at this⊢;exact this
theorem rS {g h:Heap} {s:an} {y1 y2 y3 y4:AV} (a:Frz g h y1 (iQ s.cases)) (b:Frz g h y2 (nc s.reviews)) (c:Frz g h y3 (qT s.notices)) (d:Frz g h y4 (dc s.roles)):
  Frz g h (.agg ([.v (.int .i64 s.tick),y1,y2,y3,y4]++fy s.policy++ [.v (.int .i64 s.version)])) (di s):=by
 refine .agg _ _ (by simp) (Dq (by simp) rfl (Dq rfl rfl (fun i h1 h2=> ?_) (Al (HE _))) (Al fun x hx=>by rw [List.mem_singleton.1 hx]; exact .pure rfl))
 rcases i with _|_|_|_|_|i
 ·exact .pure rfl
 ·exact a
 ·exact b
 ·exact c
 ·exact d
 ·simp at h1; omega
theorem j4.rd {h0 h:Heap} {ys:List AV} {y:AV} {cs:List aL} {i0:Nat} (ho:j4 h0 h ys y cs i0):wL h y cs:=by
 obtain ⟨xs,a,b,c,d⟩:=ho;refine ⟨xs,a.rd,b,fun j h1 h2=> ?_⟩
 by_cases e:j=i0
 ·subst e
  obtain ⟨f,l,e,a,b,_⟩:=d h1 h2;exact ⟨f,l,e,a.rd,b.rd⟩
 ·rw [c j h1 h2 e]; exact rdC _ _
theorem qq.rd {h0 h:Heap} {x:AV} {s:an} {i0:Nat} (ho:qq h0 h x s i0):RdS h x s:=by
 obtain ⟨y1,y2,y3,y4,rfl,a,b,c,d,r⟩:=ho;exact ⟨y1,y2,y3,y4,rfl,a.rd,b.rd,c.rd,d.rd⟩
end Go.Proofs.YtnlbeamjpefpfaaGreatDoor
