/- The law GuardDuties: pack 4 of its texts. -/
import Derived.Shelf.Small.Strs
import Derived.Shelf.Small.Wraps
import Derived.Shelf.Strconv.AtoiAll
import Derived.Shelf.Strconv.ErrVarAll
import Derived.Shelf.Strings.Search1
import Derived.Test.YtnlbeamjpefpfaaGreatDoorProg
import Derived.KernelRfl
import Derived.WalkKit
import Derived.BigCall
import Derived.Test.YtnlbeamjpefpfaaGreatDoorPk1
import Derived.Test.YtnlbeamjpefpfaaGreatDoorPk2
import Derived.Test.YtnlbeamjpefpfaaGreatDoorPk3
set_option linter.unusedSimpArgs false
set_option linter.unusedVariables false
namespace Go.Bf
open Go Go.Ab
inductive Rch (a:PS):PS→Prop where
 |refl:Rch a a
 |wrong {b:PS} (e p:Int):Rch a b→(e=5∨e=6)→(∃i,i≤b.pos∧p=(b.ts.getD i ⟨7,0,0,[]⟩).pos)→Rch a (bD b e p)
 |next {b:PS}:Rch a b→b.bad=0→(aJ b).kind≠7→Rch a (aZ b)
theorem Rch.trans {a b c:PS} (x:Rch a b) (y:Rch b c):Rch a c:=by
 induction y with
 |refl=>exact x
 |wrong e p _ h1 h2 ih=>exact .wrong e p ih h1 h2
 |next _ h1 h2 ih=>exact .next ih h1 h2
theorem jI (st:PS):Rch st (bk st):= .wrong _ _ .refl (.inl rfl) ⟨st.pos,Nat.le_refl _,rfl⟩
theorem pR (st:PS) (b:Bool):Rch st (bF st b):=by
 unfold bF; split
 ·exact .wrong _ _ .refl (.inr rfl) ⟨st.pos,Nat.le_refl _,rfl⟩
 ·exact .refl
theorem zw {st:PS} {s:Txt} (h:isD st s=true):st.bad=0:=by
 simp only [isD,Bool.and_eq_true,beq_iff_eq] at h; exact h.1
theorem ny {st:PS} {s:Txt} (h:isD st s=true):Rch st (aZ st):= .next .refl (zw h) (cG h)
theorem Io (st:PS) (s:Txt):Rch st (cp st s).2:=by
 unfold cp; split
 ·rename_i h; exact ny h
 ·exact .refl
theorem lC (st:PS) (s:Txt):Rch st (dP st s):=by
 unfold dP; split
 ·rename_i h; exact ny h
 ·exact jI _
theorem rW (st:PS):Rch st (cm st).2:=by
 unfold cm; split
 ·rename_i h; exact .next .refl h.2 (by rw [h.1]; decide)
 ·simp only; split
  ·exact .refl
  ·exact jI _
theorem kV (st:PS) (ws:List Txt):Rch st (aY st ws).2:=by
 unfold aY; split
 ·split
  ·rename_i h; exact .next .refl h.2 (by rw [h.1]; decide)
  ·exact jI _
 ·exact jI _
theorem Bu (st:PS):Rch st (fK st).2:=(((kV st tC).trans (lC _ [46])).trans (rW _)).trans (Io _ [33])
theorem yy (st:PS):Rch st (aD st).2:=by
 unfold aD;rcases sk st with ⟨e,hk⟩|e
 ·rw [e]; split
  ·rename_i h; exact .next .refl h hk
  ·exact .refl
 ·rw [e,if_neg (pT st)]; exact jI st
theorem MB (st:PS):Rch st (opP st).2:=by
 unfold opP;split
 ·rename_i h; exact ny h
 split
 ·rename_i h; exact ny h
 split
 ·rename_i h; exact ny h
 ·exact jI _
theorem yw (st:PS):Rch st (ga st).2:=((Bu st).trans (MB _)).trans (yy _)
theorem o7 {α:Type} {one:PS→α×PS} (ho:∀st,Rch st (one st).2) (w:Txt) (most:Nat):∀(f:Nat) (st:PS) (l:List α),Rch st (fE one w most f st l).2
 |0,st,l=> .refl
 |f+1,st,l=>by
  unfold fE; split
  ·rename_i h
   exact (((ny h).trans (ho _)).trans (pR _ _)).trans (o7 ho w most f _ _)
  ·exact .refl
theorem Eb (st:PS):Rch st (nS st).2:=(yw st).trans (o7 yw _ _ _ _ _)
theorem Ec (st:PS):Rch st (pX st).2:=(((lC st [40]).trans (Eb _)).trans (o7 Eb orT 8 st.ts.length _ [(nS (dP st [40])).1])).trans (lC _ [41])
theorem Ed (st:PS):Rch st (gA st).2:=by
 unfold gA; split
 ·rename_i h; exact ((ny h).trans (Ec _)).trans (o7 Ec _ _ _ _ _)
 ·exact .refl
theorem J6 (st:PS):Rch st (vY st).2:=((kV st sQ).trans (kV _ lf)).trans (rW _)
theorem By (st:PS):Rch st (fV st).2:=o7 J6 _ _ _ _ _
theorem pS {a b:PS} (h:Rch a b):b.ts=a.ts∧a.pos≤b.pos∧b.rules=a.rules:=by
 induction h with
 |refl=>exact ⟨rfl,Nat.le_refl _,rfl⟩
 |wrong e p _ _ _ ih=>
  unfold bD; split
  ·exact ih
  ·exact ih
 |next _ _ _ ih=>exact ⟨ih.1,Nat.le_succ_of_le ih.2.1,ih.2.2⟩
theorem Bz {ex:ExF} (he:∀st l,Rch st (ex st l).2) (st:PS) (l:List aP) (b:Bool):Rch st (gQ ex st l b).2:=by
 unfold gQ; simp only; split
 ·exact he st l
 ·have:=pS (he st l)
  exact .wrong _ _ (he st l) (.inl rfl) ⟨st.pos,this.2.1,by rw [this.1]; rfl⟩
theorem yx {ex:ExF} (he:∀st l,Rch st (ex st l).2):∀(bs:List Bool) (st:PS) (l:List aP),Rch st (iS ex bs st l).2
 | [],st,l=> .refl
 |b::bs,st,l=>by
  unfold iS; split
  ·exact (Bz he st l b).trans (yx he bs _ _)
  ·exact .refl
theorem Bv:∀(f:Nat) (st:PS) (l:List aP),Rch st (dZ f st l).2
 |0,st,l=> .refl
 |f+1,st,l=>by
  refine Rch.trans ?_ (pR _ _);unfold iH; split
  ·rename_i h
   exact (ny h).trans (((kV _ kr).trans (yx (Bv f) _ _ _)).trans (lC _ [41]))
  ·split
   ·exact Bu st
   ·exact yy st
def ifT:Txt:= [105,102]
def nq:Txt:= [112,101,114,109,105,116]
def iD:Txt:= [100,101,110,121]
def nv:Txt:= [112,111,108,105,99,121]
def Da:Txt:= [115,101,116]
def lu:List Txt:= [nv,Da]
def u0:List Txt:= [[100,101,110,121,111,118,101,114],[112,101,114,109,105,116,111,118,101,114],[102,105,114,115,116],[111,110,108,121],[100,101,110,121,117,110,108,101,115,115],[112,101,114,109,105,116,117,110,108,101,115,115]]
def ot (st:PS):List aP×PS:=if isD st ifT=true then gQ (dZ st.ts.length) (aZ st) [] false else ([],st)
theorem Im (st:PS):Rch st (ot st).2:=by
 unfold ot; split
 ·rename_i h; exact (ny h).trans (Bz (Bv _) _ _ _)
 ·exact .refl
theorem Dx {st:PS} (h:WfP st):Ah st (ot st).2:=by
 unfold ot; split
 ·rename_i hi
  have h1:=dR h (cG hi);exact h1.trans (vZ (oA _) _ _ _ h1.1).1
 ·exact .refl h
def nR (deny:Bool) (st:PS):cQ×PS:=
 (⟨(cm st).1,deny,(gA (cm st).2).1,(ot (gA (cm st).2).2).1,(fV (ot (gA (cm st).2).2).2).1⟩,dP (fV (ot (gA (cm st).2).2).2).2 [59])
theorem wC (deny:Bool) (st:PS):Rch st (nR deny st).2:=((((rW st).trans (Ed _)).trans (Im _)).trans (By _)).trans (lC _ [59])
theorem zb (deny:Bool) {st:PS} (h:WfP st):Ah st (nR deny st).2:=by
 have h1:=lJ h;have h2:=zc h1.1;have h3:=Dx h2.1;have h4:=za h3.1;exact (((h1.trans h2).trans h3).trans h4).trans (iM [59] h4.1)
inductive l8 (a:PS):PS→Prop where
 |refl:l8 a a
 |small {b c:PS}:l8 a b→Rch b c→l8 a c
 |rule {b:PS}:l8 a b→b.bad=0→b.rules≠64→(aJ b).kind≠7→l8 a {aZ b with rules:=b.rules+1}
theorem l8.trans {a b c:PS} (x:l8 a b) (y:l8 b c):l8 a c:=by
 induction y with
 |refl=>exact x
 |small _ h1 ih=>exact .small ih h1
 |rule _ h1 h2 h3 ih=>exact .rule ih h1 h2 h3
theorem Rch.big {a b:PS} (h:Rch a b):l8 a b:= .small .refl h
def jq:Nat→PS→List cQ→List cQ×PS
 |0,st,l=>(l,st)
 |f+1,st,l=>if isD st nq=true∨isD st iD=true then
   if l.length=16∨st.rules=64 then (l,bF st true)
   else jq f (nR (isD st iD) {aZ st with rules:=st.rules+1}).2 (l++ [(nR (isD st iD) {aZ st with rules:=st.rules+1}).1])
  else (l,st)
abbrev PoF:=PS→bB×PS
def jh (pol:PoF) (deep:Bool):Nat→PS→List bB→List bB×PS
 |0,st,l=>(l,st)
 |f+1,st,l=>if isD st nv=true∨isD st Da=true then
   if l.length=16∨deep=true then (l,bF st true)
   else jh pol deep f (pol st).2 (l++ [(pol st).1])
  else (l,st)
def cS (st:PS):(Bool×Txt×Int×fT)×PS:=
 (((aY st lu).1==2,(cm (aY st lu).2).1,(aY (cm (aY st lu).2).2 u0).1,(gA (aY (cm (aY st lu).2).2 u0).2).1),dP (gA (aY (cm (aY st lu).2).2 u0).2).2 [123])
theorem Bw (st:PS):Rch st (cS st).2:=((((kV st lu).trans (rW _)).trans (kV _ u0)).trans (Ed _)).trans (lC _ [123])
theorem Jj {st:PS} (h:WfP st):Ah st (cS st).2:=by
 have h1:=gj lu h;have h2:=lJ h1.1;have h3:=gj u0 h2.1;have h4:=zc h3.1;exact (((h1.trans h2).trans h3).trans h4).trans (iM [123] h4.1)
def nN (pol:PoF) (deep:Bool) (set:Bool) (st:PS):(List cQ×List bB)×PS:=
 if set=true then (([],(jh pol deep 17 st []).1),(jh pol deep 17 st []).2) else (((jq 17 st []).1,[]),(jq 17 st []).2)
def gq:Nat→PoF
 |0,st=>(.mk [] false 0 [] [] [] [],st)
 |r+1,st=>(.mk (cS st).1.2.1 (cS st).1.1 (cS st).1.2.2.1 (cS st).1.2.2.2 (nN (gq r) (r==0) (cS st).1.1 (cS st).2).1.1 (nN (gq r) (r==0) (cS st).1.1 (cS st).2).1.2
   (fV (dP (nN (gq r) (r==0) (cS st).1.1 (cS st).2).2 [125])).1,(fV (dP (nN (gq r) (r==0) (cS st).1.1 (cS st).2).2 [125])).2)
theorem lp {st:PS} {a b:Txt} (h:isD st a=true∨isD st b=true):st.bad=0∧(aJ st).kind≠7:=by
 rcases h with h|h
 ·exact ⟨zw h,cG h⟩
 ·exact ⟨zw h,cG h⟩
theorem uY {st:PS} (h:WfP st) (hk:(aJ st).kind≠7):Ah st {aZ st with rules:=st.rules+1}:=dR h hk
theorem Dz:∀(f:Nat) (st:PS) (l:List cQ),WfP st→Ah st (jq f st l).2
 |0,st,l,h=> .refl h
 |f+1,st,l,h=>by
  unfold jq; split
  ·rename_i hi
   split
   ·exact jW true h
   ·have h1:=uY h (lp hi).2
    have h2:=zb (isD st iD) h1.1;exact (h1.trans h2).trans (Dz f _ _ h2.1)
  ·exact .refl h
theorem BA:∀(f:Nat) (st:PS) (l:List cQ),l8 st (jq f st l).2
 |0,st,l=> .refl
 |f+1,st,l=>by
  unfold jq; split
  ·rename_i hi
   split
   ·exact (pR st true).big
   ·rename_i hn
    have h1:l8 st {aZ st with rules:=st.rules+1}:= .rule .refl (lp hi).1 (fun e=>hn (.inr e)) (lp hi).2
    exact (h1.trans (wC (isD st iD) _).big).trans (BA f _ _)
  ·exact .refl
theorem Dy {pol:PoF} (hp:∀st,WfP st→Ah st (pol st).2) (deep:Bool):∀(f:Nat) (st:PS) (l:List bB),WfP st→Ah st (jh pol deep f st l).2
 |0,st,l,h=> .refl h
 |f+1,st,l,h=>by
  unfold jh; split
  ·split
   ·exact jW true h
   ·have h1:=hp st h
    exact h1.trans (Dy hp deep f _ _ h1.1)
  ·exact .refl h
theorem Bx {pol:PoF} (hp:∀st,l8 st (pol st).2) (deep:Bool):∀(f:Nat) (st:PS) (l:List bB),l8 st (jh pol deep f st l).2
 |0,st,l=> .refl
 |f+1,st,l=>by
  unfold jh; split
  ·split
   ·exact (pR st true).big
   ·exact (hp st).trans (Bx hp deep f _ _)
  ·exact .refl
theorem y8 {pol:PoF} (hp:∀st,WfP st→Ah st (pol st).2) (deep set:Bool) {st:PS} (h:WfP st):Ah st (nN pol deep set st).2:=by
 unfold nN; split
 ·exact Dy hp deep _ _ _ h
 ·exact Dz _ _ _ h
theorem Il {pol:PoF} (hp:∀st,l8 st (pol st).2) (deep set:Bool) (st:PS):l8 st (nN pol deep set st).2:=by
 unfold nN; split
 ·exact Bx hp deep _ _ _
 ·exact BA _ _ _
theorem uX:∀(r:Nat) (st:PS),WfP st→Ah st (gq r st).2
 |0,st,h=> .refl h
 |r+1,st,h=>by
  have h1:=Jj h;have h2:=y8 (uX r) (r==0) (cS st).1.1 h1.1;have h3:=iM [125] h2.1;exact ((h1.trans h2).trans h3).trans (za h3.1)
theorem zG:∀(r:Nat) (st:PS),l8 st (gq r st).2
 |0,st=> .refl
 |r+1,st=>(((Bw st).big.trans (Il (zG r) _ _ _)).trans (lC _ [125]).big).trans (By _).big
theorem sW {a b:PS} (h:l8 a b) (h0:a.rules≤64):b.rules≤64:=by
 induction h with
 |refl=>exact h0
 |small _ h1 ih=>rw [(pS h1).2.2]; exact ih
 |rule _ _ h2 _ ih=>show _+1≤64; omega
theorem sJ:∀(f:Nat) (s:Txt) (a:Nat) (out l:List pW),rI f s a out= .ok l→∃pre,l=out++pre++ [⟨7,(a+s.length:Nat),0,[]⟩]∧pre.length≤s.length∧∀t∈pre,(a:Int)≤t.pos∧t.pos<((a+s.length:Nat):Int)
 |0,_,_,_,_,h=>by simp [rI] at h
 |f+1,[],a,out,l,h=>by
  simp only [rI,Lexed.ok.injEq] at h;exact ⟨[],by simp [←h],by simp,by simp⟩
 |f+1,c::r,a,out,l,h=>by
  simp only [rI] at h;split at h
  ·obtain ⟨pre,e1,e2,e3⟩:=sJ f r (a+1) out l h
   have ee:((a+1+r.length:Nat):Int)=((a+(c::r).length:Nat):Int):=by simp only [List.length_cons]; omega
   refine ⟨pre,by rw [e1,ee],by simp only [List.length_cons]; omega,fun t ht=> ?_⟩
   have:=e3 t ht;rw [ee] at this;exact ⟨by omega,this.2⟩
  ·split at h
   ·cases h
   ·rename_i hn
    have hle:=qu (c::r) (by simp)
    obtain ⟨pre,e1,e2,e3⟩:=sJ f _ _ _ l h;have ee:((a+(bO (c::r)).2+((c::r).drop (bO (c::r)).2).length:Nat):Int)=((a+(c::r).length:Nat):Int):=by rw [List.length_drop]; omega
    refine ⟨{(bO (c::r)).1 with pos:=a}::pre,by rw [e1,ee]; simp,by rw [List.length_drop] at e2; simp only [List.length_cons] at e2 hle⊢; omega,fun t ht=> ?_⟩
    rcases List.mem_cons.1 ht with rfl|ht
    ·refine ⟨Int.le_refl _, ?_⟩
     show (a:Int)<_
     simp only [List.length_cons]; omega
    ·have:=e3 t ht
     rw [ee] at this;exact ⟨by omega,this.2⟩
theorem ye {s:Txt} {ts:List pW} (h:qF s= .ok ts):∃pre,ts=pre++ [⟨7,s.length,0,[]⟩]∧pre.length≤s.length∧(∀t∈pre,0≤t.pos∧t.pos<(s.length:Int))∧s.length≤4096:=by
 unfold qF at h;split at h
 ·cases h
 ·rename_i hl
  obtain ⟨pre,e1,e2,e3⟩:=sJ _ _ _ _ _ h;exact ⟨pre,by simpa using e1,e2,by simpa using e3,by omega⟩
theorem F9 {s:Txt} {ts:List pW} (h:qF s= .ok ts) (x:Nat) (e p:Int):WfP ⟨ts,0,x,e,p⟩:=by
 obtain ⟨pre,rfl,h2,_,h3⟩:=ye h;refine ⟨by simp,fun i hi hk=> ?_,by simp; omega⟩
 by_cases hl:i<pre.length
 ·simp; omega
 ·exfalso
  simp only [VE,List.length_singleton] at hi;have:i=pre.length:=by omega
  subst this;apply hk;simp
theorem vN:∀(f:Nat) (s:Txt) (a:Nat) (out:List pW) (e p:Int),rI f s a out= .bad e p→e=5∧0≤p∧(s.length<f→p≤((a+s.length:Nat):Int))
 |0,s,a,out,e,p,h=>by
  simp only [rI,Lexed.bad.injEq] at h;obtain ⟨rfl,rfl⟩:=h;exact ⟨rfl,by omega,by omega⟩
 |f+1,[],a,out,e,p,h=>by simp [rI] at h
 |f+1,c::r,a,out,e,p,h=>by
  simp only [rI] at h;split at h
  ·obtain ⟨h1,h2,h3⟩:=vN f r (a+1) out e p h
   refine ⟨h1,h2,fun hl=> ?_⟩
   simp only [List.length_cons] at hl⊢;have:=h3 (by omega)
   omega
  ·split at h
   ·simp only [Lexed.bad.injEq] at h
    obtain ⟨rfl,rfl⟩:=h;exact ⟨rfl,by omega,fun _=>by omega⟩
   ·obtain ⟨h1,h2,h3⟩:=vN f _ _ _ e p h
    refine ⟨h1,h2,fun hl=> ?_⟩
    have hle:=qu (c::r) (by simp)
    rw [List.length_drop] at h3;have:=h3 (by omega)
    omega
theorem vM {s:Txt} {e a:Int} (h:qF s= .bad e a):(e=5∨e=6)∧0≤a∧a≤s.length:=by
 unfold qF at h;split at h
 ·simp only [Lexed.bad.injEq] at h
  obtain ⟨rfl,rfl⟩:=h;exact ⟨.inr rfl,by omega,by omega⟩
 ·obtain ⟨h1,h2,h3⟩:=vN _ _ _ _ _ _ h
  have:=h3 (by omega)
  exact ⟨.inl h1,h2,by omega⟩
def mO:bB:= .mk [] false 0 [] [] [] []
def nW (s:Txt) (x:bB×PS):PS:=
 if (if (aJ x.2).kind=7 then x.2 else bk x.2).bad=0∧gb x.1≠0 then bD (if (aJ x.2).kind=7 then x.2 else bk x.2) 5 s.length else (if (aJ x.2).kind=7 then x.2 else bk x.2)
def we (s:Txt) (ts:List pW):bB×Int×Int:=
 if (nW s (gq 4 ⟨ts,0,0,0,0⟩)).bad=0 then ((gq 4 ⟨ts,0,0,0,0⟩).1,0,0) else (mO,(nW s (gq 4 ⟨ts,0,0,0,0⟩)).bad,(nW s (gq 4 ⟨ts,0,0,0,0⟩)).place)
def aM (s:Txt):bB×Int×Int:=match qF s with
 | .bad e a=>(mO,e,a)
 | .ok ts=>we s ts
end Go.Bf
namespace Go.Proofs.YtnlbeamjpefpfaaGreatDoor
open Go Go.Ab Go.Bf
def Byt (g:FuncId) (p:UInt8→Bool):Prop:=∀(c:UInt8) (h:Heap),ak Tryz.prog g [.v (.int .u8 c.toNat)] h fun r h' =>r= .v (.bool (p c))∧h' =h
theorem lq:Byt 125 dgt:=fun c h=>by
 refine ak.body hU hm Tryz.func125 rfl (by kernel_rfl) 9 rfl [.tmp 2] rfl (Vz rfl) (fun hwf=> ?_)
 cases d1:decide (48≤(c.toNat:Int))<;>cases d2:decide ((c.toNat:Int)≤57)
 all_goals
  simp only [go_sem,d1,d2];exact .same (.refl _) ⟨by simp only [dgt,d1,d2]; rfl,rfl⟩
theorem Fg:Byt 160 wrd:=fun c h=>by
 refine ak.body hU hm Tryz.func160 rfl (by kernel_rfl) 17 rfl [.tmp 2] rfl (Vz rfl) (fun hwf=> ?_)
 cases d1:decide (97≤(c.toNat:Int))<;>cases d2:decide ((c.toNat:Int)≤122)<;>cases d3:dgt c<;>cases d4:((c.toNat:Int)==95)
 all_goals
  simp only [go_sem,d1,d2]
  first
   |exact .same (.refl _) ⟨by simp only [wrd,ltr,d1,d2,d3,d4]; rfl,rfl⟩
   |(refine (lq c _).pthen ?_; simp only [go_sem,d3,d4]; exact .same (.refl _) ⟨by simp only [wrd,ltr,d1,d2,d3,d4]; rfl,rfl⟩)
theorem Bn:Byt 162 (fun c=> !C0 c):=fun c h=>by
 refine ak.body hU hm Tryz.func162 rfl (by kernel_rfl) 17 rfl [.tmp 2] rfl (Vz rfl) (fun hwf=> ?_)
 cases d1:decide (32≤(c.toNat:Int))<;>cases d2:decide ((c.toNat:Int)≤126)<;>cases d3:((c.toNat:Int)==34)<;>cases d4:((c.toNat:Int)==92)
 all_goals
  simp only [go_sem,d1,d2,d3,d4,bne];refine .same (.refl _) ⟨?_,rfl⟩;have e1:decide ((c.toNat:Int)<32)= !decide (32≤(c.toNat:Int)):=by
   by_cases h:(32:Int)≤c.toNat
   ·simp [h,Int.not_lt.2 h]
   ·simp [h,Int.not_le.1 h]
  have e2:decide (126<(c.toNat:Int))= !decide ((c.toNat:Int)≤126):=by
   by_cases h:(c.toNat:Int)≤126
   ·simp [h,Int.not_lt.2 h]
   ·simp [h,Int.not_le.1 h]
  simp only [C0,e1,e2,d1,d2,d3,d4];rfl
theorem Kj (p:UInt8→Bool) (s:Txt) (i:Nat) (hi:i<s.length) (h:i≤(s.takeWhile p).length) (hp:p s[i]=true):i+1≤(s.takeWhile p).length:=by
 induction s generalizing i with
 |nil=>cases hi
 |cons c r ih=>
  cases i with
  |zero=>simp only [List.getElem_cons_zero] at hp; simp [hp]
  |succ i=>
   by_cases hc:p c=true
   ·simp only [List.takeWhile_cons,hc,if_true,List.length_cons] at h⊢
    have:=ih i (by simpa using hi) (by omega) (by simpa using hp)
    omega
   ·simp [hc] at h
theorem Po (p:UInt8→Bool) (s:Txt) (i:Nat) (hi:i<s.length) (h:i≤(s.takeWhile p).length) (hp:p s[i]=false):(s.takeWhile p).length=i:=by
 induction s generalizing i with
 |nil=>cases hi
 |cons c r ih=>
  cases i with
  |zero=>simp only [List.getElem_cons_zero] at hp; simp [hp]
  |succ i=>
   by_cases hc:p c=true
   ·simp only [List.takeWhile_cons,hc,if_true,List.length_cons] at h⊢
    rw [ih i (by simpa using hi) (by omega) (by simpa using hp)]
   ·simp [hc] at h
theorem IA (g:FuncId) (p:UInt8→Bool) (hg:Byt g p) (s:Txt) (h:Heap):ak Tryz.prog 159 [.s s, .fn g []] h fun r h' =>r= .v (.int .i64 (s.takeWhile p).length)∧h' =h:=by
 refine ak.body hU hm Tryz.func159 rfl (by kernel_rfl) 20 rfl [.tmp 4] rfl (Vz rfl) (fun hwf=> ?_)
 have hlen:=hwf (.s s) (by simp)
 simp only [wfA,wf1,lim] at hlen;simp only [go_sem];refine .intro (fun m ρ h' =>h' =h∧∃i:Nat,i≤s.length∧m=s.length - i∧i≤(s.takeWhile p).length∧lk ρ 0=some (.s s)∧lk ρ 1=some (.fn g [])∧lk ρ 5=some (.v (.int .i64 i))) s.length ?_ ?_
 ·refine ⟨rfl,0,by omega,rfl,by omega, ?_, ?_, ?_⟩<;>simp only [go_sem]
 ·rintro m ρ h' ⟨rfl,i,hi,rfl,hc,r0,r1,r5⟩
  cases d1:decide ((i:Int)<(s.length:Int))
  ·have hge:i=s.length:=by have:=VD d1; omega
   have:=hY p s;simp only [go_sem,r0,r5,d1];exact .same (.refl _) ⟨by simp only [ax]; congr 3; omega,rfl⟩
  ·have hlt:i<s.length:=by have:=VC d1; omega
   have w1:=VG i (by omega)
   simp only [go_sem,r0,r1,r5,d1];refine .at i hlt ?_;simp only [go_sem,cw];refine (hg s[i] _).pthen ?_;cases d2:p s[i]
   ·have:=Po p s i hlt hc d2
    simp only [go_sem,r5];exact .same (.refl _) ⟨by rw [this]; rfl,rfl⟩
   ·simp only [go_sem,r5,w1]
    refine ⟨_, ?_,rfl,i+1,by omega,rfl,Kj p s i hlt hc d2, ?_, ?_, ?_⟩
    ·omega
    all_goals simp only [go_sem,r0,r1]
theorem vV (s:Txt) (h:Heap):ak Tryz.prog 124 [.s s] h fun r h' =>r= .s (jb s)∧h' =h:=by
 refine ak.body hU hm Tryz.func124 rfl (by kernel_rfl) 12 rfl [.tmp 2] rfl (Vz rfl) (fun hwf=> ?_)
 simp only [go_sem];refine (IA _ _ Fg s _).pthen ?_;simp only [go_sem];refine ⟨by omega,by have:=hY wrd s; omega, ?_⟩
 simp only [go_sem,Option.isSome_none,Option.isSome_some,pK,Int.toNat_natCast,pE];refine ⟨by have:=hY wrd s; omega, ?_⟩
 refine (mZ _ _).pthen ?_;cases d1:bf (s.takeWhile wrd)
 ·simp only [go_sem]
  exact .same (.refl _) ⟨by simp [jb,d1,ax],rfl⟩
 ·simp only [go_sem]
  exact .same (.refl _) ⟨by simp [jb,d1,ax],rfl⟩
theorem wr8 {x:Int} (h:0≤x∧x<256):IntKind.u8.wrap x=x:=by
 unfold IntKind.wrap;simp only [IntKind.signed,IntKind.bits];simp;omega
theorem qZ (c:UInt8) (h:Heap):ak Tryz.prog 186 [.v (.int .u8 c.toNat)] h fun r h' =>r= .v (.int .i64 (iP c))∧h' =h:=by
 refine ak.body hU hm Tryz.func186 rfl (by kernel_rfl) 20 rfl [.tmp 2] rfl (Vz rfl) (fun hwf=> ?_)
 have hc:=c.toNat_lt;simp only [go_sem];refine (lq c _).pthen ?_;cases d1:dgt c
 case true=>
  have e1:48≤(c.toNat:Int)∧(c.toNat:Int)≤57:=by simpa [dgt] using d1
  have w1:IntKind.u8.wrap ((c.toNat:Int) - 48)=(c.toNat:Int) - 48:=wr8 (by omega)
  have w2:IntKind.i64.wrap ((c.toNat:Int) - 48)=(c.toNat:Int) - 48:=bu _ (by omega)
  simp only [go_sem,w1,w2];exact .same (.refl _) ⟨by simp [iP,d1,ax],rfl⟩
 cases d2:decide (97≤(c.toNat:Int))<;>cases d3:decide ((c.toNat:Int)≤102)
 case true.true=>
  have e2:=VC d2;have e3:=VC d3;have w1:IntKind.u8.wrap ((c.toNat:Int) - 97)=(c.toNat:Int) - 97:=wr8 (by omega)
  have w2:IntKind.i64.wrap ((c.toNat:Int) - 97)=(c.toNat:Int) - 97:=bu _ (by omega)
  have w3:IntKind.i64.wrap ((c.toNat:Int) - 97+10)=(c.toNat:Int) - 87:=by rw [bu _ (by omega)]; omega
  simp only [go_sem,d2,d3,w1,w2,w3];exact .same (.refl _) ⟨by simp [iP,d1,e2,e3,ax],rfl⟩
 all_goals
  simp only [go_sem,d2,d3];simp only [decide_eq_true_eq,decide_eq_false_iff_not] at d2 d3;refine .same (.refl _) ⟨?_,rfl⟩;have:¬(97≤(c.toNat:Int)∧(c.toNat:Int)≤102):=by omega
  simp [iP,d1,this,ax]
theorem DS (c:UInt8): -1≤iP c∧iP c≤15:=by
 unfold iP;split
 ·rename_i h; simp [dgt] at h; omega
 ·split<;>omega
theorem IQ (n:Nat) (h:n<256):((UInt8.ofNat n).toNat:Int)=n:=by
 simp; omega
theorem Ms (s:Txt) (h:Heap):ak Tryz.prog 163 [.s s] h fun r h' =>(∃x:Int,r= .tup [.v (.int .u8 x), .v (.bool (rK s).isSome)]∧∀c,rK s=some c→x=c.toNat)∧h' =h:=by
 refine ak.body hU hm Tryz.func163 rfl (by kernel_rfl) 38 rfl [.tmp 2, .tmp 3] rfl (Vz rfl) (fun hwf=> ?_)
 have hlen:=hwf (.s s) (by simp)
 simp only [wfA,wf1,lim] at hlen;cases d0:decide ((s.length:Int)<3)
 case true=>
  have e0:s.length<3:=by have:=VC d0; omega
  have:rK s=none:=by
   match s,e0 with
   | [],_=>rfl
   | [_],_=>rfl
   | [_,_],_=>rfl
  simp only [go_sem,d0];exact .same (.refl _) ⟨⟨0,by rw [this]; rfl,fun c hc=>by rw [this] at hc; cases hc⟩,rfl⟩
 have e0:3≤s.length:=by have:=VD d0; omega
 obtain ⟨b,x,y,t,rfl⟩:∃b x y t,s=b::x::y::t:=by
  match s,e0 with
  |b::x::y::t,_=>exact ⟨b,x,y,t,rfl⟩
 simp only [List.length_cons] at d0;have bad:rK (b::x::y::t)=none→∃z:Int,AV.tup [.v (.int .u8 0), .v (.bool false)]= .tup [.v (.int .u8 z), .v (.bool (rK (b::x::y::t)).isSome)]∧∀c,rK (b::x::y::t)=some c→z=c.toNat:=
  fun e=>⟨0,by rw [e]; rfl,fun c hc=>by rw [e] at hc; cases hc⟩
 cases d1:((b.toNat:Int) !=92)
 case true=>
  have e1:b≠92:=by rintro rfl; simp at d1
  simp only [go_sem,d0];refine .at 0 (by simp) ?_
  simp only [go_sem,cw,List.getElem_cons_zero,d1];exact .same (.refl _) ⟨bad (by simp [rK,e1]),rfl⟩
 have e1:b=92:=by
  have:(b.toNat:Int)=92:=by simpa using d1
  exact UInt8.toNat_inj.1 (by show b.toNat=92; omega)
 simp only [go_sem,d0];refine .at 0 (by simp) ?_
 simp only [go_sem,cw,List.getElem_cons_zero,d1];refine .at 1 (by simp) ?_
 simp only [go_sem,cw,List.getElem_cons_zero,List.getElem_cons_succ];refine (qZ x _).pthen ?_;cases d2:decide (iP x<0)
 case true=>
  have e2:=VC d2;simp only [go_sem,d2];exact .same (.refl _) ⟨bad (by simp [rK]; intros; omega),rfl⟩
 have e2:0≤iP x:=by have:=VD d2; omega
 simp only [go_sem,d2];refine .at 2 (by simp) ?_
 simp only [go_sem,cw,List.getElem_cons_zero,List.getElem_cons_succ];refine (qZ y _).pthen ?_;cases d3:decide (iP y<0)
 case true=>
  have e3:=VC d3;simp only [go_sem,d3];exact .same (.refl _) ⟨bad (by simp [rK]; intros; omega),rfl⟩
 have e3:0≤iP y:=by have:=VD d3; omega
 have hx:=DS x;have hy:=DS y;have w1:IntKind.i64.wrap (16*iP x)=16*iP x:=bu _ (by omega)
 have w2:IntKind.i64.wrap (16*iP x+iP y)=16*iP x+iP y:=bu _ (by omega)
 have w3:IntKind.u8.wrap (16*iP x+iP y)=((UInt8.ofNat (16*iP x+iP y).toNat).toNat:Int):=by
  rw [wr8 (by omega),IQ _ (by omega)]; omega
 simp only [go_sem,d3];refine .quiet (by kernel_rfl) ?_
 simp only [go_sem];refine .at 1 (by simp) ?_
 simp only [go_sem,cw,List.getElem_cons_zero,List.getElem_cons_succ];refine ⟨_,qZ x _, ?_⟩;simp only [go_sem];refine .at 2 (by simp) ?_
 simp only [go_sem,cw,List.getElem_cons_zero,List.getElem_cons_succ];refine ⟨_,qZ y _, ?_⟩;simp only [go_sem,w1,w2,w3];refine (Bn _ _).pthen ?_;simp only [go_sem];refine .same (.refl _) ⟨⟨((UInt8.ofNat (16*iP x+iP y).toNat).toNat:Int), ?_,fun c hc=> ?_⟩,rfl⟩
 ·cases d5:C0 (UInt8.ofNat (16*iP x+iP y).toNat)<;>simp [rK,e1,e2,e3,d5,ax]
 ·simp only [rK] at hc
  split at hc
  ·cases hc; rfl
  ·cases hc
theorem u5z:(U 5).sz=1:=by simp only [go_sem]
theorem u5b:(U 5).bytes=1:=by simp only [go_sem]
theorem lO (l:List UInt8):Sized 1 (l.map cw):=fun z hz=>by
 obtain ⟨c,_,rfl⟩:=List.mem_map.1 hz; rfl
theorem Ek (s:Txt) (hs:s.length≤10000) (h:Heap):ak Tryz.prog 127 [.s s] h fun r h' =>r= .tup [.s (wP s).1, .v (.int .i64 (wP s).2)]∧h' =h:=by
 refine ak.body hU hm Tryz.func127 rfl (by kernel_rfl) 50 rfl [.tmp 2, .tmp 3] rfl (Vz rfl) (fun hwf=> ?_)
 simp only [go_sem];refine .intro (fun m ρ h' =>∃(i f:Nat) (y:AV) (out:Txt),Acc U 5 h h' y (out.map cw)∧out.length≤i∧m=s.length+1 - i∧i≤s.length+3∧s.length≤f+i∧sd f (s.drop i) i out=wP s∧lk ρ 0=some (.s s)∧lk ρ 4=some y∧lk ρ 5=some (.v (.int .i64 i))) s.length ?_ ?_
 ·refine ⟨1,s.length, .sl [] .full,[], .full (.refl _),by simp,by omega,by omega,by omega,rfl, ?_, ?_, ?_⟩<;>simp only [go_sem]
 ·rintro m ρ h' ⟨i,f,y,out,hy,hoi,rfl,hi,hf,he,r0,r4,r5⟩
  cases d1:decide ((i:Int)<(s.length:Int))
  ·have hge:s.length≤i:=by have:=VD d1; omega
   have hd:s.drop i= []:=List.drop_of_length_le hge;have:wP s=([],0):=by
    rw [←he,hd];cases f<;>rfl
   simp only [go_sem,r0,r5,d1];exact .mk _ (.refl _) hy.1 ⟨by rw [this]; rfl,rfl⟩
  have hlt:i<s.length:=by have:=VC d1; omega
  obtain ⟨f,rfl⟩:∃g,f=g+1:=⟨f - 1,by omega⟩
  have hdr:s.drop i=s[i]::s.drop (i+1):=List.drop_eq_getElem_cons hlt;rw [hdr] at he;simp only [sd] at he;have w1:=VG i (by omega)
  have w3:IntKind.i64.wrap ((i:Int)+3)=((i+3:Nat):Int):=by rw [bu _ (by omega)]; omega
  simp only [go_sem,r0,r5,d1];refine .at i hlt ?_;cases d2:((s[i].toNat:Int)==34)
  case true=>
   have e2:s[i]=34:=by
    have:(s[i].toNat:Int)=34:=by simpa using d2
    exact UInt8.toNat_inj.1 (by show s[i].toNat=34; omega)
   rw [if_pos e2] at he;cases d3:decide (64<(out.length:Int))
   case true=>
    have e3:64<out.length:=by have:=VC d3; omega
    rw [if_pos e3] at he;simp only [go_sem,r4,cw,d2,hy.len,VA,d3];exact .mk _ (.refl _) hy.1 ⟨by rw [←he]; rfl,rfl⟩
   have e3:¬64<out.length:=by have:=VD d3; omega
   rw [if_neg e3] at he;simp only [go_sem,r4,cw,d2,hy.len,VA,d3];obtain ⟨q,rfl⟩:=hy.row;simp only [go_sem,r5,w1];exact .mk _ (.refl _) hy.1 ⟨by rw [←he]; rfl,rfl⟩
  have e2:s[i]≠34:=by intro e; rw [e] at d2; simp at d2
  rw [if_neg e2] at he;simp only [go_sem,r0,r5,cw,d2];refine .at i hlt ?_;simp only [go_sem,cw];refine (Bn _ _).pthen ?_;cases d4:C0 s[i]
  ·rw [if_pos d4] at he
   simp only [go_sem,r0,r4,r5,d4];refine .at i hlt ?_;simp only [go_sem,cw];refine hy.app (zs:= [cw s[i]]) (by rw [u5z]; decide) (by rw [u5b]; decide) (fun k hk=>hk) (by rw [u5z]; exact lO out) (by rw [u5z]; exact lO [s[i]]) (by rw [u5b]; simp; omega) fun y' h2 hy' hk2=> ?_
   simp only [go_sem,r5,w1];refine ⟨_, ?_,i+1,f,y',out++ [s[i]],by simpa using hy',by simp; omega,rfl,by omega,by omega,he, ?_, ?_, ?_⟩
   ·omega
   all_goals simp only [go_sem,r0]
  ·rw [if_neg (by simp [d4])] at he
   simp only [go_sem,r0,r5,d4];refine ⟨by omega, ?_⟩
   simp only [go_sem,Option.isSome_none,Option.isSome_some,kG,Int.toNat_natCast];refine ⟨by omega,by omega, ?_⟩
   refine (Ms _ _).mono fun x h2 hx=> ?_
   obtain ⟨⟨v,rfl,hv⟩,rfl⟩:=hx;rw [←hdr] at he;cases e5:rK (s.drop i) with
   |none=>
    rw [e5] at he;simp only [go_sem,Option.isSome_none];exact .mk _ (.refl _) hy.1 ⟨by rw [←he]; rfl,rfl⟩
   |some b=>
    rw [e5] at he;have hvb:=hv b e5;subst hvb;have h3:=Bc e5;simp only [List.length_drop] at h3;simp only [go_sem,r4,Option.isSome_some];refine hy.app (zs:= [cw b]) (by rw [u5z]; decide) (by rw [u5b]; decide) (fun k hk=>hk) (by rw [u5z]; exact lO out) (by rw [u5z]; exact lO [b]) (by rw [u5b]; simp; omega) fun y' h2 hy' hk2=> ?_
    simp only [go_sem,r5,w3];refine ⟨_, ?_,i+3,f,y',out++ [b],by simpa using hy',by simp; omega,rfl,by omega,by omega, ?_, ?_, ?_, ?_⟩
    ·omega
    ·simp only [List.drop_drop] at he
     exact he
    all_goals simp only [go_sem,r0]
end Go.Proofs.YtnlbeamjpefpfaaGreatDoor
namespace Go.Bf
open Go Go.Ab
theorem DH (c:UInt8):dgt c=true↔48≤c.toNat∧c.toNat≤57:=by
 simp only [dgt,Bool.and_eq_true,decide_eq_true_eq]; omega
def EG (acc:Nat) (l:Txt):Nat:=l.foldl (fun n c=>n*10+(c.toNat - 48)) acc
theorem xP (acc:Nat) (c:UInt8) (r:Txt):EG acc (c::r)=EG (acc*10+(c.toNat - 48)) r:=List.foldl_cons ..
theorem An:∀(l:Txt) (acc:Nat),acc≤EG acc l
 | [],acc=>Nat.le_refl _
 |c::r,acc=>by rw [xP]; exact Nat.le_trans (by omega) (An r (acc*10+(c.toNat - 48)))
theorem rP:∀(l:Txt) (acc:Nat),(∀c∈l,dgt c=true)→acc<18446744073709551616→
  Lib.parseUint10 acc l=if EG acc l<18446744073709551616 then .ok (EG acc l) else .range
 | [],acc,_,ha=>by
  have:EG acc []=acc:=rfl;rw [this,if_pos ha]; rfl
 |c::r,acc,hd,ha=>by
  have hc:=(DH c).1 (hd c (by simp))
  have hm:=An r (acc*10+(c.toNat - 48));rw [xP];unfold Lib.parseUint10;rw [if_pos hc];split
  ·rw [if_neg (by omega)]
  ·split
   ·rw [if_neg (by omega)]
   ·exact rP r _ (fun x hx=>hd x (by simp [hx])) (by omega)
def lX (neg:Bool):Txt:=if neg then [45] else []
theorem tu (neg:Bool) (d:Txt) (h0:d≠ []) (hd:∀c∈d,dgt c=true):
  Lib.atoiAll (lX neg++d)=if -9223372036854775808≤(if neg then -(nU d:Int) else (nU d:Int))∧(if neg then -(nU d:Int) else (nU d:Int))≤9223372036854775807 then .ok (if neg then -(nU d:Int) else (nU d:Int)) else .range:=by
 have hp:Lib.parseMag d=if nU d<18446744073709551616 then .ok (nU d) else .range:=by
  unfold Lib.parseMag;rw [if_neg h0];exact rP d 0 hd (by decide)
 cases neg
 ·obtain ⟨c,r,rfl⟩:=List.exists_cons_of_ne_nil h0
  have hc:=(DH c).1 (hd c (by simp))
  simp only [lX,Bool.false_eq_true,if_false,List.nil_append,Lib.atoiAll];rw [if_neg (by omega),hp]
  have e45:(c.toNat=45)=False:=by simp; omega
  simp only [e45,not_false_eq_true,true_and,false_and,if_false];split
  ·rename_i h; split at h
   ·cases h
   ·cases h
  ·rename_i h; split at h
   ·cases h
   ·rw [if_neg (by omega)]
  ·rename_i u h; split at h
   ·cases h
    split
    ·rw [if_neg (by omega)]
    ·rw [if_pos (by omega)]
   ·cases h
 ·simp only [lX,if_true,List.cons_append,List.nil_append,Lib.atoiAll]
  rw [if_pos (.inr (by decide)),hp]
  simp only [show ((45:UInt8).toNat=45)=True by simp,not_true_eq_false,false_and,if_false,true_and,if_true]
  split
  ·rename_i h; split at h
   ·cases h
   ·cases h
  ·rename_i h; split at h
   ·cases h
   ·rw [if_neg (by omega)]
  ·rename_i u h; split at h
   ·cases h
    split
    ·rw [if_neg (by omega)]
    ·rw [if_pos (by omega)]
   ·cases h
theorem xA (s:Txt):∀c∈s.takeWhile dgt,dgt c=true:=fun c hc=>by
 induction s with
 |nil=>cases hc
 |cons x r ih=>
  simp only [List.takeWhile_cons] at hc;split at hc
  ·rename_i hx
   rcases List.mem_cons.1 hc with rfl|hc
   ·exact hx
   ·exact ih hc
  ·cases hc
end Go.Bf
namespace Go.Proofs
open Go.Shelf
def Tryz.A0:Go.Shelf.Ren:=⟨fun|137=>128|217=>164|266=>187|n=>n,fun|9=>9|5=>5|3=>3|n=>n,fun|n=>n⟩
theorem Tryz.JR:Go.Proofs.Lays.n137 Tryz.prog Tryz.A0:= {
 mixed:=by kernel_rfl
 f137:=Tryz.func128.trans (congrArg some (by kernel_rfl))
 f217:=Tryz.func164.trans (congrArg some (by kernel_rfl))
 f266:=Tryz.func187.trans (congrArg some (by kernel_rfl))
 t3:=Tryz.underlying3
 a3:=Tryz.isAgg3
 z3:=Tryz.sizeOf3
 v3:=Tryz.zeroValue3
 t5:=Tryz.underlying5
 a5:=Tryz.isAgg5
 z5:=Tryz.sizeOf5
 v5:=Tryz.zeroValue5
 t9:=Tryz.underlying9
 a9:=Tryz.isAgg9
 z9:=Tryz.sizeOf9
 v9:=Tryz.zeroValue9}
open Go.RowKit in
theorem Tryz.strings_IndexByte (s:ByteArray) (c:Int) (w:World):
  Calls Tryz.prog 128 #[.string s, .int .u8 c] w fun e w' =>e= .returned (.int .i64 (Lib.indexByte s.data.toList c.toNat.toUInt8))∧w' =w:=Any.strings_IndexByte Tryz.JR s c w
def Tryz.zz:Go.Shelf.Ren:=⟨fun|172=>161|244=>184|245=>185|247=>202|279=>203|280=>204|281=>205|282=>206|287=>223|316=>224|171=>226|205=>225|321=>229|322=>230|243=>231|246=>232|283=>233|284=>234|285=>235|286=>236|129=>238|317=>237|318=>239|319=>240|320=>241|337=>242|338=>243|n=>n,fun|9=>9|3=>3|75=>242|76=>243|4=>4|5=>5|167=>290|37=>245|0=>0|85=>291|2=>2|168=>293|53=>308|175=>309|46=>311|210=>313|127=>319|145=>322|143=>320|21=>21|171=>324|173=>327|212=>330|51=>331|20=>20|213=>332|232=>335|233=>336|80=>177|n=>n,fun|15=>1|16=>2|17=>3|18=>4|19=>5|n=>n⟩
theorem Tryz.A1:Go.Proofs.LaysC.n172 Tryz.prog Tryz.zz:= {
 mixed:=by kernel_rfl
 f129:=Tryz.func238.trans (congrArg some (by kernel_rfl))
 f171:=Tryz.func226.trans (congrArg some (by kernel_rfl))
 f172:=Tryz.func161.trans (congrArg some (by kernel_rfl))
 f205:=Tryz.func225.trans (congrArg some (by kernel_rfl))
 f243:=Tryz.func231.trans (congrArg some (by kernel_rfl))
 f244:=Tryz.func184.trans (congrArg some (by kernel_rfl))
 f245:=Tryz.func185.trans (congrArg some (by kernel_rfl))
 f246:=Tryz.func232.trans (congrArg some (by kernel_rfl))
 f247:=Tryz.func202.trans (congrArg some (by kernel_rfl))
 f279:=Tryz.func203.trans (congrArg some (by kernel_rfl))
 f280:=Tryz.func204.trans (congrArg some (by kernel_rfl))
 f281:=Tryz.func205.trans (congrArg some (by kernel_rfl))
 f282:=Tryz.func206.trans (congrArg some (by kernel_rfl))
 f283:=Tryz.func233.trans (congrArg some (by kernel_rfl))
 f284:=Tryz.func234.trans (congrArg some (by kernel_rfl))
 f285:=Tryz.func235.trans (congrArg some (by kernel_rfl))
 f286:=Tryz.func236.trans (congrArg some (by kernel_rfl))
 f287:=Tryz.func223.trans (congrArg some (by kernel_rfl))
 f316:=Tryz.func224.trans (congrArg some (by kernel_rfl))
 f317:=Tryz.func237.trans (congrArg some (by kernel_rfl))
 f318:=Tryz.func239.trans (congrArg some (by kernel_rfl))
 f319:=Tryz.func240.trans (congrArg some (by kernel_rfl))
 f320:=Tryz.func241.trans (congrArg some (by kernel_rfl))
 f321:=Tryz.func229.trans (congrArg some (by kernel_rfl))
 f322:=Tryz.func230.trans (congrArg some (by kernel_rfl))
 f337:=Tryz.func242.trans (congrArg some (by kernel_rfl))
 f338:=Tryz.func243.trans (congrArg some (by kernel_rfl))
 t0:=Tryz.underlying0
 a0:=Tryz.isAgg0
 z0:=Tryz.sizeOf0
 v0:=Tryz.zeroValue0
 t2:=Tryz.underlying2
 a2:=Tryz.isAgg2
 z2:=Tryz.sizeOf2
 v2:=Tryz.zeroValue2
 t3:=Tryz.underlying3
 a3:=Tryz.isAgg3
 z3:=Tryz.sizeOf3
 v3:=Tryz.zeroValue3
 t4:=Tryz.underlying4
 a4:=Tryz.isAgg4
 z4:=Tryz.sizeOf4
 v4:=Tryz.zeroValue4
 t5:=Tryz.underlying5
 a5:=Tryz.isAgg5
 z5:=Tryz.sizeOf5
 v5:=Tryz.zeroValue5
 t9:=Tryz.underlying9
 a9:=Tryz.isAgg9
 z9:=Tryz.sizeOf9
 v9:=Tryz.zeroValue9
 t20:=Tryz.underlying20
 a20:=Tryz.isAgg20
 z20:=Tryz.sizeOf20
 v20:=Tryz.zeroValue20
 t21:=Tryz.underlying21
 a21:=Tryz.isAgg21
 z21:=Tryz.sizeOf21
 v21:=Tryz.zeroValue21
 t37:=Tryz.underlying245
 a37:=Tryz.isAgg245
 z37:=Tryz.sizeOf245
 v37:=Tryz.zeroValue245
 t46:=Tryz.underlying311
 a46:=Tryz.isAgg311
 z46:=Tryz.sizeOf311
 v46:=Tryz.zeroValue311
 t51:=Tryz.underlying331
 a51:=Tryz.isAgg331
 z51:=Tryz.sizeOf331
 v51:=Tryz.zeroValue331
 t53:=Tryz.underlying308
 a53:=Tryz.isAgg308
 z53:=Tryz.sizeOf308
 v53:=Tryz.zeroValue308
 t75:=Tryz.underlying242
 a75:=Tryz.isAgg242
 z75:=Tryz.sizeOf242
 v75:=Tryz.zeroValue242
 t76:=Tryz.underlying243
 a76:=Tryz.isAgg243
 z76:=Tryz.sizeOf243
 v76:=Tryz.zeroValue243
 t85:=Tryz.underlying291
 a85:=Tryz.isAgg291
 z85:=Tryz.sizeOf291
 v85:=Tryz.zeroValue291
 t127:=Tryz.underlying319
 a127:=Tryz.isAgg319
 z127:=Tryz.sizeOf319
 v127:=Tryz.zeroValue319
 t143:=Tryz.underlying320
 a143:=Tryz.isAgg320
 z143:=Tryz.sizeOf320
 v143:=Tryz.zeroValue320
 t145:=Tryz.underlying322
 a145:=Tryz.isAgg322
 z145:=Tryz.sizeOf322
 v145:=Tryz.zeroValue322
 t167:=Tryz.underlying290
 a167:=Tryz.isAgg290
 z167:=Tryz.sizeOf290
 v167:=Tryz.zeroValue290
 t168:=Tryz.underlying293
 a168:=Tryz.isAgg293
 z168:=Tryz.sizeOf293
 v168:=Tryz.zeroValue293
 t171:=Tryz.underlying324
 a171:=Tryz.isAgg324
 z171:=Tryz.sizeOf324
 v171:=Tryz.zeroValue324
 t173:=Tryz.underlying327
 a173:=Tryz.isAgg327
 z173:=Tryz.sizeOf327
 v173:=Tryz.zeroValue327
 t175:=Tryz.underlying309
 a175:=Tryz.isAgg309
 z175:=Tryz.sizeOf309
 v175:=Tryz.zeroValue309
 t210:=Tryz.underlying313
 a210:=Tryz.isAgg313
 z210:=Tryz.sizeOf313
 v210:=Tryz.zeroValue313
 t212:=Tryz.underlying330
 a212:=Tryz.isAgg330
 z212:=Tryz.sizeOf330
 v212:=Tryz.zeroValue330
 t213:=Tryz.underlying332
 a213:=Tryz.isAgg332
 z213:=Tryz.sizeOf332
 t232:=Tryz.underlying335
 a232:=Tryz.isAgg335
 z232:=Tryz.sizeOf335
 v232:=Tryz.zeroValue335
 t233:=Tryz.underlying336
 a233:=Tryz.isAgg336
 z233:=Tryz.sizeOf336
 v233:=Tryz.zeroValue336
 g15:=by kernel_rfl
 g16:=by kernel_rfl
 g17:=by kernel_rfl
 g18:=by kernel_rfl
 g19:=by kernel_rfl
 t80:=Tryz.underlying177
 a80:=Tryz.isAgg177
 z80:=Tryz.sizeOf177
 v80:=Tryz.zeroValue177
 i0:=by kernel_rfl
 i2:=by kernel_rfl
 i3:=by kernel_rfl
 i4:=by kernel_rfl
 i5:=by kernel_rfl
 i9:=by kernel_rfl
 i20:=by kernel_rfl
 i21:=by kernel_rfl
 i37:=by kernel_rfl
 i46:=by kernel_rfl
 i51:=by kernel_rfl
 i53:=by kernel_rfl
 i75:=by kernel_rfl
 i76:=by kernel_rfl
 i80:=by kernel_rfl
 i85:=by kernel_rfl
 i127:=by kernel_rfl
 i143:=by kernel_rfl
 i145:=by kernel_rfl
 i167:=by kernel_rfl
 i168:=by kernel_rfl
 i171:=by kernel_rfl
 i173:=by kernel_rfl
 i175:=by kernel_rfl
 i210:=by kernel_rfl
 i212:=by kernel_rfl
 i232:=by kernel_rfl
 i233:=by kernel_rfl
 m15:=by kernel_rfl
 m16:=by kernel_rfl
 m17:=by kernel_rfl
 m18:=by kernel_rfl
 m19:=by kernel_rfl
 c0:=by kernel_rfl
 c2:=by kernel_rfl
 c3:=by kernel_rfl
 c4:=by kernel_rfl
 c5:=by kernel_rfl
 c9:=by kernel_rfl
 c20:=by kernel_rfl
 c21:=by kernel_rfl
 c37:=by kernel_rfl
 c46:=by kernel_rfl
 c51:=by kernel_rfl
 c53:=by kernel_rfl
 c75:=by kernel_rfl
 c76:=by kernel_rfl
 c80:=by kernel_rfl
 c85:=by kernel_rfl
 c127:=by kernel_rfl
 c143:=by kernel_rfl
 c145:=by kernel_rfl
 c167:=by kernel_rfl
 c168:=by kernel_rfl
 c171:=by kernel_rfl
 c173:=by kernel_rfl
 c175:=by kernel_rfl
 c210:=by kernel_rfl
 c212:=by kernel_rfl
 c213:=by kernel_rfl
 c232:=by kernel_rfl
 c233:=by kernel_rfl}
open Go.RowKit in
theorem Tryz.strconv_Atoi_ok (s:ByteArray) (hmax:s.size≤9223372036854775806) (v:Int) (h:Lib.atoiAll s.data.toList= .ok v) (w:World):
  Calls Tryz.prog 161 #[.string s] w fun e w' =>e= .returned (.tuple #[.int .i64 v, .nilIface])∧(w' =w∨∃t,w' =Lib.bytesWorld w 5 t):=Any.strconv_Atoi_ok Tryz.A1 s hmax v h w
open Go.RowKit in
theorem Tryz.strconv_Atoi_range (s:ByteArray) (hlim:s.size≤281474976710656) (h:Lib.atoiAll s.data.toList= .range) (ev:Value) (w:World) (hv:w.cell? ⟨2,0,none⟩=some ev) (hev:ev= .nilIface∨∃te pe,ev= .iface te pe):
  Calls Tryz.prog 161 #[.string s] w fun e w' =>∃N,e= .returned (.tuple #[.int .i64 (Lib.atoiSat s.data.toList), .iface 293 (.pointer (some ⟨N,0,none⟩))])∧w.heap.size≤N∧w'.heap[N]? =some (.cells #[.string ⟨#[65,116,111,105]⟩, .string s,ev] 313 (0,0))∧Below w.heap.size w w' :=Any.strconv_Atoi_range Tryz.A1 s hlim h ev w hv hev
end Go.Proofs
namespace Go.Proofs.YtnlbeamjpefpfaaGreatDoor
open Go Go.Ab Go.Bf Go.RowKit
theorem FM (s:Txt) (hs:s.length≤100000) (w:World):Calls Tryz.prog 159 #[.string ⟨s.toArray⟩, .func (.func 125) #[] #[]] w fun e w' =>e= .returned (.int .i64 (s.takeWhile dgt).length)∧Below w.heap.size w w' :=by
 refine Go.Ab.ak.calls (args:= [.s s, .fn 125 []]) ⟨_,Tryz.func159,by kernel_rfl,rfl⟩ ((IA _ _ lq s cO).mono fun _ _ h=>h.1) rfl (fun i hi=> ?_)
 rcases i with _|_|i
 ·exact .s s (by show s.length<lim; have:(100000:Nat)<lim:=(by decide); omega)
 ·exact .fn _ [] #[] rfl (fun i hi=>by cases hi)
 ·simp at hi; omega
def xC (neg:Bool) (d:Txt):Int:=if neg then -(nU d:Int) else (nU d:Int)
def inI (neg:Bool) (d:Txt):Prop:= -9223372036854775808≤(if neg then -(nU d:Int) else (nU d:Int))∧(if neg then -(nU d:Int) else (nU d:Int))≤9223372036854775807
instance (neg:Bool) (d:Txt):Decidable (inI neg d):=inferInstanceAs (Decidable (_∧_))
theorem wJ (neg:Bool):(lX neg).length≤1:=by cases neg<;>decide
theorem DB (neg:Bool) (d:Txt) (h0:d≠ []) (hd:∀c∈d,dgt c=true) (hlen:d.length≤10000) (S:ByteArray) (hS:S=⟨(lX neg++d).toArray⟩) (hr:inI neg d) (W:World):
  Calls Tryz.prog 161 #[.string S] W fun e w' =>e= .returned (.tuple #[.int .i64 (xC neg d), .nilIface])∧Below W.heap.size W w' :=by
 have hl:=wJ neg;have hsz:S.size≤10001:=by rw [hS]; simp [ByteArray.size]; omega
 have ha:Lib.atoiAll S.data.toList= .ok (xC neg d):=by
  rw [hS]
  show Lib.atoiAll (lX neg++d)=_
  rw [tu neg d h0 hd];exact if_pos hr
 refine (Tryz.strconv_Atoi_ok S (by omega) _ ha W).mono ?_
 rintro e w' ⟨rfl,rfl|⟨t,rfl⟩⟩
 ·exact ⟨rfl, .refl _ _⟩
 ·exact ⟨rfl,Lib.bytesWorld_below W _ t⟩
theorem zY (neg:Bool) (d:Txt) (h0:d≠ []) (hd:∀c∈d,dgt c=true) (hlen:d.length≤10000) (S:ByteArray) (hS:S=⟨(lX neg++d).toArray⟩) (hr:¬inI neg d) (W:World) (ev:Value) (hv:W.cell? ⟨2,0,none⟩=some ev) (hev:ev= .nilIface∨∃te pe,ev= .iface te pe):
  Calls Tryz.prog 161 #[.string S] W fun e w' =>(∃(x:Int) (N:Nat),e= .returned (.tuple #[.int .i64 x, .iface 293 (.pointer (some ⟨N,0,none⟩))]))∧Below W.heap.size W w' :=by
 have hl:=wJ neg;have hsz:S.size≤10001:=by rw [hS]; simp [ByteArray.size]; omega
 have ha:Lib.atoiAll S.data.toList= .range:=by
  rw [hS]
  show Lib.atoiAll (lX neg++d)=_
  rw [tu neg d h0 hd];exact if_neg hr
 refine (Tryz.strconv_Atoi_range S (by omega) ha ev W hv hev).mono ?_
 rintro e w' ⟨N,rfl,_,_,hb⟩
 exact ⟨⟨_,N,rfl⟩,hb⟩
set_option maxHeartbeats 1000000 in
set_option maxRecDepth 1000000 in
theorem Bb (neg:Bool) (s:Txt) (hs:s.length≤10000) (w:World) (ev:Value) (hv:w.cell? ⟨2,0,none⟩=some ev) (hev:ev= .nilIface∨∃te pe,ev= .iface te pe) (hg:2<w.heap.size):
  Calls Tryz.prog 126 #[.string ⟨(lX neg).toArray⟩, .string ⟨s.toArray⟩] w fun e w' =>e= .returned (.tuple #[.int .i64 (eT neg s).1, .int .i64 ((eT neg s).2:Nat)])∧Below w.heap.size w w' :=by
 have hle:=hY dgt s;obtain ⟨d,ed⟩:∃d,s.takeWhile dgt=d:=⟨_,rfl⟩;have htk:s.take d.length=d:=by rw [←ed,pE]
 have hrun:=FM s (by omega) w
 have hall:=xA s;rw [ed] at hrun hle hall
 go_enter Tryz.func126,Tryz.ntmps126
 by_cases h0:d.length=0
 ·have e0:d= []:=List.length_eq_zero_iff.1 h0
  have en:eT neg s=(0,0):=by unfold eT; rw [ed,if_pos (.inl e0)]
  go_wp2_with (go_at_call 159; refine hrun.mono ?_)
  rintro e W0 ⟨rfl,b0⟩
  rw [h0]
  go_wp2
  go_ret2
  rw [en];exact ⟨rfl,b0⟩
 ·have e0:d≠ []:=by rintro rfl; exact h0 rfl
  go_wp2_with (go_at_call 159; refine hrun.mono ?_)
  rintro e W0 ⟨rfl,b0⟩
  have hpos:0<d.length:=by omega
  have hs0:0<s.length:=by omega
  have hsz:0<(⟨s.toArray⟩:ByteArray).size:=by simpa [ByteArray.size] using hs0
  have hg0:(⟨s.toArray⟩:ByteArray)[0]=s[0]:=rfl;have hgn:∀x:UInt8,(s.head? =some x)↔s[0]=x:=fun x=>by
   rw [List.head?_eq_getElem?,List.getElem?_eq_getElem hs0]; simp
  cases d0:((d.length:Int)==0)
  case true=>exact absurd (by simpa using d0) h0
  have hS:(⟨(lX neg).toArray⟩:ByteArray)++(⟨s.toArray⟩:ByteArray).extract 0 d.length=⟨(lX neg++d).toArray⟩:=by
   apply ByteArray.ext;simp [ByteArray.data_extract,htk]
  have hcat:¬9223372036854775807<List.length (lX neg)+d.length:=by have:=wJ neg; omega
  cases d1:decide (1<(d.length:Int))
  ·have f1:¬1<d.length:=by have:=VD d1; omega
   have en:eT neg s=if inI neg d then (xC neg d,d.length) else (0,0):=by
    unfold eT;rw [ed,if_neg (by simp [e0,f1])]
    rfl
   have hv0:W0.cell? ⟨2,0,none⟩=some ev:=by rw [b0.cell hg]; exact hv
   by_cases hr:inI neg d
   ·rw [if_pos hr] at en
    go_wp2_with (go_at_call 161; refine (DB neg d e0 hall (by omega) _ (by first|exact hS|(apply ByteArray.ext; simp [ByteArray.data_extract])) hr _).mono ?_)
    rintro e W1 ⟨rfl,b1⟩
    go_wp2
    go_ret2
    rw [en];exact ⟨rfl,b0.trans (b1.mono b0.size)⟩
   ·rw [if_neg hr] at en
    go_wp2_with (go_at_call 161; refine (zY neg d e0 hall (by omega) _ (by first|exact hS|(apply ByteArray.ext; simp [ByteArray.data_extract])) hr _ ev hv0 hev).mono ?_)
    rintro e W1 ⟨⟨x,N,rfl⟩,b1⟩
    go_wp2
    go_ret2
    rw [en];exact ⟨rfl,b0.trans (b1.mono b0.size)⟩
  ·have f1:1<d.length:=by have:=VC d1; omega
   cases d2:((s[0].toNat:Int)==48)
   ·have f2:s.head?≠some 48:=by
     rw [ne_eq,hgn]; intro e; rw [e] at d2; simp at d2
    have en:eT neg s=if inI neg d then (xC neg d,d.length) else (0,0):=by
     unfold eT;rw [ed,if_neg (by simp [e0,f2])]
     rfl
    have hv0:W0.cell? ⟨2,0,none⟩=some ev:=by rw [b0.cell hg]; exact hv
    by_cases hr:inI neg d
    ·rw [if_pos hr] at en
     go_wp2_with (go_at_call 161; refine (DB neg d e0 hall (by omega) _ (by first|exact hS|(apply ByteArray.ext; simp [ByteArray.data_extract])) hr _).mono ?_)
     rintro e W1 ⟨rfl,b1⟩
     go_wp2
     go_ret2
     rw [en];exact ⟨rfl,b0.trans (b1.mono b0.size)⟩
    ·rw [if_neg hr] at en
     go_wp2_with (go_at_call 161; refine (zY neg d e0 hall (by omega) _ (by first|exact hS|(apply ByteArray.ext; simp [ByteArray.data_extract])) hr _ ev hv0 hev).mono ?_)
     rintro e W1 ⟨⟨x,N,rfl⟩,b1⟩
     go_wp2
     go_ret2
     rw [en];exact ⟨rfl,b0.trans (b1.mono b0.size)⟩
   ·have f2:s.head? =some 48:=by
     rw [hgn];have:(s[0].toNat:Int)=48:=by simpa using d2
     exact UInt8.toNat_inj.1 (by show s[0].toNat=48; omega)
    have en:eT neg s=(0,0):=by unfold eT; rw [ed,if_pos (.inr ⟨f1,f2⟩)]
    go_wp2
    go_ret2
    rw [en];exact ⟨rfl,b0⟩
def qs (h:Heap):Prop:=∃ev:Value,(ev= .nilIface∨∃te pe,ev= .iface te pe)∧Tab h 2 [ev]
theorem qs.sub {h h' :Heap} (he:qs h) (hs:Ab.Sub h h'):qs h' :=by
 obtain ⟨ev,h1,h2⟩:=he;exact ⟨ev,h1,h2.sub hs⟩
theorem kT (neg:Bool) (s:Txt) (hs:s.length≤10000) (h:Heap) (he:qs h):ak Tryz.prog 126 [.s (lX neg), .s s] h fun r h' =>r= .tup [.v (.int .i64 (eT neg s).1), .v (.int .i64 ((eT neg s).2:Nat))]∧h' =h:=by
 obtain ⟨ev,hev,id,hi⟩:=he;refine .lib ⟨_,Tryz.func126,by kernel_rfl,rfl⟩ fun c vs hs' g h1 h2=> ?_
 obtain ⟨u,v,rfl⟩:∃u v,vs= #[u,v]:=by
  match vs,h1 with
  |⟨[u,v]⟩,_=>exact ⟨u,v,rfl⟩
 have e1:u= .string ⟨(lX neg).toArray⟩:=((h2 0 (by simp)).lW).1
 have e2:v= .string ⟨s.toArray⟩:=((h2 1 (by simp)).lW).1
 subst e1; subst e2
 obtain ⟨_,t,fr,hh⟩:=g.ro id _ _ (hs' _ _ hi);have hc:c.w.cell? ⟨2,0,none⟩=some ev:=by simp [World.cell?,hh]
 refine (Bb neg s hs c.w ev hc hev (cg hh)).mono ?_
 rintro e w' ⟨rfl,hb⟩
 refine ⟨⟨_,rfl,fun c' _=> ?_⟩,hb⟩
 refine .tup _ _ rfl fun i hi=> ?_
 rcases i with _|_|i
 ·exact .v _
 ·exact .v _
 ·simp at hi; omega
end Go.Proofs.YtnlbeamjpefpfaaGreatDoor
namespace Go.Bf
open Go Go.Ab
def marks:Txt:= [123,125,40,41,46,44,59,61,60,62,33]
set_option maxRecDepth 100000 in
theorem xg:∀n:Fin 256,decide (0≤Lib.indexByte marks (UInt8.ofNat n.val))=A6 (UInt8.ofNat n.val):=by decide
theorem pN (c:UInt8):decide (0≤Lib.indexByte marks c)=A6 c:=by
 have:=xg ⟨c.toNat,c.toNat_lt⟩;simpa using this
end Go.Bf
namespace Go.Proofs.YtnlbeamjpefpfaaGreatDoor
open Go Go.Ab Go.Bf
theorem AR (l:Txt) (c:UInt8) (h:Heap):ak Tryz.prog 128 [.s l, .v (.int .u8 c.toNat)] h fun r h' =>r= .v (.int .i64 (Lib.indexByte l c))∧h' =h:=by
 refine .lib ⟨_,Tryz.func128,by kernel_rfl,rfl⟩ fun cx vs hs' g h1 h2=> ?_
 obtain ⟨u,v,rfl⟩:∃u v,vs= #[u,v]:=by
  match vs,h1 with
  |⟨[u,v]⟩,_=>exact ⟨u,v,rfl⟩
 have e1:u= .string ⟨l.toArray⟩:=((h2 0 (by simp)).lW).1
 have e2:v= .int .u8 c.toNat:=(h2 1 (by simp)).bS
 subst e1; subst e2
 refine (Tryz.strings_IndexByte ⟨l.toArray⟩ c.toNat cx.w).mono ?_
 rintro e w' ⟨rfl,rfl⟩
 refine ⟨⟨_,rfl,fun c' _=> ?_⟩, .refl _ _⟩
 have:((c.toNat:Int).toNat).toUInt8=c:=by simp
 rw [this];exact .v _
theorem Ew (s:Txt) (h0:s≠ []) (hs:s.length≤4096) (h:Heap) (he:qs h):ak Tryz.prog 95 [.s s] h fun r h' =>r= .tup [fB (bO s).1, .v (.int .i64 ((bO s).2:Nat))]∧h' =h:=by
 refine ak.body hU hm Tryz.func95 rfl (by kernel_rfl) 106 rfl [.cell 2 137, .tmp 3] rfl (Vz rfl) (fun hwf=> ?_)
 obtain ⟨c,r,rfl⟩:=List.exists_cons_of_ne_nil h0;have hsl:r.length≤4095:=by simpa using hs
 simp only [go_sem];intro i2 hi2;simp only [go_sem];intro i4 hi4;have n24:=aE hi4;have g2:∀(f:Heap) (x:Option Blk),upd f i4 x i2=f i2:=fun f x=>ag f x n24.symm
 have g4:∀(f:Heap) (x:Option Blk),upd f i2 x i4=f i4:=fun f x=>ag f x n24
 have hsub:Ab.Sub h (upd (upd h i2 (some (.obj [.v (.int .i64 0), .v (.int .i64 0), .v (.int .i64 0), .s []] 137))) i4 (some (.obj [.v (.int .i64 0), .v (.int .i64 0), .v (.int .i64 0), .s []] 137))):=(Sub.ai hi2).trans (.ai hi4);have he2:=he.sub hsub;have hi4h:h i4=none:=by rw [ag _ _ n24] at hi4; exact hi4
 simp only [go_sem];refine .at 0 (by simp) ?_
 cases la:decide (97≤(c.toNat:Int))
 ·have hl:ltr c=false:=by simp only [ltr,la,Bool.false_and]
  simp only [go_sem,cw,List.getElem_cons_zero,la];have hlt:(c::r).headD 0=c:=rfl;refine (lq c _).pthen ?_;cases d1:dgt c
  case true=>
   simp only [go_sem,ah];refine (kT false (c::r) (by simp; omega) _ (he.sub (by repeat (first|exact .refl _|refine Sub.put ?_ (by assumption) _)))).pthen ?_
   simp only [go_sem,g2,ah];exact .mk _ (.refl _) (by repeat (first|exact .refl _|refine Sub.put ?_ (by assumption) _)) ⟨by simp [bO,hl,d1,fB,ax],rfl⟩
  have nb:∀(x:UInt8) (n:Int),n=x.toNat→((c.toNat:Int)==n)=true→c=x:=fun x n e h=>by
   have:(c.toNat:Int)=n:=by simpa using h
   exact UInt8.toNat_inj.1 (by omega)
  have nn:∀(x:UInt8) (n:Int),n=x.toNat→((c.toNat:Int)==n)=false→c≠x:=fun x n e h hc=>by
   subst hc; rw [e] at h; simp at h
  have k1:=ng true r;have k2:=ng false r;have k3:=sr r;cases d2:((c.toNat:Int)==45)
  case true=>
   have e2:=nb 45 45 rfl d2;simp only [go_sem,d2,ah,kG,Option.isSome_none,Option.isSome_some,Int.reduceToNat,List.drop_succ_cons,List.drop_zero,List.length_cons];refine ⟨by omega,by omega,by omega, ?_⟩
   refine (kT true r (by omega) _ (he.sub (by repeat (first|exact .refl _|refine Sub.put ?_ (by assumption) _)))).pthen ?_
   cases d3:((eT true r).1==0)
   ·have e3:(eT true r).1≠0:=by simpa using d3
    have w1:IntKind.i64.wrap (((eT true r).2:Int)+1)=(((eT true r).2+1:Nat):Int):=by rw [bu _ (by omega)]; omega
    simp only [go_sem,d3,g2,ah,w1];exact .mk _ (.refl _) (by repeat (first|exact .refl _|refine Sub.put ?_ (by assumption) _)) ⟨by subst e2; simp [bO,hl,d1,e3,fB,ax],rfl⟩
   ·have e3:(eT true r).1=0:=by simpa using d3
    simp only [go_sem,d3,g2,ah];exact .mk _ (.refl _) (by repeat (first|exact .refl _|refine Sub.put ?_ (by assumption) _)) ⟨by subst e2; simp [bO,hl,d1,e3,fB,ax],rfl⟩
  have e2:=nn 45 45 rfl d2;cases d4:((c.toNat:Int)==64)
  case true=>
   have e4:=nb 64 64 rfl d4;simp only [go_sem,d2,d4,ah,kG,Option.isSome_none,Option.isSome_some,Int.reduceToNat,List.drop_succ_cons,List.drop_zero,List.length_cons];refine ⟨by omega,by omega,by omega, ?_⟩
   refine (kT false r (by omega) _ (he.sub (by repeat (first|exact .refl _|refine Sub.put ?_ (by assumption) _)))).pthen ?_
   cases d3:(((eT false r).2:Int)==0)
   case true=>
    have e3:(eT false r).2=0:=by simpa using d3
    simp only [go_sem,d3,g2,ah];exact .mk _ (.refl _) (by repeat (first|exact .refl _|refine Sub.put ?_ (by assumption) _)) ⟨by subst e4; simp [bO,hl,d1,e3,fB,ax],rfl⟩
   have e3:(eT false r).2≠0:=by simpa using d3
   cases d5:decide (1099511627776<(eT false r).1)
   ·have e5:¬1099511627776<(eT false r).1:=VD d5
    have w1:IntKind.i64.wrap (((eT false r).2:Int)+1)=(((eT false r).2+1:Nat):Int):=by rw [bu _ (by omega)]; omega
    simp only [go_sem,d3,d5,g2,ah,w1];exact .mk _ (.refl _) (by repeat (first|exact .refl _|refine Sub.put ?_ (by assumption) _)) ⟨by subst e4; simp [bO,hl,d1,e3,e5,fB,ax],rfl⟩
   ·have e5:1099511627776<(eT false r).1:=VC d5
    simp only [go_sem,d3,d5,g2,ah];exact .mk _ (.refl _) (by repeat (first|exact .refl _|refine Sub.put ?_ (by assumption) _)) ⟨by subst e4; simp [bO,hl,d1,e3,e5,fB,ax],rfl⟩
  have e4:=nn 64 64 rfl d4;cases d6:((c.toNat:Int)==35)
  case true=>
   have e6:=nb 35 35 rfl d6;simp only [go_sem,d2,d4,d6,kG,Option.isSome_none,Option.isSome_some,Int.reduceToNat,List.drop_succ_cons,List.drop_zero,List.length_cons];refine ⟨by omega,by omega,by omega, ?_⟩
   refine (vV r _).pthen ?_;cases d3:(jb r== [])
   ·have e3:jb r≠ []:=by simpa using d3
    have w1:IntKind.i64.wrap (((jb r).length:Int)+1)=(((jb r).length+1:Nat):Int):=by rw [bu _ (by omega)]; omega
    simp only [go_sem,d3,g2,ah,w1];exact .mk _ (.refl _) (by repeat (first|exact .refl _|refine Sub.put ?_ (by assumption) _)) ⟨by subst e6; simp [bO,hl,d1,e3,fB,ax],rfl⟩
   ·have e3:jb r= []:=by simpa using d3
    simp only [go_sem,d3,g2,ah];exact .mk _ (.refl _) (by repeat (first|exact .refl _|refine Sub.put ?_ (by assumption) _)) ⟨by subst e6; simp [bO,hl,d1,e3,fB,ax],rfl⟩
  have e6:=nn 35 35 rfl d6;cases d7:((c.toNat:Int)==34)
  case true=>
   have e7:=nb 34 34 rfl d7;simp only [go_sem,d2,d4,d6,d7,ah];refine (Ek (c::r) (by simp; omega) _).pthen ?_
   simp only [go_sem,g2,ah];exact .mk _ (.refl _) (by repeat (first|exact .refl _|refine Sub.put ?_ (by assumption) _)) ⟨by subst e7; simp [bO,hl,d1,fB,ax],rfl⟩
  have e7:=nn 34 34 rfl d7;simp only [go_sem,d2,d4,d6,d7];refine (AR marks c _).pthen ?_;cases d8:A6 c
  ·simp only [go_sem,g2,ah,pN,d8]
   exact .mk _ (.refl _) (by repeat (first|exact .refl _|refine Sub.put ?_ (by assumption) _)) ⟨by simp [bO,hl,d1,e2,e4,e6,e7,d8,fB,ax],rfl⟩
  ·simp only [go_sem,pN,d8]
   refine .calls cO [0,1,2,3,4,5,6] (fun _ _ h=>by cases h) (by kernel_rfl) rfl ?_
   simp only [go_sem,g2,ah,pK,Option.isSome_none,Option.isSome_some,Int.reduceToNat,List.take_succ_cons,List.take_zero,List.length_cons];refine ⟨by omega,by omega,by omega,(fun _ _ h=>(by cases h)),(fun _ _ h=>(by cases h)), ?_⟩
   exact .mk _ (.refl _) (by repeat (first|exact .refl _|refine Sub.put ?_ (by assumption) _)) ⟨by simp [bO,hl,d1,e2,e4,e6,e7,d8,fB,ax],rfl⟩
 ·cases lb:decide ((c.toNat:Int)≤122)
  ·have hl:ltr c=false:=by simp only [ltr,lb,Bool.and_false]
   simp only [go_sem,cw,List.getElem_cons_zero,la,lb];have hlt:(c::r).headD 0=c:=rfl;refine (lq c _).pthen ?_;cases d1:dgt c
   case true=>
    simp only [go_sem,ah];refine (kT false (c::r) (by simp; omega) _ (he.sub (by repeat (first|exact .refl _|refine Sub.put ?_ (by assumption) _)))).pthen ?_
    simp only [go_sem,g2,ah];exact .mk _ (.refl _) (by repeat (first|exact .refl _|refine Sub.put ?_ (by assumption) _)) ⟨by simp [bO,hl,d1,fB,ax],rfl⟩
   have nb:∀(x:UInt8) (n:Int),n=x.toNat→((c.toNat:Int)==n)=true→c=x:=fun x n e h=>by
    have:(c.toNat:Int)=n:=by simpa using h
    exact UInt8.toNat_inj.1 (by omega)
   have nn:∀(x:UInt8) (n:Int),n=x.toNat→((c.toNat:Int)==n)=false→c≠x:=fun x n e h hc=>by
    subst hc; rw [e] at h; simp at h
   have k1:=ng true r;have k2:=ng false r;have k3:=sr r;cases d2:((c.toNat:Int)==45)
   case true=>
    have e2:=nb 45 45 rfl d2;simp only [go_sem,d2,ah,kG,Option.isSome_none,Option.isSome_some,Int.reduceToNat,List.drop_succ_cons,List.drop_zero,List.length_cons];refine ⟨by omega,by omega,by omega, ?_⟩
    refine (kT true r (by omega) _ (he.sub (by repeat (first|exact .refl _|refine Sub.put ?_ (by assumption) _)))).pthen ?_
    cases d3:((eT true r).1==0)
    ·have e3:(eT true r).1≠0:=by simpa using d3
     have w1:IntKind.i64.wrap (((eT true r).2:Int)+1)=(((eT true r).2+1:Nat):Int):=by rw [bu _ (by omega)]; omega
     simp only [go_sem,d3,g2,ah,w1];exact .mk _ (.refl _) (by repeat (first|exact .refl _|refine Sub.put ?_ (by assumption) _)) ⟨by subst e2; simp [bO,hl,d1,e3,fB,ax],rfl⟩
    ·have e3:(eT true r).1=0:=by simpa using d3
     simp only [go_sem,d3,g2,ah];exact .mk _ (.refl _) (by repeat (first|exact .refl _|refine Sub.put ?_ (by assumption) _)) ⟨by subst e2; simp [bO,hl,d1,e3,fB,ax],rfl⟩
   have e2:=nn 45 45 rfl d2;cases d4:((c.toNat:Int)==64)
   case true=>
    have e4:=nb 64 64 rfl d4;simp only [go_sem,d2,d4,ah,kG,Option.isSome_none,Option.isSome_some,Int.reduceToNat,List.drop_succ_cons,List.drop_zero,List.length_cons];refine ⟨by omega,by omega,by omega, ?_⟩
    refine (kT false r (by omega) _ (he.sub (by repeat (first|exact .refl _|refine Sub.put ?_ (by assumption) _)))).pthen ?_
    cases d3:(((eT false r).2:Int)==0)
    case true=>
     have e3:(eT false r).2=0:=by simpa using d3
     simp only [go_sem,d3,g2,ah];exact .mk _ (.refl _) (by repeat (first|exact .refl _|refine Sub.put ?_ (by assumption) _)) ⟨by subst e4; simp [bO,hl,d1,e3,fB,ax],rfl⟩
    have e3:(eT false r).2≠0:=by simpa using d3
    cases d5:decide (1099511627776<(eT false r).1)
    ·have e5:¬1099511627776<(eT false r).1:=VD d5
     have w1:IntKind.i64.wrap (((eT false r).2:Int)+1)=(((eT false r).2+1:Nat):Int):=by rw [bu _ (by omega)]; omega
     simp only [go_sem,d3,d5,g2,ah,w1];exact .mk _ (.refl _) (by repeat (first|exact .refl _|refine Sub.put ?_ (by assumption) _)) ⟨by subst e4; simp [bO,hl,d1,e3,e5,fB,ax],rfl⟩
    ·have e5:1099511627776<(eT false r).1:=VC d5
     simp only [go_sem,d3,d5,g2,ah];exact .mk _ (.refl _) (by repeat (first|exact .refl _|refine Sub.put ?_ (by assumption) _)) ⟨by subst e4; simp [bO,hl,d1,e3,e5,fB,ax],rfl⟩
   have e4:=nn 64 64 rfl d4;cases d6:((c.toNat:Int)==35)
   case true=>
    have e6:=nb 35 35 rfl d6;simp only [go_sem,d2,d4,d6,kG,Option.isSome_none,Option.isSome_some,Int.reduceToNat,List.drop_succ_cons,List.drop_zero,List.length_cons];refine ⟨by omega,by omega,by omega, ?_⟩
    refine (vV r _).pthen ?_;cases d3:(jb r== [])
    ·have e3:jb r≠ []:=by simpa using d3
     have w1:IntKind.i64.wrap (((jb r).length:Int)+1)=(((jb r).length+1:Nat):Int):=by rw [bu _ (by omega)]; omega
     simp only [go_sem,d3,g2,ah,w1];exact .mk _ (.refl _) (by repeat (first|exact .refl _|refine Sub.put ?_ (by assumption) _)) ⟨by subst e6; simp [bO,hl,d1,e3,fB,ax],rfl⟩
    ·have e3:jb r= []:=by simpa using d3
     simp only [go_sem,d3,g2,ah];exact .mk _ (.refl _) (by repeat (first|exact .refl _|refine Sub.put ?_ (by assumption) _)) ⟨by subst e6; simp [bO,hl,d1,e3,fB,ax],rfl⟩
   have e6:=nn 35 35 rfl d6;cases d7:((c.toNat:Int)==34)
   case true=>
    have e7:=nb 34 34 rfl d7;simp only [go_sem,d2,d4,d6,d7,ah];refine (Ek (c::r) (by simp; omega) _).pthen ?_
    simp only [go_sem,g2,ah];exact .mk _ (.refl _) (by repeat (first|exact .refl _|refine Sub.put ?_ (by assumption) _)) ⟨by subst e7; simp [bO,hl,d1,fB,ax],rfl⟩
   have e7:=nn 34 34 rfl d7;simp only [go_sem,d2,d4,d6,d7];refine (AR marks c _).pthen ?_;cases d8:A6 c
   ·simp only [go_sem,g2,ah,pN,d8]
    exact .mk _ (.refl _) (by repeat (first|exact .refl _|refine Sub.put ?_ (by assumption) _)) ⟨by simp [bO,hl,d1,e2,e4,e6,e7,d8,fB,ax],rfl⟩
   ·simp only [go_sem,pN,d8]
    refine .calls cO [0,1,2,3,4,5,6] (fun _ _ h=>by cases h) (by kernel_rfl) rfl ?_
    simp only [go_sem,g2,ah,pK,Option.isSome_none,Option.isSome_some,Int.reduceToNat,List.take_succ_cons,List.take_zero,List.length_cons];refine ⟨by omega,by omega,by omega,(fun _ _ h=>(by cases h)),(fun _ _ h=>(by cases h)), ?_⟩
    exact .mk _ (.refl _) (by repeat (first|exact .refl _|refine Sub.put ?_ (by assumption) _)) ⟨by simp [bO,hl,d1,e2,e4,e6,e7,d8,fB,ax],rfl⟩
  ·have hl:ltr c=true:=by simp only [ltr,la,lb]; rfl
   simp only [go_sem,cw,List.getElem_cons_zero,la,lb];refine (vV _ _).pthen ?_;simp only [go_sem,g2,ah];exact .mk _ (.refl _) (by repeat (first|exact .refl _|refine Sub.put ?_ (by assumption) _)) ⟨by simp [bO,hl,fB,ax],rfl⟩
theorem F3:(U 137).sz=4:=by simp only [go_sem]
theorem Kk:(U 137).bytes=40:=by simp only [go_sem]
theorem nH (l:List pW):Sized 4 (l.map fB):=fun z hz=>by
 obtain ⟨c,_,rfl⟩:=List.mem_map.1 hz; rfl
def JV:Lexed→AV
 | .bad e a=> .tup [.sl [] .no, .v (.int .i64 e), .v (.int .i64 a)]
 | .ok l=> .tup [.sl (l.map fB) .no, .v (.int .i64 0), .v (.int .i64 0)]
def Gg (s:Txt) (h:Heap) (m:Nat) (ρ:Env) (h' :Heap):Prop:=
 ∃(i f:Nat) (y:AV) (out:List pW) (id:Nat),Acc U 137 h h' y (out.map fB)∧out.length≤i∧i≤s.length∧m=s.length - i∧s.length<f+i∧s.length≤4096∧h id=none∧(∃c0 c1 c2 c3,h' id=some (.obj [c0,c1,c2,c3] 137))∧rI f (s.drop i) i out=qF s∧lk ρ 0=some (.s s)∧lk ρ 5=some y∧lk ρ 6=some (.ptr id 0)∧lk ρ 7=some (.v (.int .i64 i))
theorem B6 (s:Txt) (h:Heap) (he:qs h):ak Tryz.prog 58 [.s s] h fun r h' =>r=JV (qF s)∧h' =h:=by
 refine ak.of_wp hU Tryz.func58 rfl (by kernel_rfl) 52 rfl [.tmp 2, .tmp 3, .tmp 4] rfl (Vz rfl) ?_
 refine .one hU hm ?_;simp only [go_sem];refine WP.IB hU hm 0 (Gg s h) rfl ?_ ?_
 ·rintro m ρ h' ⟨i,f,y,out,id,hy,hoi,hi,rfl,hf,hs,hid,⟨c0,c1,c2,c3,hob⟩,hl,r0,r5,r6,r7⟩
  refine .vc hU hm ?_;cases d1:((i:Int)==(s.length:Int))
  case true=>
   have e1:i=s.length:=by have:(i:Int)=s.length:=(by simpa using d1); omega
   subst e1;obtain ⟨f,rfl⟩:∃g,f=g+1:=⟨f - 1,by omega⟩
   rw [List.drop_length] at hl;simp only [rI] at hl;simp only [go_sem,r0,r5,r7,d1];refine hy.app (zs:= [fB ⟨7,s.length,0,[]⟩]) (by rw [F3]; decide) (by rw [Kk]; decide) (fun k hk=>hk) (by rw [F3]; exact nH out) (by rw [F3]; exact nH [⟨7,s.length,0,[]⟩]) (by rw [Kk]; simp; omega) fun y' h2 hy' hk2=> ?_
   simp only [go_sem];obtain ⟨q,rfl⟩:=hy'.row;refine .mk _ (yN _ _ _ _) hy'.1 ⟨?_,rfl⟩;rw [←hl,JV,List.map_append]; rfl
  have e1:i≠s.length:=by intro e; rw [e] at d1; simp at d1
  have hlt:i<s.length:=by omega
  obtain ⟨f,rfl⟩:∃g,f=g+1:=⟨f - 1,by omega⟩
  have hdr:s.drop i=s[i]::s.drop (i+1):=List.drop_eq_getElem_cons hlt;have w1:=VG i (by omega)
  have hl2:=hl;rw [hdr] at hl2;simp only [rI] at hl2;rw [←hdr] at hl2;have blank:oe s[i]=true→∃m',m' <s.length - i∧True:=fun _=>⟨s.length - (i+1),by omega,trivial⟩
  cases d2:((s[i].toNat:Int)==32)
  case true=>
   have hb:oe s[i]=true:=by simp only [oe,d2,Bool.true_or]
   rw [if_pos hb] at hl2;simp only [go_sem,r0,r7,d1];refine .at i hlt ?_;simp only [go_sem,r7,cw,d2,w1];refine ⟨s.length - (i+1),by omega,i+1,f,y,out,id,hy,by omega,by omega,rfl,by omega,hs,hid,⟨c0,c1,c2,c3,hob⟩,hl2, ?_, ?_, ?_, ?_⟩<;>simp only [go_sem,r0,r5,r6]
  cases d3:((s[i].toNat:Int)==10)
  case true=>
   have hb:oe s[i]=true:=by simp only [oe,d3,Bool.or_true]
   rw [if_pos hb] at hl2;simp only [go_sem,r0,r7,d1];refine .at i hlt ?_;simp only [go_sem,r0,r7,cw,d2];refine .at i hlt ?_;simp only [go_sem,r7,cw,d3,w1];refine ⟨s.length - (i+1),by omega,i+1,f,y,out,id,hy,by omega,by omega,rfl,by omega,hs,hid,⟨c0,c1,c2,c3,hob⟩,hl2, ?_, ?_, ?_, ?_⟩<;>simp only [go_sem,r0,r5,r6]
  have hb:¬oe s[i]=true:=by simp only [oe,d2,d3]; decide
  rw [if_neg hb] at hl2;have hne:s.drop i≠ []:=fun e=>by have:=congrArg List.length e; simp at this; omega
  have hle:=qu (s.drop i) hne;have hdl:(s.drop i).length=s.length - i:=by simp
  have hbo:=fun hh eh=>Ew (s.drop i) hne (by omega) hh eh
  obtain ⟨t,n,etn⟩:∃t n,bO (s.drop i)=(t,n):=⟨_,_,rfl⟩;rw [etn] at hbo hl2 hle;simp only [fB] at hbo hl2 hle;simp only [go_sem,r0,r7,d1];refine .at i hlt ?_;simp only [go_sem,r0,r7,cw,d2];refine .at i hlt ?_;simp only [go_sem,r0,r7,cw,d3,kG,Option.isSome_none,Option.isSome_some,Int.toNat_natCast];refine ⟨by omega,by omega,by omega, ?_⟩
  refine (hbo _ (he.sub hy.1)).pthen ?_;cases d4:((n:Int)==0)
  case true=>
   have e4:n=0:=by have:(n:Int)=0:=(by simpa using d4); omega
   rw [if_pos e4] at hl2;simp only [go_sem,r6,r7,hob,d4];refine .mk _ (yN _ _ _ _) (hy.1.put hid _) ⟨?_,rfl⟩;rw [←hl2]; rfl
  have e4:n≠0:=by intro e; rw [e] at d4; simp at d4
  rw [if_neg e4] at hl2;have w2:IntKind.i64.wrap ((i:Int)+(n:Int))=((i+n:Nat):Int):=by rw [bu _ (by omega)]; omega
  simp only [go_sem,r5,r6,r7,hob,d4];refine (hy.put hid hob _).app (zs:= [fB {t with pos:=i}]) (by rw [F3]; decide) (by rw [Kk]; decide) (fun k hk=>hk) (by rw [F3]; exact nH out) (by rw [F3]; exact nH [{t with pos:=i}]) (by rw [Kk]; simp; omega) fun y' h2 hy' hk2=> ?_
  simp only [go_sem,r7,w2];refine ⟨s.length - (i+n),by omega,i+n,f,y',out++ [{t with pos:=i}],id,by simpa using hy',by simp; omega,by omega,rfl,by omega,hs,hid,⟨_,_,_,_,hk2 _ _ _ (ah ..)⟩, ?_, ?_, ?_, ?_, ?_⟩
  ·rw [List.drop_drop] at hl2; exact hl2
  all_goals simp only [go_sem,r0,r6]
 ·intro nx
  cases d0:decide (4096<(s.length:Int))
  case true=>
   have e0:s.length>4096:=by have:=VC d0; omega
   refine .one hU hm ?_;simp only [go_sem,d0];exact .mk (.tup [.sl [] .no, .v (.int .i64 6), .v (.int .i64 4096)]) (fk (.tup [.sl [] .full, .v (.int .i64 6), .v (.int .i64 4096)])) (.refl _) ⟨by rw [qF,if_pos e0]; rfl,rfl⟩
  have e0:¬s.length>4096:=by have:=VD d0; omega
  refine .one hU hm ?_;simp only [go_sem,d0];refine .one hU hm ?_;simp only [go_sem];refine .one hU hm ?_;simp only [go_sem];intro id hid;simp only [go_sem];refine .one hU hm ?_;simp only [go_sem];refine .one hU hm ?_;simp only [go_sem];refine nx (s.length - 0) _ _ ⟨0,s.length+1,_,[],id, .full (.ai hid),by simp,by omega,rfl,by omega,by omega,hid,⟨_,_,_,_,ah ..⟩,by rw [qF,if_neg e0]; rfl, ?_, ?_, ?_, ?_⟩<;>simp only [go_sem]
def PO (st:PS):Blk:= .obj [.sl (st.ts.map fB) .no, .v (.int .i64 st.pos), .v (.int .i64 st.rules), .v (.int .i64 st.bad), .v (.int .i64 st.place)] 134
def PC (f:FuncId) (args:List AV) (st:PS) (R:AV) (st' :PS):Prop:=∀(h:Heap) (id:Nat),h id=some (PO st)→ak Tryz.prog f (.ptr id 0::args) h fun r h' =>r=R∧h' =upd h id (some (PO st'))
theorem PC.go {f:FuncId} {args:List AV} {st st' :PS} {R:AV} (hc:PC f args st R st') {h:Heap} {id:Nat} {Q:AV→Heap→Prop} (hid:h id=some (PO st)) (k:Q R (upd h id (some (PO st')))):ak Tryz.prog f (.ptr id 0::args) h Q:=
 (hc h id hid).mono fun r h' ⟨e1,e2⟩=>by subst e1; subst e2; exact k
theorem bZ {h:Heap} {id:Nat} {b:Option Blk} (e:h id=b):upd h id b=h:=by
 funext j
 by_cases hj:j=id
 ·subst hj; rw [ah,e]
 ·rw [ag _ _ hj]
theorem pI (st:PS) (e p:Int):PC 62 [.v (.int .i64 e), .v (.int .i64 p)] st (.tup []) (bD st e p):=fun h id hid=>by
 refine ak.body hU hm Tryz.func62 rfl (by kernel_rfl) 19 rfl [] rfl (Vz rfl) (fun hwf=> ?_)
 have g:=hid;unfold PO at g;cases d1:(st.bad==0)
 ·have e1:st.bad≠0:=by simpa using d1
  simp only [go_sem,g,d1];exact .mk _ (.refl _) (.refl _) ⟨rfl,by rw [bD,if_neg e1,bZ hid]⟩
 ·have e1:st.bad=0:=by simpa using d1
  simp only [go_sem,g,d1];exact .mk _ (.refl _) (.refl _) ⟨rfl,by rw [bD,if_pos e1]; rfl⟩
theorem kM (st:PS) (hw:WfP st):PC 60 [] st (fB (aJ st)) st:=fun h id hid=>by
 refine ak.body hU hm Tryz.func60 rfl (by kernel_rfl) 13 rfl [.cell 2 137] rfl (Vz rfl) (fun hwf=> ?_)
 have g:=hid;unfold PO at g;simp only [go_sem];intro i2 hi2;have n2:id≠i2:=fun e=>by rw [e,hi2] at hid; cases hid
 simp only [go_sem,g,aj,n2];refine ⟨.of (by kernel_rfl), ?_⟩
 refine .at st.pos (by simpa using hw.1) (by rw [VB]; rfl) ?_
 simp only [go_sem,VB,fB];refine .mk _ (.refl _) (.ai hi2) ⟨by rw [AQ hw.1]; rfl,(bZ hid).symm⟩
theorem j8 (st:PS) (hw:WfP st):PC 61 [] st (.tup []) (bk st):=fun h id hid=>by
 refine ak.body hU hm Tryz.func61 rfl (by kernel_rfl) 7 rfl [] rfl (Vz rfl) (fun hwf=> ?_)
 simp only [go_sem];refine (kM st hw).go hid ?_;rw [bZ hid];simp only [go_sem,fB];refine (pI st 5 _).go hid ?_;simp only [go_sem];exact .mk _ (.refl _) (.refl _) ⟨rfl,rfl⟩
theorem cK (st:PS) (b:Bool) (hw:WfP st):PC 132 [.v (.bool b)] st (.tup []) (bF st b):=fun h id hid=>by
 refine ak.body hU hm Tryz.func132 rfl (by kernel_rfl) 10 rfl [] rfl (Vz rfl) (fun hwf=> ?_)
 cases b
 ·simp only [go_sem]
  exact .mk _ (.refl _) (.refl _) ⟨rfl,(bZ hid).symm⟩
 simp only [go_sem];refine (kM st hw).go hid ?_;rw [bZ hid];simp only [go_sem,fB];refine (pI st 6 _).go hid ?_;simp only [go_sem];exact .mk _ (.refl _) (.refl _) ⟨rfl,rfl⟩
theorem rF (st:PS) (s:Txt) (hw:WfP st):PC 133 [.s s] st (.v (.bool (isD st s))) st:=fun h id hid=>by
 refine ak.body hU hm Tryz.func133 rfl (by kernel_rfl) 29 rfl [.tmp 4] rfl (Vz rfl) (fun hwf=> ?_)
 have g:=hid;unfold PO at g;simp only [go_sem];refine (kM st hw).go hid ?_;rw [bZ hid];simp only [go_sem,fB];intro i2 hi2;have n2:id≠i2:=fun e=>by rw [e,hi2] at hid; cases hid
 cases d1:(st.bad==0)<;>cases d2:((aJ st).s==s)<;>cases d3:((aJ st).kind==1)<;>cases d4:((aJ st).kind==6)
 all_goals
  simp only [go_sem,g,aj,n2,d1,d2,d3,d4];exact .mk _ (.refl _) (.ai hi2) ⟨by simp only [isD,d1,d2,d3,d4]; rfl,rfl⟩
theorem jt (st:PS) (s:Txt) (hw:WfP st):PC 130 [.s s] st (.v (.bool (cp st s).1)) (cp st s).2:=fun h id hid=>by
 refine ak.body hU hm Tryz.func130 rfl (by kernel_rfl) 18 rfl [.tmp 4] rfl (Vz rfl) (fun hwf=> ?_)
 have g:=hid;unfold PO at g;simp only [go_sem];refine (rF st s hw).go hid ?_;rw [bZ hid];cases d1:isD st s
 ·have e:cp st s=(false,st):=by simp [cp,d1]
  simp only [go_sem];exact .mk _ (.refl _) (.refl _) ⟨by rw [e]; rfl,by rw [e,bZ hid]⟩
 ·have e:cp st s=(true,aZ st):=by simp [cp,d1]
  have w1:IntKind.i64.wrap ((st.pos:Int)+1)=((st.pos+1:Nat):Int):=by have:=hw.1; have:=hw.2.2; rw [bu _ (by omega)]; omega
  simp only [go_sem,g,w1];exact .mk _ (.refl _) (.refl _) ⟨by rw [e]; rfl,by rw [e]; rfl⟩
theorem jO (st:PS) (s:Txt) (hw:WfP st):PC 99 [.s s] st (.tup []) (dP st s):=fun h id hid=>by
 refine ak.body hU hm Tryz.func99 rfl (by kernel_rfl) 10 rfl [] rfl (Vz rfl) (fun hwf=> ?_)
 simp only [go_sem];refine (jt st s hw).go hid ?_;cases d1:isD st s
 ·have e:cp st s=(false,st):=by simp [cp,d1]
  rw [e,bZ hid];simp only [go_sem];refine (j8 st hw).go hid ?_;simp only [go_sem];exact .mk _ (.refl _) (.refl _) ⟨rfl,by simp [dP,d1]⟩
 ·have e:cp st s=(true,aZ st):=by simp [cp,d1]
  rw [e];simp only [go_sem];exact .mk _ (.refl _) (.refl _) ⟨rfl,by simp [dP,d1]⟩
theorem rT (st:PS) (hw:WfP st):PC 97 [] st (.s (cm st).1) (cm st).2:=fun h id hid=>by
 refine ak.body hU hm Tryz.func97 rfl (by kernel_rfl) 25 rfl [.tmp 2] rfl (Vz rfl) (fun hwf=> ?_)
 have g:=hid;unfold PO at g;have w1:IntKind.i64.wrap ((st.pos:Int)+1)=((st.pos+1:Nat):Int):=by have:=hw.1; have:=hw.2.2; rw [bu _ (by omega)]; omega
 simp only [go_sem];refine (kM st hw).go hid ?_;rw [bZ hid];simp only [go_sem,fB];intro i2 hi2;have n2:id≠i2:=fun e=>by rw [e,hi2] at hid; cases hid
 cases d1:((aJ st).kind !=1)
 case true=>
  have e1:(aJ st).kind≠1:=by simpa using d1
  have en:cm st=([],bk st):=by simp [cm,e1]
  simp only [go_sem,d1];have hid2:upd h i2 (some (.obj [.v (.int .i64 (aJ st).kind), .v (.int .i64 (aJ st).pos), .v (.int .i64 (aJ st).n), .s (aJ st).s] 137)) id=some (PO st):=by rw [ag _ _ n2]; exact hid
  refine (j8 st hw).go hid2 ?_;have hb:(bk st).bad≠0:=by
   unfold bk bD; split
   ·show (5:Int)≠0; decide
   ·assumption
  have d2:((bk st).bad !=0)=true:=by simpa using hb
  simp only [go_sem,PO,d2];exact .mk _ (.refl _) (Sub.both (.ai hi2) _ _) ⟨by rw [en]; rfl,by rw [en]; try rfl⟩
 have e1:(aJ st).kind=1:=by simpa using d1
 cases d2:(st.bad !=0)
 case true=>
  have e2:st.bad≠0:=by simpa using d2
  have en:cm st=([],st):=by simp [cm,e1,e2]
  simp only [go_sem,g,aj,n2,d1,d2];exact .mk _ (.refl _) (.ai hi2) ⟨by rw [en]; rfl,by rw [en]; exact (bZ hid).symm⟩
 have e2:st.bad=0:=by simpa using d2
 have en:cm st=((aJ st).s,aZ st):=by simp [cm,e1,e2]
 simp only [go_sem,g,aj,n2,n2.symm,d1,d2,w1];exact .mk _ (.refl _) (Sub.both (.ai hi2) _ _) ⟨by rw [en]; rfl,by rw [en]; try rfl⟩
theorem PC.run {f:FuncId} {args:List AV} {st st' :PS} {R:AV} (hc:PC f args st R st') {G:Heap} {id:Nat} {Q:AV→Heap→Prop} (k:Q R (upd G id (some (PO st')))):ak Tryz.prog f (.ptr id 0::args) (upd G id (some (PO st))) Q:=
 hc.go (ah ..) (by rw [nI]; exact k)
theorem PC.of {f:FuncId} {args:List AV} {st st' :PS} {R:AV} (hk:∀(G:Heap) (id:Nat),ak Tryz.prog f (.ptr id 0::args) (upd G id (some (PO st))) fun r h' =>r=R∧h' =upd G id (some (PO st'))):PC f args st R st' :=fun h id hid=>by
 have:=hk h id;rw [bZ hid] at this;exact this
theorem cq {α:Type} (f:Nat→α) {i j:Nat} (x y:α) (h:i≠j):upd (upd f i x) j y=upd (upd f j y) i x:=by
 funext k
 by_cases hi:k=i
 ·subst hi; rw [ag _ _ h,ah,ah]
 ·by_cases hj:k=j
  ·subst hj; rw [ah,ag _ _ hi,ah]
  ·rw [ag _ _ hj,ag _ _ hi,ag _ _ hi,ag _ _ hj]
theorem zv {s:Txt}:∀ {ws:List Txt} {i:Nat},sE s ws=some i→i<ws.length
 |w::r,i,h=>by
  simp only [sE] at h;split at h
  ·cases h; simp
  ·cases hr:sE s r with
   |none=>rw [hr] at h; cases h
   |some j=>rw [hr] at h; cases h; have:=zv hr; simp; omega
theorem DT {s:Txt}:∀ {ws:List Txt} (i:Nat) (hi:i<ws.length),(∀j (hj:j<ws.length),j<i→ws[j]≠s)→ws[i]=s→sE s ws=some i
 |w::r,0,_,_,h=>by simp only [List.getElem_cons_zero] at h; simp [sE,h]
 |w::r,i+1,hi,hb,h=>by
  have h0:=hb 0 (by simp) (by omega)
  simp only [List.getElem_cons_zero] at h0;simp only [sE,if_neg h0];rw [DT i (by simpa using hi) (fun j hj hlt=>by have:=hb (j+1) (by simpa using hj) (by omega); simpa using this) (by simpa using h)]
  rfl
theorem ya {s:Txt}:∀ {ws:List Txt},(∀j (hj:j<ws.length),ws[j]≠s)→sE s ws=none
 | [],_=>rfl
 |w::r,hb=>by
  have h0:=hb 0 (by simp)
  simp only [List.getElem_cons_zero] at h0;simp only [sE,if_neg h0];rw [ya (fun j hj=>by have:=hb (j+1) (by simpa using hj); simpa using this)]
  rfl
def L7 (o:Option Nat):Int:=match o with
 |some i=>i
 |none=> -1
theorem Ff (ws:List Txt) (q:Perm) (s:Txt) (hl:ws.length≤1000) (h:Heap):ak Tryz.prog 129 [.sl (ws.map AV.s) q, .s s] h fun r h' =>r= .v (.int .i64 (L7 (sE s ws)))∧h' =h:=by
 refine ak.body hU hm Tryz.func129 rfl (by kernel_rfl) 19 rfl [.tmp 4] rfl (Vz rfl) (fun hwf=> ?_)
 simp only [go_sem,VA];refine .intro (fun m ρ h' =>h' =h∧∃i:Nat,i≤ws.length∧m=ws.length - i∧(∀j (hj:j<ws.length),j<i→ws[j]≠s)∧lk ρ 0=some (.sl (ws.map AV.s) q)∧lk ρ 1=some (.s s)∧lk ρ 7=some (.v (.int .i64 ws.length))∧lk ρ 8=some (.v (.int .i64 i))) ws.length ?_ ?_
 ·refine ⟨rfl,0,by omega,rfl,fun j _ hj=>(by omega), ?_, ?_, ?_, ?_⟩<;>simp only [go_sem]
 ·rintro m ρ h' ⟨rfl,i,hi,rfl,hc,r0,r1,r7,r8⟩
  simp only [go_sem,r7,r8];refine .intro (fun e=> ?_) (fun e=> ?_)
  ·have hlt:i<ws.length:=VH e
   have w1:=VG i (by omega)
   simp only [go_sem,r0,r1,r8];refine .at i (by simpa using hlt) (by rw [VB]; rfl) ?_
   cases d1:(s==ws[i])
   ·have e1:ws[i]≠s:=by intro e; rw [e] at d1; simp at d1
    simp only [go_sem,r8,VB,d1,w1];refine ⟨_, ?_,rfl,i+1,by omega,rfl,fun j hj hji=> ?_, ?_, ?_, ?_, ?_⟩
    ·omega
    ·by_cases e:j=i
     ·subst e; exact e1
     ·exact hc j hj (by omega)
    all_goals simp only [go_sem,r0,r1,r7]
   ·have e1:ws[i]=s:=by have:s=ws[i]:=(by simpa using d1); exact this.symm
    simp only [go_sem,VB,d1];exact .same (.refl _) ⟨by rw [DT i hlt hc e1]; rfl,rfl⟩
  ·have hge:i=ws.length:=by have:=VD e; omega
   subst hge;simp only [go_sem];exact .same (.refl _) ⟨by rw [ya fun j hj=>hc j hj hj]; rfl,rfl⟩
theorem mu (st:PS) (ws:List Txt) (q:Perm) (hl:ws.length≤1000) (hw:WfP st):PC 96 [.sl (ws.map AV.s) q] st (.v (.int .i64 (aY st ws).1)) (aY st ws).2:= .of fun G id=>by
 refine ak.body hU hm Tryz.func96 rfl (by kernel_rfl) 28 rfl [.tmp 4] rfl (Vz rfl) (fun hwf=> ?_)
 simp only [go_sem];refine (kM st hw).run ?_;simp only [go_sem,fB];intro i2 hi2;have n2:=aE hi2;have hG2:G i2=none:=by rw [ag _ _ n2] at hi2; exact hi2
 have c2:∀(f:Heap) (x y:Option Blk),upd (upd f id x) i2 y=upd (upd f i2 y) id x:=fun f x y=>cq f x y n2.symm
 cases d1:((aJ st).kind==1)
 ·have e1:(aJ st).kind≠1:=by simpa using d1
  have en:aY st ws=(0,bk st):=by unfold aY; split<;>simp [e1]
  simp only [go_sem,c2,aj,n2,d1];refine (j8 st hw).run ?_;simp only [go_sem];exact .mk _ (.refl _) (Sub.both (.ai hG2) _ _) ⟨by rw [en]; rfl,by rw [en]⟩
 have e1:(aJ st).kind=1:=by simpa using d1
 simp only [go_sem,c2,aj,n2,d1];refine (Ff ws q _ hl _).pthen ?_;cases ei:sE (aJ st).s ws with
 |none=>
  have en:aY st ws=(0,bk st):=by simp [aY,ei]
  have dm:decide ((0:Int)≤ -1)=false:=by decide
  simp only [go_sem,L7,dm];refine (j8 st hw).run ?_;simp only [go_sem];exact .mk _ (.refl _) (Sub.both (.ai hG2) _ _) ⟨by rw [en]; rfl,by rw [en]⟩
 |some i=>
  have hil:=zv ei;have d2:decide (0≤(i:Int))=true:=by simp
  have w1:IntKind.i64.wrap ((i:Int)+1)=((i:Int)+1):=by rw [bu _ (by omega)]
  simp only [go_sem,L7,d2,aj,n2];refine (jt st _ hw).run ?_;cases d3:(st.bad==0)
  ·have e3:st.bad≠0:=by simpa using d3
   have et:cp st (aJ st).s=(false,st):=by simp [cp,isD,d3]
   have en:aY st ws=(0,bk st):=by simp [aY,ei,e3]
   rw [et];simp only [go_sem];refine (j8 st hw).run ?_;simp only [go_sem];exact .mk _ (.refl _) (Sub.both (.ai hG2) _ _) ⟨by rw [en]; rfl,by rw [en]⟩
  ·have e3:st.bad=0:=by simpa using d3
   have et:cp st (aJ st).s=(true,aZ st):=by simp [cp,isD,e3,e1]
   have en:aY st ws=((i:Int)+1,aZ st):=by simp [aY,ei,e3,e1]
   rw [et];simp only [go_sem,w1];exact .mk _ (.refl _) (Sub.both (.ai hG2) _ _) ⟨by rw [en]; rfl,by rw [en]⟩
theorem Gx (st:PS) (hw:WfP st):PC 207 [] st (zZ (fK st).1) (fK st).2:= .of fun G id=>by
 have h1:=gj tC hw;have h2:=iM [46] h1.1;have h3:=lJ h2.1;refine ak.body hU hm Tryz.func207 rfl (by kernel_rfl) 17 rfl [.cell 2 214] rfl (Vz rfl) (fun hwf=> ?_)
 simp only [go_sem];intro i2 hi2;have n2:=aE hi2;have hG2:G i2=none:=by rw [ag _ _ n2] at hi2; exact hi2
 have c2:∀(f:Heap) (x y:Option Blk),upd (upd f id x) i2 y=upd (upd f i2 y) id x:=fun f x y=>cq f x y n2.symm
 simp only [go_sem,c2];intro i3 hi3;have n3:=aE hi3;have hi3' :=hi3;rw [ag _ _ n3] at hi3';have n32:=aE hi3';have hG3:G i3=none:=by rw [ag _ _ n32] at hi3'; exact hi3'
 have c3:∀(f:Heap) (x y:Option Blk),upd (upd f id x) i3 y=upd (upd f i3 y) id x:=fun f x y=>cq f x y n3.symm
 have c23:∀(f:Heap) (x y:Option Blk),upd (upd f i3 x) i2 y=upd (upd f i2 y) i3 x:=fun f x y=>cq f x y n32
 have m32:¬i3=i2:=n32;have m23:¬i2=i3:=n32.symm;simp only [go_sem,c3];refine (mu st tC .full (by decide) hw).run ?_
 simp only [go_sem,c3,aj,n3];refine (jO _ [46] h1.1).run ?_;simp only [go_sem];refine (rT _ h2.1).run ?_;simp only [go_sem,c3,aj,n3];refine (jt _ [33] h3.1).run ?_;simp only [go_sem,c2,c3,c23,aj,n2,n3,m23];exact .mk _ (.refl _) (Sub.both (by repeat (first|exact .refl _|refine Sub.put ?_ (by assumption) _)) _ _) ⟨rfl,rfl⟩
set_option maxRecDepth 20000 in
theorem sn (st:PS) (hw:WfP st):PC 208 [] st (aV (aD st).1) (aD st).2:= .of fun G id=>by
 refine ak.body hU hm Tryz.func208 rfl (by kernel_rfl) 56 rfl [.cell 2 24] rfl (Vz rfl) (fun hwf=> ?_)
 have w1:IntKind.i64.wrap ((st.pos:Int)+1)=((st.pos+1:Nat):Int):=by have:=hw.1; have:=hw.2.2; rw [bu _ (by omega)]; omega
 simp only [go_sem];intro i2 hi2;have n2:=aE hi2;have hG2:G i2=none:=by rw [ag _ _ n2] at hi2; exact hi2
 have c2:∀(f:Heap) (x y:Option Blk),upd (upd f id x) i2 y=upd (upd f i2 y) id x:=fun f x y=>cq f x y n2.symm
 simp only [go_sem,c2];refine (kM st hw).run ?_;simp only [go_sem,fB];intro i3 hi3;have n3:=aE hi3;have hi3' :=hi3;rw [ag _ _ n3] at hi3';have n32:=aE hi3';have hG3:G i3=none:=by rw [ag _ _ n32] at hi3'; exact hi3'
 have c3:∀(f:Heap) (x y:Option Blk),upd (upd f id x) i3 y=upd (upd f i3 y) id x:=fun f x y=>cq f x y n3.symm
 have c23:∀(f:Heap) (x y:Option Blk),upd (upd f i3 x) i2 y=upd (upd f i2 y) i3 x:=fun f x y=>cq f x y n32
 have m32:¬i3=i2:=n32;have m23:¬i2=i3:=n32.symm;simp only [go_sem,c3,aj,n3];intro i4 hi4;have n4:=aE hi4;have hi4' :=hi4;rw [ag _ _ n4] at hi4';have n43:=aE hi4';have hi4'' :=hi4';rw [ag _ _ n43] at hi4'';have n42:=aE hi4'';have hG4:G i4=none:=by rw [ag _ _ n42] at hi4''; exact hi4''
 have c4:∀(f:Heap) (x y:Option Blk),upd (upd f id x) i4 y=upd (upd f i4 y) id x:=fun f x y=>cq f x y n4.symm
 have c24:∀(f:Heap) (x y:Option Blk),upd (upd f i4 x) i2 y=upd (upd f i2 y) i4 x:=fun f x y=>cq f x y n42
 have c34:∀(f:Heap) (x y:Option Blk),upd (upd f i4 x) i3 y=upd (upd f i3 y) i4 x:=fun f x y=>cq f x y n43
 have m42:¬i4=i2:=n42;have m24:¬i2=i4:=n42.symm;have m43:¬i4=i3:=n43;have m34:¬i3=i4:=n43.symm;cases k2:((aJ st).kind==2)
 case true=>
  have e2:(aJ st).kind=2:=by simpa using k2
  have ev:fJ st=(⟨2,(aJ st).n,(aJ st).s⟩,st):=by simp [fJ,e2]
  cases kb:(st.bad !=0)
  ·have eb:st.bad=0:=by simpa using kb
   have en:aD st=(⟨2,(aJ st).n,(aJ st).s⟩,aZ st):=by simp [aD,ev,eb]
   simp only [go_sem,c2,c4,c23,c24,aj,n2,n3,n4,m23,m24,m34,k2,PO,kb,w1];exact .mk (h' :=upd G id (some (PO (aD st).2))) _ (.refl _) (by rw [en]; exact Sub.both (by repeat (first|exact .refl _|refine Sub.put ?_ (by assumption) _)) _ _) ⟨by rw [en]; rfl,rfl⟩
  ·have eb:st.bad≠0:=by simpa using kb
   have en:aD st=(⟨0,0,[]⟩,st):=by simp [aD,ev,eb]
   simp only [go_sem,c2,c4,c23,c24,aj,n2,n3,n4,m23,m24,m34,k2,PO,kb];exact .mk (h' :=upd G id (some (PO (aD st).2))) _ (.refl _) (by rw [en]; exact Sub.both (by repeat (first|exact .refl _|refine Sub.put ?_ (by assumption) _)) _ _) ⟨by rw [en]; rfl,rfl⟩
 have e2:(aJ st).kind≠2:=by simpa using k2
 cases k3:((aJ st).kind==3)
 case true=>
  have e3:(aJ st).kind=3:=by simpa using k3
  have ev:fJ st=(⟨4,(aJ st).n,(aJ st).s⟩,st):=by simp [fJ,e3]
  cases kb:(st.bad !=0)
  ·have eb:st.bad=0:=by simpa using kb
   have en:aD st=(⟨4,(aJ st).n,(aJ st).s⟩,aZ st):=by simp [aD,ev,eb]
   simp only [go_sem,c2,c4,c23,c24,aj,n2,n3,n4,m23,m24,m34,k2,k3,PO,kb,w1];exact .mk (h' :=upd G id (some (PO (aD st).2))) _ (.refl _) (by rw [en]; exact Sub.both (by repeat (first|exact .refl _|refine Sub.put ?_ (by assumption) _)) _ _) ⟨by rw [en]; rfl,rfl⟩
  ·have eb:st.bad≠0:=by simpa using kb
   have en:aD st=(⟨0,0,[]⟩,st):=by simp [aD,ev,eb]
   simp only [go_sem,c2,c4,c23,c24,aj,n2,n3,n4,m23,m24,m34,k2,k3,PO,kb];exact .mk (h' :=upd G id (some (PO (aD st).2))) _ (.refl _) (by rw [en]; exact Sub.both (by repeat (first|exact .refl _|refine Sub.put ?_ (by assumption) _)) _ _) ⟨by rw [en]; rfl,rfl⟩
 have e3:(aJ st).kind≠3:=by simpa using k3
 cases k4:((aJ st).kind==4)
 case true=>
  have e4:(aJ st).kind=4:=by simpa using k4
  have ev:fJ st=(⟨5,(aJ st).n,(aJ st).s⟩,st):=by simp [fJ,e4]
  cases kb:(st.bad !=0)
  ·have eb:st.bad=0:=by simpa using kb
   have en:aD st=(⟨5,(aJ st).n,(aJ st).s⟩,aZ st):=by simp [aD,ev,eb]
   simp only [go_sem,c2,c4,c23,c24,aj,n2,n3,n4,m23,m24,m34,k2,k3,k4,PO,kb,w1];exact .mk (h' :=upd G id (some (PO (aD st).2))) _ (.refl _) (by rw [en]; exact Sub.both (by repeat (first|exact .refl _|refine Sub.put ?_ (by assumption) _)) _ _) ⟨by rw [en]; rfl,rfl⟩
  ·have eb:st.bad≠0:=by simpa using kb
   have en:aD st=(⟨0,0,[]⟩,st):=by simp [aD,ev,eb]
   simp only [go_sem,c2,c4,c23,c24,aj,n2,n3,n4,m23,m24,m34,k2,k3,k4,PO,kb];exact .mk (h' :=upd G id (some (PO (aD st).2))) _ (.refl _) (by rw [en]; exact Sub.both (by repeat (first|exact .refl _|refine Sub.put ?_ (by assumption) _)) _ _) ⟨by rw [en]; rfl,rfl⟩
 have e4:(aJ st).kind≠4:=by simpa using k4
 cases k5:((aJ st).kind==5)
 case true=>
  have e5:(aJ st).kind=5:=by simpa using k5
  have ev:fJ st=(⟨3,(aJ st).n,(aJ st).s⟩,st):=by simp [fJ,e5]
  cases kb:(st.bad !=0)
  ·have eb:st.bad=0:=by simpa using kb
   have en:aD st=(⟨3,(aJ st).n,(aJ st).s⟩,aZ st):=by simp [aD,ev,eb]
   simp only [go_sem,c2,c4,c23,c24,aj,n2,n3,n4,m23,m24,m34,k2,k3,k4,k5,PO,kb,w1];exact .mk (h' :=upd G id (some (PO (aD st).2))) _ (.refl _) (by rw [en]; exact Sub.both (by repeat (first|exact .refl _|refine Sub.put ?_ (by assumption) _)) _ _) ⟨by rw [en]; rfl,rfl⟩
  ·have eb:st.bad≠0:=by simpa using kb
   have en:aD st=(⟨0,0,[]⟩,st):=by simp [aD,ev,eb]
   simp only [go_sem,c2,c4,c23,c24,aj,n2,n3,n4,m23,m24,m34,k2,k3,k4,k5,PO,kb];exact .mk (h' :=upd G id (some (PO (aD st).2))) _ (.refl _) (by rw [en]; exact Sub.both (by repeat (first|exact .refl _|refine Sub.put ?_ (by assumption) _)) _ _) ⟨by rw [en]; rfl,rfl⟩
 have e5:(aJ st).kind≠5:=by simpa using k5
 simp only [go_sem,c4,aj,n3,n4,m34,k2,k3,k4,k5];refine (rF st um hw).run ?_;cases kt:isD st um
 case true=>
  have ev:fJ st=(⟨1,1,[]⟩,st):=by simp [fJ,e2,e3,e4,e5,kt]
  cases kb:(st.bad !=0)
  ·have eb:st.bad=0:=by simpa using kb
   have en:aD st=(⟨1,1,[]⟩,aZ st):=by simp [aD,ev,eb]
   simp only [go_sem,c2,c4,c23,c24,aj,n2,n4,m23,m24,PO,kb,w1];exact .mk (h' :=upd G id (some (PO (aD st).2))) _ (.refl _) (by rw [en]; exact Sub.both (by repeat (first|exact .refl _|refine Sub.put ?_ (by assumption) _)) _ _) ⟨by rw [en]; rfl,rfl⟩
  ·have eb:st.bad≠0:=by simpa using kb
   have en:aD st=(⟨0,0,[]⟩,st):=by simp [aD,ev,eb]
   simp only [go_sem,c2,c4,c23,c24,aj,n2,n4,m23,m24,PO,kb];exact .mk (h' :=upd G id (some (PO (aD st).2))) _ (.refl _) (by rw [en]; exact Sub.both (by repeat (first|exact .refl _|refine Sub.put ?_ (by assumption) _)) _ _) ⟨by rw [en]; rfl,rfl⟩
 simp only [go_sem];refine (rF st oC hw).run ?_;cases kf:isD st oC
 case true=>
  have ev:fJ st=(⟨1,0,[]⟩,st):=by simp [fJ,e2,e3,e4,e5,kt,kf]
  cases kb:(st.bad !=0)
  ·have eb:st.bad=0:=by simpa using kb
   have en:aD st=(⟨1,0,[]⟩,aZ st):=by simp [aD,ev,eb]
   simp only [go_sem,c2,c4,c23,c24,aj,n2,n4,m23,m24,PO,kb,w1];exact .mk (h' :=upd G id (some (PO (aD st).2))) _ (.refl _) (by rw [en]; exact Sub.both (by repeat (first|exact .refl _|refine Sub.put ?_ (by assumption) _)) _ _) ⟨by rw [en]; rfl,rfl⟩
  ·have eb:st.bad≠0:=by simpa using kb
   have en:aD st=(⟨0,0,[]⟩,st):=by simp [aD,ev,eb]
   simp only [go_sem,c2,c4,c23,c24,aj,n2,n4,m23,m24,PO,kb];exact .mk (h' :=upd G id (some (PO (aD st).2))) _ (.refl _) (by rw [en]; exact Sub.both (by repeat (first|exact .refl _|refine Sub.put ?_ (by assumption) _)) _ _) ⟨by rw [en]; rfl,rfl⟩
 have ev:fJ st=(⟨0,(aJ st).n,(aJ st).s⟩,bk st):=by simp [fJ,e2,e3,e4,e5,kt,kf]
 have en:aD st=(⟨0,0,[]⟩,bk st):=by simp [aD,ev,pT]
 have kb:((bk st).bad !=0)=true:=by simpa using pT st
 simp only [go_sem];refine (j8 st hw).run ?_;simp only [go_sem,c2,c23,c24,aj,n2,m23,m24,PO,kb];exact .mk (h' :=upd G id (some (PO (aD st).2))) _ (.refl _) (by rw [en]; exact Sub.both (by repeat (first|exact .refl _|refine Sub.put ?_ (by assumption) _)) _ _) ⟨by rw [en]; rfl,rfl⟩
def rM:List Txt:= [[61],[60],[62]]
theorem Mt {st:PS} (i:Nat) (hi:i<rM.length) (hb:∀j (hj:j<rM.length),j<i→isD st rM[j]=false) (h:isD st rM[i]=true):opP st=((i:Int)+1,aZ st):=by
 have h3:i<3:=hi;rcases (by omega:i=0∨i=1∨i=2) with rfl|rfl|rfl
 ·simp only [opP,show isD st [61]=true from h,if_true]; rfl
 ·simp only [opP,show isD st [61]=false from hb 0 (by decide) (by decide),show isD st [60]=true from h,if_true]; rfl
 ·simp only [opP,show isD st [61]=false from hb 0 (by decide) (by decide),show isD st [60]=false from hb 1 (by decide) (by decide),show isD st [62]=true from h,if_true]; rfl
theorem HS {st:PS} (hb:∀j (hj:j<rM.length),isD st rM[j]=false):opP st=(0,bk st):=by
 simp only [opP,show isD st [61]=false from hb 0 (by decide),show isD st [60]=false from hb 1 (by decide),show isD st [62]=false from hb 2 (by decide)]; rfl
set_option maxRecDepth 20000 in
theorem DY (st:PS) (hw:WfP st):PC 188 [] st (dG (ga st).1) (ga st).2:= .of fun G id=>by
 have h1:=yZ hw;obtain ⟨a,st1,e1⟩:∃a st1,fK st=(a,st1):=⟨_,_,rfl⟩;have hat:=Gx st hw;rw [e1] at h1 hat;simp only at h1 hat;refine ak.body hU hm Tryz.func188 rfl (by kernel_rfl) 32 rfl [.cell 2 216] rfl (Vz rfl) (fun hwf=> ?_)
 simp only [go_sem];intro i2 hi2;have n2:=aE hi2;have hG2:G i2=none:=by rw [ag _ _ n2] at hi2; exact hi2
 have c2:∀(f:Heap) (x y:Option Blk),upd (upd f id x) i2 y=upd (upd f i2 y) id x:=fun f x y=>cq f x y n2.symm
 simp only [go_sem,c2];refine hat.run ?_;simp only [go_sem,zZ];intro i3 hi3;have n3:=aE hi3;have hi3' :=hi3;rw [ag _ _ n3] at hi3';have n32:=aE hi3';have hG3:G i3=none:=by rw [ag _ _ n32] at hi3'; exact hi3'
 have c3:∀(f:Heap) (x y:Option Blk),upd (upd f id x) i3 y=upd (upd f i3 y) id x:=fun f x y=>cq f x y n3.symm
 have c23:∀(f:Heap) (x y:Option Blk),upd (upd f i3 x) i2 y=upd (upd f i2 y) i3 x:=fun f x y=>cq f x y n32
 have m32:¬i3=i2:=n32;have m23:¬i2=i3:=n32.symm;simp only [go_sem,c3,aj,n3];refine .intro (fun m ρ H=>H=upd (upd (upd G i2 (some (.obj [.v (.int .i64 0), .s [], .v (.bool false), .v (.int .i64 0), .v (.int .i64 0), .v (.int .i64 0), .s []] 216))) i3 (some (.obj [.v (.int .i64 a.cat), .s a.name, .v (.bool a.must), .v (.int .i64 0), .v (.int .i64 0), .v (.int .i64 0), .s []] 216))) id (some (PO st1))∧
  ∃i:Nat,i≤3∧m=3 - i∧(∀j (hj:j<rM.length),j<i→isD st1 rM[j]=false)∧lk ρ 0=some (.ptr id 0)∧lk ρ 2=some (.ptr i2 0)∧lk ρ 3=some (.ptr i3 0)∧lk ρ 9=some (.sl (rM.map AV.s) .full)∧lk ρ 10=some (.v (.int .i64 3))∧lk ρ 11=some (.v (.int .i64 i))) 3 ?_ ?_
 ·refine ⟨rfl,0,by omega,rfl,fun j _ hj=>(by omega), ?_, ?_, ?_, ?_, ?_, ?_⟩<;>simp only [go_sem]<;>rfl
 ·rintro m ρ H ⟨rfl,i,hi,rfl,hb,r0,r2,r3,r9,r10,r11⟩
  simp only [go_sem,r10,r11];refine .intro (fun e=> ?_) (fun e=> ?_)
  ·have hlt:i<3:=by have:=VC e; omega
   have hlo:i<rM.length:=hlt;have w1:=VG i (by omega)
   have w2:IntKind.i64.wrap (1+(i:Int))=((i:Int)+1):=by rw [bu _ (by omega)]; omega
   simp only [go_sem,r9,r11];refine .at i (by simpa using hlo) (by rw [VB]; rfl) ?_
   simp only [go_sem,r0,VB];refine (jt st1 rM[i] h1.1).run ?_;cases d1:isD st1 rM[i]
   ·have et:cp st1 rM[i]=(false,st1):=by simp [cp,d1]
    rw [et];simp only [go_sem,r11,w1];refine ⟨_, ?_,rfl,i+1,by omega,rfl,fun j hj hji=> ?_, ?_, ?_, ?_, ?_, ?_, ?_⟩
    ·omega
    ·by_cases e:j=i
     ·subst e; exact d1
     ·exact hb j hj (by omega)
    all_goals simp only [go_sem,r0,r2,r3,r9,r10]
   ·have et:cp st1 rM[i]=(true,aZ st1):=by simp [cp,d1]
    have eo:=Mt i hlo hb d1;have h2:Ah st1 (aZ st1):=dR h1.1 (cG d1);have en:ga st=(⟨a,(i:Int)+1,(aD (aZ st1)).1⟩,(aD (aZ st1)).2):=by simp [ga,e1,eo]
    have d2:(((i:Int)+1)==0)=false:=by simp; omega
    rw [et];simp only [go_sem,c3,aj,n3,r0,r3,w2,d2];refine (sn (aZ st1) h2.1).run ?_;simp only [go_sem,c2,c3,c23,aj,n2,n3,m23,aV,r2,r3];exact .mk (h' :=upd G id (some (PO (ga st).2))) _ (.refl _) (by rw [en]; exact Sub.both (by repeat (first|exact .refl _|refine Sub.put ?_ (by assumption) _)) _ _) ⟨by rw [en]; rfl,rfl⟩
  ·have hge:i=3:=by have:=VD e; omega
   subst hge;have eo:=HS fun j hj=>hb j hj hj
   have h2:Ah st1 (bk st1):=kZ h1.1;have en:ga st=(⟨a,0,(aD (bk st1)).1⟩,(aD (bk st1)).2):=by simp [ga,e1,eo]
   simp only [go_sem,r0,r3,aj,n3];refine (j8 st1 h1.1).run ?_;simp only [go_sem,r0];refine (sn (bk st1) h2.1).run ?_;simp only [go_sem,c2,c3,c23,aj,n2,n3,m23,aV,r2,r3];exact .mk (h' :=upd G id (some (PO (ga st).2))) _ (.refl _) (by rw [en]; exact Sub.both (by repeat (first|exact .refl _|refine Sub.put ?_ (by assumption) _)) _ _) ⟨by rw [en]; rfl,rfl⟩
theorem MR:(U 216).sz=7:=by simp only [go_sem]
theorem Pu:(U 216).bytes=72:=by simp only [go_sem]
theorem Eg (l:List bN):Sized 7 (l.map dG):=fun z hz=>by
 obtain ⟨c,_,rfl⟩:=List.mem_map.1 hz; rfl
theorem MQ:(U 191).sz=1:=by simp only [go_sem]
theorem Pt:(U 191).bytes=24:=by simp only [go_sem]
theorem Ef (l:List (List bN)):Sized 1 (l.map gW):=fun z hz=>by
 obtain ⟨c,_,rfl⟩:=List.mem_map.1 hz; rfl
theorem MT:(U 190).sz=1:=by simp only [go_sem]
theorem Pw:(U 190).bytes=24:=by simp only [go_sem]
theorem Ei (l:List (List (List bN))):Sized 1 (l.map cN):=fun z hz=>by
 obtain ⟨c,_,rfl⟩:=List.mem_map.1 hz; rfl
theorem KA (st:PS) (hw:WfP st):PC 165 [] st (gW (nS st).1) (nS st).2:= .of fun G id=>by
 have h1:=nZ hw;have hm1:=DY st hw;obtain ⟨x0,st1,e1⟩:∃x0 st1,ga st=(x0,st1):=⟨_,_,rfl⟩;have ep:fE ga [44] 8 st.ts.length st1 [x0]=nS st:=by simp only [nS,e1]
 rw [e1] at h1 hm1;simp only [dG] at h1 hm1;refine ak.body hU hm Tryz.func165 rfl (by kernel_rfl) 20 rfl [.tmp 2] rfl (Vz rfl) (fun hwf=> ?_)
 simp only [go_sem];refine hm1.run ?_;simp only [go_sem];have hB:upd G id none id=none:=ah ..;refine .intro (fun m ρ H=>∃(f:Nat) (st' :PS) (l:List _) (y:AV),H id=some (PO st')∧Acc U 216 (upd G id none) H y (l.map dG)∧Ah st1 st'∧fE ga [44] 8 f st' l=nS st∧st1.ts.length≤f+st'.pos∧l.length≤st'.pos+1∧m=st1.ts.length - st'.pos∧lk ρ 0=some (.ptr id 0)∧lk ρ 3=some y) (st1.ts.length - st1.pos) ?_ ?_
 ·refine ⟨st.ts.length,st1,[x0], .sl ([x0].map dG) .full,ah .., .full (base_start G id _), .refl h1.1,ep,by rw [h1.2.1]; omega,by simp,rfl, ?_, ?_⟩<;>simp only [go_sem]<;>rfl
 ·rintro m ρ H ⟨f,st',l,y,hH,hy,ha,hfin,hf,hll,rfl,r0,r3⟩
  have hlen:=ha.1.2.2;have hpos:=ha.1.1;have htl:=ha.2.1;simp only [go_sem,r0];refine (jt st' [44] ha.1).go hH ?_;cases d1:isD st' [44]
  ·have et:cp st' [44]=(false,st'):=by simp [cp,d1]
   have ef:fE ga [44] 8 f st' l=(l,st'):=by cases f<;>simp [fE,d1]
   rw [et,bZ hH];rw [ef] at hfin;simp only [go_sem,r3];exact .mk (h' :=upd G id (some (PO (nS st).2))) (gW l) hy.weak (by rw [←hfin]; exact ff hy.1 hH) ⟨by rw [←hfin],rfl⟩
  ·have et:cp st' [44]=(true,aZ st'):=by simp [cp,d1]
   obtain ⟨g,rfl⟩:∃g,f=g+1:=⟨f - 1,by rw [htl] at hpos; omega⟩
   simp only [fE,d1,if_true] at hfin;have h2:=dR ha.1 (cG d1);have hone:=DY (aZ st') h2.1;have h3:=(fun _ h=>nZ h:∀st,WfP st→Ah st (ga st).2) _ h2.1
   obtain ⟨x,st2,e2⟩:∃x st2,ga (aZ st')=(x,st2):=⟨_,_,rfl⟩;rw [e2] at hfin hone h3;simp only [dG] at hfin hone h3;have hdec:decide ((8:Int)<((l.length+1:Nat):Int))=decide (8<l.length+1):=by
    by_cases h:8<l.length+1
    ·simp only [h,decide_true]; exact decide_eq_true (by omega)
    ·simp only [h,decide_false]; exact decide_eq_false (by omega)
   have h4:=jW (decide (8<l.length+1)) h3.1;have hnp:(aZ st').pos=st'.pos+1:=rfl;have hp3:=h3.2.2;have hp4:=h4.2.2;rw [et];simp only [go_sem,r0,r3];refine hone.run ?_;simp only [go_sem];refine (hy.put hB hH _).app (zs:= [dG x]) (by rw [MR]; decide) (by rw [Pu]; decide) (fun k hk=>hk) (by rw [MR]; exact Eg l) (by rw [MR]; exact Eg [x]) (by rw [Pu]; simp; omega) fun y' H2 hy' hk2=> ?_
   have hH2:H2 id=some (PO st2):=hk2 _ _ _ (ah ..);simp only [go_sem,r0,hy'.len,VE,VA,List.length_cons,List.length_nil,Nat.zero_add,hdec];refine (cK st2 _ h3.1).go hH2 ?_;simp only [go_sem];refine ⟨_, ?_,g,bF st2 (decide (8<l.length+1)),l++ [x],y',ah ..,by rw [List.map_append]; exact hy'.put hB hH2 _,(((ha.trans h2).trans h3).trans h4),hfin,by omega,by simp; omega,rfl, ?_, ?_⟩
   ·have:st1.ts.length=st'.ts.length:=by rw [htl]
    omega
   all_goals simp only [go_sem,r0]
theorem KB (st:PS) (hw:WfP st):PC 131 [] st (cN (pX st).1) (pX st).2:= .of fun G id=>by
 have h0:=iM [40] hw;have h1:=yX h0.1;have hm1:=KA _ h0.1;obtain ⟨x0,st1,e1⟩:∃x0 st1,nS (dP st [40])=(x0,st1):=⟨_,_,rfl⟩;obtain ⟨M,eM⟩:∃M,fE nS orT 8 st.ts.length st1 [x0]=M:=⟨_,rfl⟩;have epp:(M.1,dP M.2 [41])=pX st:=by simp only [pX,e1,eM]
 rw [e1] at h1 hm1;simp only [gW] at h1 hm1;refine ak.body hU hm Tryz.func131 rfl (by kernel_rfl) 24 rfl [.tmp 2] rfl (Vz rfl) (fun hwf=> ?_)
 simp only [go_sem];refine (jO st [40] hw).run ?_;simp only [go_sem];refine hm1.run ?_;simp only [go_sem];have hB:upd G id none id=none:=ah ..;refine .intro (fun m ρ H=>∃(f:Nat) (st' :PS) (l:List _) (y:AV),H id=some (PO st')∧Acc U 191 (upd G id none) H y (l.map gW)∧Ah st1 st'∧fE nS orT 8 f st' l=M∧st1.ts.length≤f+st'.pos∧l.length≤st'.pos+1∧m=st1.ts.length - st'.pos∧lk ρ 0=some (.ptr id 0)∧lk ρ 3=some y) (st1.ts.length - st1.pos) ?_ ?_
 ·refine ⟨st.ts.length,st1,[x0], .sl ([x0].map gW) .full,ah .., .full (base_start G id _), .refl h1.1,eM,by rw [h1.2.1,h0.2.1]; omega,by simp,rfl, ?_, ?_⟩<;>simp only [go_sem]<;>rfl
 ·rintro m ρ H ⟨f,st',l,y,hH,hy,ha,hfin,hf,hll,rfl,r0,r3⟩
  have hlen:=ha.1.2.2;have hpos:=ha.1.1;have htl:=ha.2.1;simp only [go_sem,r0];refine (jt st' orT ha.1).go hH ?_;cases d1:isD st' orT
  ·have et:cp st' orT=(false,st'):=by simp [cp,d1]
   have ef:fE nS orT 8 f st' l=(l,st'):=by cases f<;>simp [fE,d1]
   rw [et,bZ hH];rw [ef] at hfin;simp only [go_sem,r0];refine (jO st' [41] ha.1).go hH ?_;simp only [go_sem,r3];exact .mk (h' :=upd G id (some (PO (pX st).2))) (cN l) hy.weak (by rw [←epp,←hfin]; exact ff (hy.1.put hB _) (ah ..)) ⟨by rw [←epp,←hfin],rfl⟩
  ·have et:cp st' orT=(true,aZ st'):=by simp [cp,d1]
   obtain ⟨g,rfl⟩:∃g,f=g+1:=⟨f - 1,by rw [htl] at hpos; omega⟩
   simp only [fE,d1,if_true] at hfin;have h2:=dR ha.1 (cG d1);have hone:=KA (aZ st') h2.1;have h3:=(fun _ h=>yX h:∀st,WfP st→Ah st (nS st).2) _ h2.1
   obtain ⟨x,st2,e2⟩:∃x st2,nS (aZ st')=(x,st2):=⟨_,_,rfl⟩;rw [e2] at hfin hone h3;simp only [gW] at hfin hone h3;have hdec:decide ((8:Int)<((l.length+1:Nat):Int))=decide (8<l.length+1):=by
    by_cases h:8<l.length+1
    ·simp only [h,decide_true]; exact decide_eq_true (by omega)
    ·simp only [h,decide_false]; exact decide_eq_false (by omega)
   have h4:=jW (decide (8<l.length+1)) h3.1;have hnp:(aZ st').pos=st'.pos+1:=rfl;have hp3:=h3.2.2;have hp4:=h4.2.2;rw [et];simp only [go_sem,r0,r3];refine hone.run ?_;simp only [go_sem];refine (hy.put hB hH _).app (zs:= [gW x]) (by rw [MQ]; decide) (by rw [Pt]; decide) (fun k hk=>hk) (by rw [MQ]; exact Ef l) (by rw [MQ]; exact Ef [x]) (by rw [Pt]; simp; omega) fun y' H2 hy' hk2=> ?_
   have hH2:H2 id=some (PO st2):=hk2 _ _ _ (ah ..);simp only [go_sem,r0,hy'.len,VE,VA,List.length_cons,List.length_nil,Nat.zero_add,hdec];refine (cK st2 _ h3.1).go hH2 ?_;simp only [go_sem];refine ⟨_, ?_,g,bF st2 (decide (8<l.length+1)),l++ [x],y',ah ..,by rw [List.map_append]; exact hy'.put hB hH2 _,(((ha.trans h2).trans h3).trans h4),hfin,by omega,by simp; omega,rfl, ?_, ?_⟩
   ·have:st1.ts.length=st'.ts.length:=by rw [htl]
    omega
   all_goals simp only [go_sem,r0]
theorem Lc (st:PS) (hw:WfP st):PC 98 [] st (aU (gA st).1) (gA st).2:= .of fun G id=>by
 refine ak.body hU hm Tryz.func98 rfl (by kernel_rfl) 23 rfl [.tmp 2] rfl (Vz rfl) (fun hwf=> ?_)
 simp only [go_sem];refine (jt st BY hw).run ?_;cases d0:isD st BY
 ·have et:cp st BY=(false,st):=by simp [cp,d0]
  have ep:gA st=([],st):=by simp [gA,d0]
  rw [et];simp only [go_sem];exact .mk (h' :=upd G id (some (PO (gA st).2))) (aU []) (.sl _ _) (by rw [ep]; exact .refl _) ⟨by rw [ep],rfl⟩
 have et:cp st BY=(true,aZ st):=by simp [cp,d0]
 have h0:=dR hw (cG d0);have h1:=yY h0.1;have hm1:=KB _ h0.1;obtain ⟨x0,st1,e1⟩:∃x0 st1,pX (aZ st)=(x0,st1):=⟨_,_,rfl⟩;obtain ⟨M,eM⟩:∃M,fE pX zW 8 st.ts.length st1 [x0]=M:=⟨_,rfl⟩;have ep:M=gA st:=by simp only [gA,d0,if_true,e1,eM]
 rw [e1] at h1 hm1;simp only [cN] at h1 hm1;rw [et];simp only [go_sem];refine hm1.run ?_;simp only [go_sem];have hB:upd G id none id=none:=ah ..;refine .intro (fun m ρ H=>∃(f:Nat) (st' :PS) (l:List _) (y:AV),H id=some (PO st')∧Acc U 190 (upd G id none) H y (l.map cN)∧Ah st1 st'∧fE pX zW 8 f st' l=M∧st1.ts.length≤f+st'.pos∧l.length≤st'.pos+1∧m=st1.ts.length - st'.pos∧lk ρ 0=some (.ptr id 0)∧lk ρ 3=some y) (st1.ts.length - st1.pos) ?_ ?_
 ·refine ⟨st.ts.length,st1,[x0], .sl ([x0].map cN) .full,ah .., .full (base_start G id _), .refl h1.1,eM,by rw [h1.2.1,h0.2.1]; omega,by simp,rfl, ?_, ?_⟩<;>simp only [go_sem]<;>rfl
 ·rintro m ρ H ⟨f,st',l,y,hH,hy,ha,hfin,hf,hll,rfl,r0,r3⟩
  have hlen:=ha.1.2.2;have hpos:=ha.1.1;have htl:=ha.2.1;simp only [go_sem,r0];refine (jt st' zW ha.1).go hH ?_;cases d1:isD st' zW
  ·have et:cp st' zW=(false,st'):=by simp [cp,d1]
   have ef:fE pX zW 8 f st' l=(l,st'):=by cases f<;>simp [fE,d1]
   rw [et,bZ hH];rw [ef] at hfin;simp only [go_sem,r3];exact .mk (h' :=upd G id (some (PO (gA st).2))) (aU l) hy.weak (by rw [←ep,←hfin]; exact ff hy.1 hH) ⟨by rw [←ep,←hfin],rfl⟩
  ·have et:cp st' zW=(true,aZ st'):=by simp [cp,d1]
   obtain ⟨g,rfl⟩:∃g,f=g+1:=⟨f - 1,by rw [htl] at hpos; omega⟩
   simp only [fE,d1,if_true] at hfin;have h2:=dR ha.1 (cG d1);have hone:=KB (aZ st') h2.1;have h3:=(fun _ h=>yY h:∀st,WfP st→Ah st (pX st).2) _ h2.1
   obtain ⟨x,st2,e2⟩:∃x st2,pX (aZ st')=(x,st2):=⟨_,_,rfl⟩;rw [e2] at hfin hone h3;simp only [cN] at hfin hone h3;have hdec:decide ((8:Int)<((l.length+1:Nat):Int))=decide (8<l.length+1):=by
    by_cases h:8<l.length+1
    ·simp only [h,decide_true]; exact decide_eq_true (by omega)
    ·simp only [h,decide_false]; exact decide_eq_false (by omega)
   have h4:=jW (decide (8<l.length+1)) h3.1;have hnp:(aZ st').pos=st'.pos+1:=rfl;have hp3:=h3.2.2;have hp4:=h4.2.2;rw [et];simp only [go_sem,r0,r3];refine hone.run ?_;simp only [go_sem];refine (hy.put hB hH _).app (zs:= [cN x]) (by rw [MT]; decide) (by rw [Pw]; decide) (fun k hk=>hk) (by rw [MT]; exact Ei l) (by rw [MT]; exact Ei [x]) (by rw [Pw]; simp; omega) fun y' H2 hy' hk2=> ?_
   have hH2:H2 id=some (PO st2):=hk2 _ _ _ (ah ..);simp only [go_sem,r0,hy'.len,VE,VA,List.length_cons,List.length_nil,Nat.zero_add,hdec];refine (cK st2 _ h3.1).go hH2 ?_;simp only [go_sem];refine ⟨_, ?_,g,bF st2 (decide (8<l.length+1)),l++ [x],y',ah ..,by rw [List.map_append]; exact hy'.put hB hH2 _,(((ha.trans h2).trans h3).trans h4),hfin,by omega,by simp; omega,rfl, ?_, ?_⟩
   ·have:st1.ts.length=st'.ts.length:=by rw [htl]
    omega
   all_goals simp only [go_sem,r0]
theorem Bg (op:Int) (h:Heap):ak Tryz.prog 227 [.v (.int .i64 op)] h fun r h' =>r= .sl ((opers op).map jd) .no∧h' =h:=by
 refine ak.body hU hm Tryz.func227 rfl (by kernel_rfl) 15 rfl [.tmp 2] rfl (Vz rfl) (fun hwf=> ?_)
 cases k3:(op==3)<;>cases k4:(op==4)<;>cases k5:(op==5)<;>cases k11:(op==11)
 all_goals
  simp only [go_sem,k3,k4,k5,k11];simp only [beq_iff_eq,beq_eq_false_iff_ne] at k3 k4 k5 k11;refine .mk _ (.sl _ _) (.refl _) ⟨?_,rfl⟩;simp [opers,k3,k4,k5,k11,jd]
theorem MS:(U 64).sz=3:=by simp only [go_sem]
theorem Pv:(U 64).bytes=32:=by simp only [go_sem]
theorem Eh (l:List cA):Sized 3 (l.map bp):=fun z hz=>by
 obtain ⟨c,_,rfl⟩:=List.mem_map.1 hz; rfl
set_option maxRecDepth 20000 in
theorem rf (st:PS) (hw:WfP st):PC 102 [] st (aA (fV st).1) (fV st).2:= .of fun G id=>by
 obtain ⟨M,eM⟩:∃M,fV st=M:=⟨_,rfl⟩;have eM2:fE vY tW 8 st.ts.length st []=M:=eM;refine ak.body hU hm Tryz.func102 rfl (by kernel_rfl) 28 rfl [.tmp 2] rfl (Vz rfl) (fun hwf=> ?_)
 simp only [go_sem];have hB:upd G id none id=none:=ah ..;refine .intro (fun m ρ H=>∃(f:Nat) (st' :PS) (l:List cA) (y:AV),H id=some (PO st')∧Acc U 64 (upd G id none) H y (l.map bp)∧Ah st st'∧fE vY tW 8 f st' l=M∧st.ts.length≤f+st'.pos∧l.length≤st'.pos+1∧m=st.ts.length - st'.pos∧lk ρ 0=some (.ptr id 0)∧lk ρ 3=some y) (st.ts.length - st.pos) ?_ ?_
 ·refine ⟨st.ts.length,st,[], .sl ([].map bp) .full,ah .., .full (base_start G id _), .refl hw,eM2,by omega,by simp,rfl, ?_, ?_⟩<;>simp only [go_sem]<;>rfl
 ·rintro m ρ H ⟨f,st',l,y,hH,hy,ha,hfin,hf,hll,rfl,r0,r3⟩
  have hlen:=ha.1.2.2;have hpos:=ha.1.1;have htl:=ha.2.1;simp only [go_sem,r0];refine (jt st' tW ha.1).go hH ?_;cases d1:isD st' tW
  ·have et:cp st' tW=(false,st'):=by simp [cp,d1]
   have ef:fE vY tW 8 f st' l=(l,st'):=by cases f<;>simp [fE,d1]
   rw [et,bZ hH];rw [ef] at hfin;simp only [go_sem,r3];exact .mk (h' :=upd G id (some (PO (fV st).2))) (aA l) hy.weak (by rw [eM,←hfin]; exact ff hy.1 hH) ⟨by rw [eM,←hfin],rfl⟩
  ·have et:cp st' tW=(true,aZ st'):=by simp [cp,d1]
   obtain ⟨g,rfl⟩:∃g,f=g+1:=⟨f - 1,by rw [htl] at hpos; omega⟩
   simp only [fE,d1,if_true] at hfin;have h2:=dR ha.1 (cG d1);have ho1:=gj sQ h2.1;have ho2:=gj lf ho1.1;have ho3:=lJ ho2.1;have h3:Ah (aZ st') (vY (aZ st')).2:=Gt h2.1;have hdec:decide ((8:Int)<((l.length+1:Nat):Int))=decide (8<l.length+1):=by
    by_cases h:8<l.length+1
    ·simp only [h,decide_true]; exact decide_eq_true (by omega)
    ·simp only [h,decide_false]; exact decide_eq_false (by omega)
   have h4:=jW (decide (8<l.length+1)) h3.1;have hnp:(aZ st').pos=st'.pos+1:=rfl;have hp3:=h3.2.2;have hp4:=h4.2.2;have eX:(vY (aZ st'))=(⟨(aY (aZ st') sQ).1,(aY (aY (aZ st') sQ).2 lf).1,(cm (aY (aY (aZ st') sQ).2 lf).2).1⟩,(cm (aY (aY (aZ st') sQ).2 lf).2).2):=rfl;obtain ⟨x,st2,e2⟩:∃x st2,vY (aZ st')=(x,st2):=⟨_,_,rfl⟩;rw [et];simp only [go_sem];intro i4 hi4;have n4:=aE hi4;have hH4:H i4=none:=by rw [ag _ _ n4] at hi4; exact hi4
   have c4:∀(f:Heap) (x y:Option Blk),upd (upd f id x) i4 y=upd (upd f i4 y) id x:=fun f x y=>cq f x y n4.symm
   simp only [go_sem,r0,c4];refine (mu _ sQ .full (by decide) h2.1).run ?_
   simp only [go_sem,r0,c4,aj,n4];refine (mu _ lf .full (by decide) ho1.1).run ?_
   simp only [go_sem,r0,c4,aj,n4];refine (rT _ ho2.1).run ?_;simp only [go_sem,r3,c4,aj,n4];rw [e2] at hfin h3 h4 hp3 hp4;simp only at hfin h3 h4 hp3 hp4;have ex1:x=(vY (aZ st')).1:=by rw [e2]
   have ex2:st2=(cm (aY (aY (aZ st') sQ).2 lf).2).2:=by
    have:st2=(vY (aZ st')).2:=by rw [e2]
    exact this
   rw [←ex2];refine ((hy.sub (Sub.ai (k:=_) hH4)).put hB (by rw [ag _ _ n4.symm]; exact hH) _).app (zs:= [bp x]) (by rw [MS]; decide) (by rw [Pv]; decide) (fun k hk=>by rw [ex1] at hk; exact hk) (by rw [MS]; exact Eh l) (by rw [MS]; exact Eh [x]) (by rw [Pv]; simp; omega) fun y' H2 hy' hk2=> ?_
   have hH2:H2 id=some (PO st2):=hk2 _ _ _ (ah ..);simp only [go_sem,r0,hy'.len,VE,VA,List.length_cons,List.length_nil,Nat.zero_add,hdec];refine (cK st2 _ h3.1).go hH2 ?_;simp only [go_sem];refine ⟨_, ?_,g,bF st2 (decide (8<l.length+1)),l++ [x],y',ah ..,by rw [List.map_append]; exact hy'.put hB hH2 _,(((ha.trans h2).trans h3).trans h4),hfin,by omega,by simp; omega,rfl, ?_, ?_⟩
   ·have:st.ts.length=st'.ts.length:=by rw [htl]
    omega
   all_goals simp only [go_sem,r0]
theorem qT {U:TypeId→TI} {e:TypeId} {B B' H:Heap} {y:AV} {xs:List AV} (hs:Sub B B') (ha:Acc U e B' H y xs):Acc U e B H y xs:=by
 obtain ⟨h1,rfl|⟨k,i1,rfl,i2⟩⟩:=ha
 ·exact ⟨hs.trans h1, .inl rfl⟩
 ·refine ⟨hs.trans h1, .inr ⟨k, ?_,rfl,i2⟩⟩
  cases hk:B k with
  |none=>rfl
  |some b=>rw [hs _ _ hk] at i1; cases i1
theorem uW {U:TypeId→TI} {e:TypeId} {B H:Heap} {y:AV} {xs:List AV} (ha:Acc U e B H y xs) {i:Nat} (hi:H i=none) (b:Option Blk):Acc U e (upd B i b) (upd H i b) y xs:=by
 obtain ⟨h1,rfl|⟨k,i1,rfl,i2⟩⟩:=ha
 ·exact ⟨h1.both _ _, .inl rfl⟩
 ·have hne:k≠i:=fun hh=>by subst hh; rw [hi] at i2; cases i2
  exact ⟨h1.both _ _, .inr ⟨k,by rw [ag _ _ hne]; exact i1,rfl,by rw [ag _ _ hne]; exact i2⟩⟩
theorem mq {U:TypeId→TI} {e:TypeId} {G K:Heap} {id:Nat} {st:PS} {y:AV} {xs:List AV} (ha:Acc U e (upd G id none) (upd K id (some (PO st))) y xs) (st' :PS):Acc U e (upd G id none) (upd K id (some (PO st'))) y xs:=by
 have:=ha.put (id:=id) (ah ..) (cs:=_) (t:=_) (ah ..) (some (PO st'));rw [nI] at this;exact this
def XC (f:FuncId) (args:List AV) (st:PS) (l:List aP) (mk:AV→AV) (st' :PS) (l' :List aP):Prop:=
 ∀(G K:Heap) (id:Nat) (y:AV),Acc U 226 (upd G id none) (upd K id (some (PO st))) y (l.map cZ)→ak Tryz.prog f (.ptr id 0::y::args) (upd K id (some (PO st))) fun r h' =>∃y',r=mk y'∧h' id=some (PO st')∧Acc U 226 (upd G id none) h' y' (l'.map cZ)
theorem XC.run {f:FuncId} {args:List AV} {st st' :PS} {l l' :List aP} {mk:AV→AV} (hc:XC f args st l mk st' l') {G K:Heap} {id:Nat} {y:AV} {Q:AV→Heap→Prop} (ha:Acc U 226 (upd G id none) (upd K id (some (PO st))) y (l.map cZ))
  (k:∀y' K',Acc U 226 (upd G id none) (upd K' id (some (PO st'))) y' (l'.map cZ)→Q (mk y') (upd K' id (some (PO st')))):ak Tryz.prog f (.ptr id 0::y::args) (upd K id (some (PO st))) Q:=
 (hc G K id y ha).mono fun r h' ⟨y',e1,e2,e3⟩=>by
  subst e1;have:=k y' h' (by rw [bZ e2]; exact e3)
  rwa [bZ e2] at this
def EH (ex:ExF) (f:Nat):Prop:=∀st l,WfP st→st.ts.length≤f+st.pos→l.length≤2*st.pos+1→XC 189 [] st l (fun y=> .tup [y, .v (.bool (ex st l).1.2)]) (ex st l).2 (ex st l).1.1
theorem Es (st:PS) (ws:List Txt):0≤(aY st ws).1∧(aY st ws).1≤ws.length:=by
 unfold aY;cases ei:sE (aJ st).s ws with
 |none=>simp
 |some i=>
  have:=zv ei;simp only;split<;>simp<;>omega
theorem yj {ex:ExF} (ho:B1 ex) {f:Nat} (he:EH ex f) (st:PS) (l:List aP) (b:Bool) (hw:WfP st) (hf:st.ts.length≤f+st.pos) (hl:l.length≤2*st.pos+1):XC 166 [.v (.bool b)] st l (fun y=>y) (gQ ex st l b).2 (gQ ex st l b).1:=fun G K id y ha=>by
 refine ak.body hU hm Tryz.func166 rfl (by kernel_rfl) 25 rfl [.tmp 6] rfl (Vz rfl) (fun hwf=> ?_)
 simp only [go_sem];refine (kM st hw).run ?_;simp only [go_sem,fB];refine (he st l hw hf hl).run ha fun y' K' ha' => ?_
 cases db:((ex st l).1.2==b)
 ·have e1:(ex st l).1.2≠b:=by simpa using db
  have en:gQ ex st l b=((ex st l).1.1,bD (ex st l).2 5 (aJ st).pos):=by simp [gQ,e1]
  simp only [go_sem,db,Bool.not_false];refine (pI _ 5 _).run ?_;simp only [go_sem];exact .mk (h' :=upd K' id (some (PO (bD (ex st l).2 5 (aJ st).pos)))) y' (.refl _) (.refl _) ⟨y',rfl,by rw [en]; exact ah ..,by rw [en]; exact mq ha' _⟩
 ·have e1:(ex st l).1.2=b:=by simpa using db
  have en:gQ ex st l b=((ex st l).1.1,(ex st l).2):=by simp [gQ,e1]
  simp only [go_sem,db,Bool.not_true];exact .mk (h' :=upd K' id (some (PO (ex st l).2))) y' (.refl _) (.refl _) ⟨y',rfl,by rw [en]; exact ah ..,by rw [en]; exact ha'⟩
set_option maxRecDepth 20000 in
theorem CA {ex:ExF} (ho:B1 ex) {f:Nat} (he:EH ex f) (st:PS) (l:List aP) (hw:WfP st) (hf:st.ts.length≤f+st.pos) (hl:l.length+1≤2*st.pos):XC 209 [] st l (fun y=> .tup [y,cZ (oE ex st l).1.2]) (oE ex st l).2 (oE ex st l).1.1:=fun G K id y ha=>by
 have h1:=gj kr hw;have hrg:=Es st kr;have hfl:kr.length=11:=rfl;have w2:IntKind.i64.wrap (2+(aY st kr).1)=2+(aY st kr).1:=by rw [bu _ (by omega)]
 refine ak.body hU hm Tryz.func209 rfl (by kernel_rfl) 36 rfl [.tmp 4, .cell 5 226] rfl (Vz rfl) (fun hwf=> ?_)
 simp only [go_sem];intro i5 hi5;have n5:=aE hi5;have hK5:K i5=none:=by rw [ag _ _ n5] at hi5; exact hi5
 have c5:∀(f:Heap) (x y:Option Blk),upd (upd f id x) i5 y=upd (upd f i5 y) id x:=fun f x y=>cq f x y n5.symm
 simp only [go_sem,c5];refine (mu _ kr .full (by decide) hw).run ?_
 simp only [go_sem,w2];intro i6 hi6;have n6:=aE hi6;have c6:∀(f:Heap) (x y:Option Blk),upd (upd f id x) i6 y=upd (upd f i6 y) id x:=fun f x y=>cq f x y n6.symm
 have hi6' :=hi6;rw [ag _ _ n6] at hi6';have n65:=aE hi6';have hK6:K i6=none:=by rw [ag _ _ n65] at hi6'; exact hi6'
 simp only [go_sem,c6,aj,n6];refine (Bg _ _).pthen ?_;simp only [go_sem];have h5f:=ha;obtain ⟨bs,ebs⟩:∃bs,opers (2+(aY st kr).1)=bs:=⟨_,rfl⟩;obtain ⟨M,eM⟩:∃M,iS ex bs (aY st kr).2 l=M:=⟨_,rfl⟩;have hb2:bs.length≤2:=by rw [←ebs]; exact Bh _
 have hMr:oE ex st l=((M.1,⟨2+(aY st kr).1,⟨0,0,[]⟩,⟨0,[],false⟩⟩),dP M.2 [41]):=by simp only [oE,ebs,eM]
 obtain ⟨st1,es1⟩:∃st1,(aY st kr).2=st1:=⟨_,rfl⟩;have hac0:=uW (uW (mq ha st1) (by rw [ag _ _ n5]; exact hK5) (some (.obj [.v (.int .i64 0), .v (.int .i64 0), .v (.int .i64 0), .s [], .v (.int .i64 0), .s [], .v (.bool false)] 226))) (by rw [ag _ _ n65,ag _ _ n6]; exact hK6) (some (.obj [.v (.int .i64 (2+(aY st kr).1)), .v (.int .i64 0), .v (.int .i64 0), .s [], .v (.int .i64 0), .s [], .v (.bool false)] 226))
 simp only [c5,c6] at hac0;obtain ⟨G',eG⟩:∃G',G' =upd (upd G i5 (some (.obj [.v (.int .i64 0), .v (.int .i64 0), .v (.int .i64 0), .s [], .v (.int .i64 0), .s [], .v (.bool false)] 226))) i6 (some (.obj [.v (.int .i64 (2+(aY st kr).1)), .v (.int .i64 0), .v (.int .i64 0), .s [], .v (.int .i64 0), .s [], .v (.bool false)] 226)):=⟨_,rfl⟩;have g5:upd G' id none i5=some (.obj [.v (.int .i64 0), .v (.int .i64 0), .v (.int .i64 0), .s [], .v (.int .i64 0), .s [], .v (.bool false)] 226):=by rw [eG,ag _ _ n5,ag _ _ (Ne.symm n65),ah]
 have g6:upd G' id none i6=some (.obj [.v (.int .i64 (2+(aY st kr).1)), .v (.int .i64 0), .v (.int .i64 0), .s [], .v (.int .i64 0), .s [], .v (.bool false)] 226):=by rw [eG,ag _ _ n6,ah]
 rw [←eG] at hac0;have gi5:upd G id none i5=none:=by
  cases hk:upd G id none i5 with
  |none=>rfl
  |some b=>rw [ha.1 _ _ hk] at hi5; cases hi5
 have hsG:Sub (upd G id none) (upd G' id none):=fun k b hk=>by
  have hs1:=ha.1 k b hk;have hk5:k≠i5:=fun e=>by rw [e,hi5] at hs1; cases hs1
  have hk6:k≠i6:=fun e=>by
   rw [e,ag _ _ n6,hK6] at hs1; cases hs1
  by_cases hkid:k=id
  ·subst hkid; rw [ah] at hk; cases hk
  ·rw [ag _ _ hkid] at hk⊢
   rw [eG,ag _ _ hk6,ag _ _ hk5]; exact hk
 simp only [es1,ebs] at h1 eM⊢;refine .intro (fun m ρ H=>∃(i:Nat) (st' :PS) (l' :List aP) (y' :AV) (K' :Heap),H=upd K' id (some (PO st'))∧Acc U 226 (upd G' id none) (upd K' id (some (PO st'))) y' (l'.map cZ)∧Ah st1 st'∧i≤bs.length∧iS ex (bs.drop i) st' l' =M∧l'.length+1≤2*st'.pos+i∧m=bs.length - i∧lk ρ 0=some (.ptr id 0)∧lk ρ 1=some y'∧lk ρ 5=some (.ptr i5 0)∧lk ρ 6=some (.ptr i6 0)∧lk ρ 16=some (.sl (bs.map jd) .no)∧lk ρ 17=some (.v (.int .i64 bs.length))∧lk ρ 18=some (.v (.int .i64 i))) bs.length ?_ ?_
 ·refine ⟨0,st1,l,y,_,rfl,hac0, .refl h1.1,by omega,by simpa using eM,by have:=h1.2.2; omega,rfl, ?_, ?_, ?_, ?_, ?_, ?_, ?_⟩<;>simp only [go_sem]<;>(try rfl)<;>simp
 ·rintro m ρ H ⟨i,st',l',y',K',rfl,hac,hah,hi,hfin,hll,rfl,r0,r1,r5,r6,r16,r17,r18⟩
  simp only [go_sem,r17,r18];have k6:upd K' id (some (PO st')) i6=some (.obj [.v (.int .i64 (2+(aY st kr).1)), .v (.int .i64 0), .v (.int .i64 0), .s [], .v (.int .i64 0), .s [], .v (.bool false)] 226):=hac.1 _ _ g6;have k5:upd K' id (some (PO st')) i5=some (.obj [.v (.int .i64 0), .v (.int .i64 0), .v (.int .i64 0), .s [], .v (.int .i64 0), .s [], .v (.bool false)] 226):=hac.1 _ _ g5;rw [ag _ _ n6] at k6;rw [ag _ _ n5] at k5;refine .intro (fun e=> ?_) (fun e=> ?_)
  ·have hlt:i<bs.length:=VH e
   simp only [go_sem,r16,r18];refine .at i (by simpa using hlt) (by rw [VB]; rfl) ?_
   cases db:(st'.bad !=0)
   ·have e1:st'.bad=0:=by simpa using db
    rw [List.drop_eq_getElem_cons hlt] at hfin;simp only [iS,e1,if_true] at hfin;simp only [go_sem,r0,r1,VB,jd,PO,db];have hpl:=hah.2.2;refine (yj ho he st' l' bs[i] hah.1 (by rw [hah.2.1,h1.2.1]; have:=h1.2.2; omega) (by omega)).run hac fun y2 K2 hac2=> ?_
    obtain ⟨q1,q2⟩:=vZ ho st' l' bs[i] hah.1;have w1:=VG i (by omega)
    simp only [go_sem,r18,w1];refine ⟨_, ?_,i+1,(gQ ex st' l' bs[i]).2,(gQ ex st' l' bs[i]).1,y2,K2,rfl,hac2,hah.trans q1,hlt,hfin,by omega,rfl, ?_⟩
    ·omega
    refine ⟨?_, ?_, ?_, ?_, ?_, ?_, ?_⟩
    all_goals simp only [go_sem,r0,r5,r6,r16,r17]
   ·have e1:st'.bad≠0:=by simpa using db
    have hfin2:(l',st')=M:=by
     rw [←hfin,List.drop_eq_getElem_cons hlt];simp [iS,e1]
    clear hfin;have hfin:=hfin2;simp only [go_sem,r0,VB,jd,PO,db];refine (jO _ [41] hah.1).run ?_;simp only [go_sem,r1,r5,r6,aj,n5,n6,k5,k6];refine ⟨.of (by kernel_rfl), ?_⟩
    exact .mk (.tup [y',cZ ⟨2+(aY st kr).1,⟨0,0,[]⟩,⟨0,[],false⟩⟩]) (.refl _) (.refl _) ⟨y',by rw [hMr],by rw [hMr,←hfin]; exact (ag _ _ (Ne.symm n5)).trans (ah ..),by rw [hMr,←hfin]; exact (qT hsG (mq hac (dP st' [41]))).put gi5 ((ag _ _ n5).trans k5) _⟩
  ·have hge:i=bs.length:=by have:=VD e; omega
   subst hge;rw [List.drop_length] at hfin;simp only [iS] at hfin;simp only [go_sem,r0];refine (jO _ [41] hah.1).run ?_;simp only [go_sem,r1,r5,r6,aj,n5,n6,k5,k6];refine ⟨.of (by kernel_rfl), ?_⟩
   exact .mk (.tup [y',cZ ⟨2+(aY st kr).1,⟨0,0,[]⟩,⟨0,[],false⟩⟩]) (.refl _) (.refl _) ⟨y',by rw [hMr],by rw [hMr,←hfin]; exact (ag _ _ (Ne.symm n5)).trans (ah ..),by rw [hMr,←hfin]; exact (qT hsG (mq hac (dP st' [41]))).put gi5 ((ag _ _ n5).trans k5) _⟩
theorem qO:(U 226).sz=7:=by simp only [go_sem]
theorem xB:(U 226).bytes=72:=by simp only [go_sem]
theorem jT (l:List aP):Sized 7 (l.map cZ):=fun z hz=>by
 obtain ⟨c,_,rfl⟩:=List.mem_map.1 hz; rfl
set_option maxRecDepth 20000 in
theorem L4 (f:Nat) (ih:EH (dZ f) f):EH (dZ (f+1)) (f+1):=fun st l hw hf hl G K id y ha=>by
 refine ak.body hU hm Tryz.func189 rfl (by kernel_rfl) 52 rfl [.tmp 4, .tmp 5] rfl (Vz rfl) (fun hwf=> ?_)
 simp only [go_sem];intro i6 hi6;have n6:=aE hi6;have hK6:K i6=none:=by rw [ag _ _ n6] at hi6; exact hi6
 have c6:∀(f:Heap) (x y:Option Blk),upd (upd f id x) i6 y=upd (upd f i6 y) id x:=fun f x y=>cq f x y n6.symm
 have gi6:upd G id none i6=none:=by
  cases hk:upd G id none i6 with
  |none=>rfl
  |some b=>rw [ha.1 _ _ hk] at hi6; cases hi6
 have hac:=uW ha hi6 (some (.obj [.v (.int .i64 0), .v (.int .i64 0), .v (.int .i64 0), .s [], .v (.int .i64 0), .s [], .v (.bool false)] 226));simp only [go_sem,c6];refine (kM st hw).run ?_;simp only [go_sem,fB];intro i7 hi7;have n7:=aE hi7;have hi7' :=hi7;rw [ag _ _ n7] at hi7';have n76:=aE hi7';have m76:¬i7=i6:=n76;have m67:¬i6=i7:=fun e=>n76 e.symm
 have hK7:K i7=none:=by rw [ag _ _ n76] at hi7'; exact hi7'
 have c7:∀(f:Heap) (x y:Option Blk),upd (upd f id x) i7 y=upd (upd f i7 y) id x:=fun f x y=>cq f x y n7.symm
 have e6:upd (upd G id none) i6 (some (.obj [.v (.int .i64 0), .v (.int .i64 0), .v (.int .i64 0), .s [], .v (.int .i64 0), .s [], .v (.bool false)] 226))=upd (upd G i6 (some (.obj [.v (.int .i64 0), .v (.int .i64 0), .v (.int .i64 0), .s [], .v (.int .i64 0), .s [], .v (.bool false)] 226))) id none:=c6 G none _;have hac7:∀k,Acc U 226 (upd (upd G i6 (some (.obj [.v (.int .i64 0), .v (.int .i64 0), .v (.int .i64 0), .s [], .v (.int .i64 0), .s [], .v (.bool false)] 226))) id none) (upd (upd (upd K i6 (some (.obj [.v (.int .i64 0), .v (.int .i64 0), .v (.int .i64 0), .s [], .v (.int .i64 0), .s [], .v (.bool false)] 226))) i7 k) id (some (PO st))) y (l.map cZ):=fun k=>by
  have:=hac.sub (Sub.ai (k:=k) (by rw [c6]; exact hi7))
  rw [e6,c6 K,c7] at this;exact this
 have hsG:Sub (upd G id none) (upd (upd G i6 (some (.obj [.v (.int .i64 0), .v (.int .i64 0), .v (.int .i64 0), .s [], .v (.int .i64 0), .s [], .v (.bool false)] 226))) id none):=by
  rw [←e6]; exact Sub.ai gi6
 have g6:upd (upd G i6 (some (.obj [.v (.int .i64 0), .v (.int .i64 0), .v (.int .i64 0), .s [], .v (.int .i64 0), .s [], .v (.bool false)] 226))) id none i6=some (.obj [.v (.int .i64 0), .v (.int .i64 0), .v (.int .i64 0), .s [], .v (.int .i64 0), .s [], .v (.bool false)] 226):=by rw [←e6,ah]
 simp only [go_sem,c7,aj,n7];refine (jt st [40] hw).run ?_;have hacX:∀tk NB st',Acc U 226 (upd G id none) (upd (upd (upd (upd K i6 (some (.obj [.v (.int .i64 0), .v (.int .i64 0), .v (.int .i64 0), .s [], .v (.int .i64 0), .s [], .v (.bool false)] 226))) i7 tk) i6 NB) id (some (PO st'))) y (l.map cZ):=fun tk NB st' =>by
  have:=(mq (qT hsG (hac7 tk)) st').put gi6 ((ag _ _ n6).trans ((ag _ _ m67).trans (ah ..))) NB;rw [c6] at this;exact this
 obtain ⟨⟨⟨lh,n⟩,sth⟩,eh⟩:∃x,iH (dZ f) st l=x:=⟨_,rfl⟩;obtain ⟨hha,hhl⟩:=AP (oA f) st l hw;rw [eh] at hha hhl;simp only at hha hhl;have hwp:=hha.1.2.2;have hwq:=hha.1.1;have hpl:=hha.2.2;have hdec:decide ((32:Int)<((lh.length+1:Nat):Int))=decide (32<lh.length+1):=by
  by_cases h:32<lh.length+1
  ·simp only [h,decide_true]; exact decide_eq_true (by omega)
  ·simp only [h,decide_false]; exact decide_eq_false (by omega)
 cases d0:isD st [40]
 ·have et:cp st [40]=(false,st):=by simp [cp,d0]
  rw [et];cases d1:((aJ st).kind==1)
  ·have en:iH (dZ f) st l=((l,⟨1,(aD st).1,⟨0,[],false⟩⟩),(aD st).2):=by
    have:(aJ st).kind≠1:=by simpa using d1
    simp [iH,d0,this]
   simp only [go_sem,aj,n7,d1];refine (sn st hw).run ?_;rw [en] at eh;injection eh with eh1 eh2
   injection eh1 with eh3 eh4
   subst eh2;subst eh3;subst eh4;simp only [go_sem,c6,aj,n6,m67,aV];refine (hacX _ _ _).app (zs:= [cZ (⟨1,(aD st).1,⟨0,[],false⟩⟩:aP)]) (by rw [qO]; decide) (by rw [xB]; decide) (fun k hk=>hk) (by rw [qO]; exact jT _) (by rw [qO]; exact jT [(⟨1,(aD st).1,⟨0,[],false⟩⟩:aP)]) (by rw [xB]; simp; omega) fun y3 H3 hy3 hk3=> ?_
   have hH3:H3 id=some (PO (aD st).2):=hk3 _ _ _ (ah ..);have hb3:H3 i6=some (.obj [.v (.int .i64 (⟨1,(aD st).1,⟨0,[],false⟩⟩:aP).op), .v (.int .i64 (⟨1,(aD st).1,⟨0,[],false⟩⟩:aP).val.kind), .v (.int .i64 (⟨1,(aD st).1,⟨0,[],false⟩⟩:aP).val.n), .s (⟨1,(aD st).1,⟨0,[],false⟩⟩:aP).val.s, .v (.int .i64 (⟨1,(aD st).1,⟨0,[],false⟩⟩:aP).attr.cat), .s (⟨1,(aD st).1,⟨0,[],false⟩⟩:aP).attr.name, .v (.bool (⟨1,(aD st).1,⟨0,[],false⟩⟩:aP).attr.must)] 226):=hk3 _ _ _ ((ag _ _ n6).trans (ah ..));simp only [go_sem,hy3.len,VE,VA,List.length_cons,List.length_nil,Nat.zero_add,hdec];refine (cK (aD st).2 _ hha.1).go hH3 ?_;simp only [go_sem,aj,n6,hb3];refine ⟨.of (by kernel_rfl), ?_⟩
   have efin:dZ (f+1) st l=((l++ [(⟨1,(aD st).1,⟨0,[],false⟩⟩:aP)],(⟨1,(aD st).1,⟨0,[],false⟩⟩:aP).op==2),bF (aD st).2 (decide (32<l.length+1))):=by simp only [dZ,en]
   exact .mk (.tup [y3, .v (.bool ((⟨1,(aD st).1,⟨0,[],false⟩⟩:aP).op==2))]) (.refl _) (.refl _) ⟨y3,by rw [efin],by rw [efin]; exact ah ..,by rw [efin,List.map_append]; exact hy3.put (ah ..) hH3 _⟩
  ·have k1:(aJ st).kind=1:=by simpa using d1
   cases d2:((aJ st).s== [116,114,117,101])
   ·have k2:(aJ st).s≠um:=by unfold um; simpa using d2
    cases d3:((aJ st).s== [102,97,108,115,101])
    ·have k3:(aJ st).s≠oC:=by unfold oC; simpa using d3
     have en:iH (dZ f) st l=((l,⟨2,⟨0,0,[]⟩,(fK st).1⟩),(fK st).2):=by simp [iH,d0,k1,k2,k3]
     simp only [go_sem,aj,n7,d1,d2,d3,Bool.not_false];refine (Gx st hw).run ?_;rw [en] at eh;injection eh with eh1 eh2
     injection eh1 with eh3 eh4
     subst eh2;subst eh3;subst eh4;simp only [go_sem,c6,aj,n6,m67,zZ];refine (hacX _ _ _).app (zs:= [cZ (⟨2,⟨0,0,[]⟩,(fK st).1⟩:aP)]) (by rw [qO]; decide) (by rw [xB]; decide) (fun k hk=>hk) (by rw [qO]; exact jT _) (by rw [qO]; exact jT [(⟨2,⟨0,0,[]⟩,(fK st).1⟩:aP)]) (by rw [xB]; simp; omega) fun y3 H3 hy3 hk3=> ?_
     have hH3:H3 id=some (PO (fK st).2):=hk3 _ _ _ (ah ..);have hb3:H3 i6=some (.obj [.v (.int .i64 (⟨2,⟨0,0,[]⟩,(fK st).1⟩:aP).op), .v (.int .i64 (⟨2,⟨0,0,[]⟩,(fK st).1⟩:aP).val.kind), .v (.int .i64 (⟨2,⟨0,0,[]⟩,(fK st).1⟩:aP).val.n), .s (⟨2,⟨0,0,[]⟩,(fK st).1⟩:aP).val.s, .v (.int .i64 (⟨2,⟨0,0,[]⟩,(fK st).1⟩:aP).attr.cat), .s (⟨2,⟨0,0,[]⟩,(fK st).1⟩:aP).attr.name, .v (.bool (⟨2,⟨0,0,[]⟩,(fK st).1⟩:aP).attr.must)] 226):=hk3 _ _ _ ((ag _ _ n6).trans (ah ..));simp only [go_sem,hy3.len,VE,VA,List.length_cons,List.length_nil,Nat.zero_add,hdec];refine (cK (fK st).2 _ hha.1).go hH3 ?_;simp only [go_sem,aj,n6,hb3];refine ⟨.of (by kernel_rfl), ?_⟩
     have efin:dZ (f+1) st l=((l++ [(⟨2,⟨0,0,[]⟩,(fK st).1⟩:aP)],(⟨2,⟨0,0,[]⟩,(fK st).1⟩:aP).op==2),bF (fK st).2 (decide (32<l.length+1))):=by simp only [dZ,en]
     exact .mk (.tup [y3, .v (.bool ((⟨2,⟨0,0,[]⟩,(fK st).1⟩:aP).op==2))]) (.refl _) (.refl _) ⟨y3,by rw [efin],by rw [efin]; exact ah ..,by rw [efin,List.map_append]; exact hy3.put (ah ..) hH3 _⟩
    ·have k3:(aJ st).s=oC:=by unfold oC; simpa using d3
     have en:iH (dZ f) st l=((l,⟨1,(aD st).1,⟨0,[],false⟩⟩),(aD st).2):=by simp [iH,d0,k1,k3]
     simp only [go_sem,aj,n7,d1,d2,d3,Bool.not_false,Bool.not_true];refine (sn st hw).run ?_;rw [en] at eh;injection eh with eh1 eh2
     injection eh1 with eh3 eh4
     subst eh2;subst eh3;subst eh4;simp only [go_sem,c6,aj,n6,m67,aV];refine (hacX _ _ _).app (zs:= [cZ (⟨1,(aD st).1,⟨0,[],false⟩⟩:aP)]) (by rw [qO]; decide) (by rw [xB]; decide) (fun k hk=>hk) (by rw [qO]; exact jT _) (by rw [qO]; exact jT [(⟨1,(aD st).1,⟨0,[],false⟩⟩:aP)]) (by rw [xB]; simp; omega) fun y3 H3 hy3 hk3=> ?_
     have hH3:H3 id=some (PO (aD st).2):=hk3 _ _ _ (ah ..);have hb3:H3 i6=some (.obj [.v (.int .i64 (⟨1,(aD st).1,⟨0,[],false⟩⟩:aP).op), .v (.int .i64 (⟨1,(aD st).1,⟨0,[],false⟩⟩:aP).val.kind), .v (.int .i64 (⟨1,(aD st).1,⟨0,[],false⟩⟩:aP).val.n), .s (⟨1,(aD st).1,⟨0,[],false⟩⟩:aP).val.s, .v (.int .i64 (⟨1,(aD st).1,⟨0,[],false⟩⟩:aP).attr.cat), .s (⟨1,(aD st).1,⟨0,[],false⟩⟩:aP).attr.name, .v (.bool (⟨1,(aD st).1,⟨0,[],false⟩⟩:aP).attr.must)] 226):=hk3 _ _ _ ((ag _ _ n6).trans (ah ..));simp only [go_sem,hy3.len,VE,VA,List.length_cons,List.length_nil,Nat.zero_add,hdec];refine (cK (aD st).2 _ hha.1).go hH3 ?_;simp only [go_sem,aj,n6,hb3];refine ⟨.of (by kernel_rfl), ?_⟩
     have efin:dZ (f+1) st l=((l++ [(⟨1,(aD st).1,⟨0,[],false⟩⟩:aP)],(⟨1,(aD st).1,⟨0,[],false⟩⟩:aP).op==2),bF (aD st).2 (decide (32<l.length+1))):=by simp only [dZ,en]
     exact .mk (.tup [y3, .v (.bool ((⟨1,(aD st).1,⟨0,[],false⟩⟩:aP).op==2))]) (.refl _) (.refl _) ⟨y3,by rw [efin],by rw [efin]; exact ah ..,by rw [efin,List.map_append]; exact hy3.put (ah ..) hH3 _⟩
   ·have k2:(aJ st).s=um:=by unfold um; simpa using d2
    have en:iH (dZ f) st l=((l,⟨1,(aD st).1,⟨0,[],false⟩⟩),(aD st).2):=by simp [iH,d0,k1,k2]
    simp only [go_sem,aj,n7,d1,d2,Bool.not_true];refine (sn st hw).run ?_;rw [en] at eh;injection eh with eh1 eh2
    injection eh1 with eh3 eh4
    subst eh2;subst eh3;subst eh4;simp only [go_sem,c6,aj,n6,m67,aV];refine (hacX _ _ _).app (zs:= [cZ (⟨1,(aD st).1,⟨0,[],false⟩⟩:aP)]) (by rw [qO]; decide) (by rw [xB]; decide) (fun k hk=>hk) (by rw [qO]; exact jT _) (by rw [qO]; exact jT [(⟨1,(aD st).1,⟨0,[],false⟩⟩:aP)]) (by rw [xB]; simp; omega) fun y3 H3 hy3 hk3=> ?_
    have hH3:H3 id=some (PO (aD st).2):=hk3 _ _ _ (ah ..);have hb3:H3 i6=some (.obj [.v (.int .i64 (⟨1,(aD st).1,⟨0,[],false⟩⟩:aP).op), .v (.int .i64 (⟨1,(aD st).1,⟨0,[],false⟩⟩:aP).val.kind), .v (.int .i64 (⟨1,(aD st).1,⟨0,[],false⟩⟩:aP).val.n), .s (⟨1,(aD st).1,⟨0,[],false⟩⟩:aP).val.s, .v (.int .i64 (⟨1,(aD st).1,⟨0,[],false⟩⟩:aP).attr.cat), .s (⟨1,(aD st).1,⟨0,[],false⟩⟩:aP).attr.name, .v (.bool (⟨1,(aD st).1,⟨0,[],false⟩⟩:aP).attr.must)] 226):=hk3 _ _ _ ((ag _ _ n6).trans (ah ..));simp only [go_sem,hy3.len,VE,VA,List.length_cons,List.length_nil,Nat.zero_add,hdec];refine (cK (aD st).2 _ hha.1).go hH3 ?_;simp only [go_sem,aj,n6,hb3];refine ⟨.of (by kernel_rfl), ?_⟩
    have efin:dZ (f+1) st l=((l++ [(⟨1,(aD st).1,⟨0,[],false⟩⟩:aP)],(⟨1,(aD st).1,⟨0,[],false⟩⟩:aP).op==2),bF (aD st).2 (decide (32<l.length+1))):=by simp only [dZ,en]
    exact .mk (.tup [y3, .v (.bool ((⟨1,(aD st).1,⟨0,[],false⟩⟩:aP).op==2))]) (.refl _) (.refl _) ⟨y3,by rw [efin],by rw [efin]; exact ah ..,by rw [efin,List.map_append]; exact hy3.put (ah ..) hH3 _⟩
 ·have et:cp st [40]=(true,aZ st):=by simp [cp,d0]
  have h1:=dR hw (cG d0);have hnp:(aZ st).pos=st.pos+1:=rfl;have hnt:(aZ st).ts=st.ts:=rfl;rw [et];simp only [go_sem];have ef:oE (dZ f) (aZ st) l=((lh,n),sth):=by rw [←eh]; simp [iH,d0]
  have hfx:=CA (oA f) ih (aZ st) l h1.1 (by rw [hnt]; omega) (by omega)
  simp only [ef] at hfx;refine hfx.run (mq (hac7 _) _) fun y2 K2 hac2=> ?_
  have k6:=hac2.1 _ _ g6;rw [ag _ _ n6] at k6;simp only [go_sem,c6,aj,n6,k6,cZ];have hac3:=(qT hsG hac2).put gi6 ((ag _ _ n6).trans k6) (some (.obj [.v (.int .i64 n.op), .v (.int .i64 n.val.kind), .v (.int .i64 n.val.n), .s n.val.s, .v (.int .i64 n.attr.cat), .s n.attr.name, .v (.bool n.attr.must)] 226));rw [c6] at hac3;refine (hac3).app (zs:= [cZ n]) (by rw [qO]; decide) (by rw [xB]; decide) (fun k hk=>hk) (by rw [qO]; exact jT _) (by rw [qO]; exact jT [n]) (by rw [xB]; simp; omega) fun y3 H3 hy3 hk3=> ?_
  have hH3:H3 id=some (PO sth):=hk3 _ _ _ (ah ..);have hb3:H3 i6=some (.obj [.v (.int .i64 n.op), .v (.int .i64 n.val.kind), .v (.int .i64 n.val.n), .s n.val.s, .v (.int .i64 n.attr.cat), .s n.attr.name, .v (.bool n.attr.must)] 226):=hk3 _ _ _ ((ag _ _ n6).trans (ah ..));simp only [go_sem,hy3.len,VE,VA,List.length_cons,List.length_nil,Nat.zero_add,hdec];refine (cK sth _ hha.1).go hH3 ?_;simp only [go_sem,aj,n6,hb3];refine ⟨.of (by kernel_rfl), ?_⟩
  have efin:dZ (f+1) st l=((lh++ [n],n.op==2),bF sth (decide (32<lh.length+1))):=by simp only [dZ,eh]
  exact .mk (.tup [y3, .v (.bool (n.op==2))]) (.refl _) (.refl _) ⟨y3,by rw [efin],by rw [efin]; exact ah ..,by rw [efin,List.map_append]; exact hy3.put (ah ..) hH3 _⟩
theorem GY:∀f,EH (dZ f) f
 |0=>fun st l hw hf _=>absurd hw.1 (by omega)
 |f+1=>L4 f (GY f)
theorem Cy {P:Program} {f:FuncId} {args:List AV} {h:Heap} {Q Q' :AV→Heap→Prop} (hf:ak P f args h Q) (hq:∀x h1,Q x h1→∃y h2,Weak x y∧Sub h2 h1∧Q' y h2):ak P f args h Q' :=
 fun c vs h1 h2 h3 h4=>(hf c vs h1 h2 h3 h4).mono fun u w' ⟨c',x,h',g1,g2,g3,g4,g5,g6⟩=>by
  obtain ⟨y,h'',k1,k2,k3⟩:=hq x h' g6;exact ⟨c',y,h'',g1,g2,g3,g4.weak k1,k2.trans g5,k3⟩
def flat:AV→AV
 | .sl xs _=> .sl xs .no
 |x=>x
theorem fS (xs:List AV):Weak (.agg xs) (.agg (xs.map flat)):= .agg _ _ (by simp) fun i h1 h2=>by
 rw [VB];cases xs[i]<;>first|exact .refl _|exact .sl _ _
theorem Fx (st:PS) (hw:WfP st):PC 166 [.sl [] .full, .v (.bool false)] st (fh (gQ (dZ st.ts.length) st [] false).1) (gQ (dZ st.ts.length) st [] false).2:= .of fun G id=>by
 have hx:=yj (oA st.ts.length) (GY st.ts.length) st [] false hw (by omega) (by simp)
 refine Cy (hx G G id (.sl [] .full) (.full (base_start G id _))) fun r h1 ⟨y',e1,e2,e3⟩=>⟨_,upd G id (some (PO (gQ (dZ st.ts.length) st [] false).2)), ?_,ff e3.1 e2,rfl,rfl⟩
 subst e1;exact e3.weak
set_option maxRecDepth 20000 in
theorem Is (deny:Bool) (st:PS) (hw:WfP st):PC 134 [.v (.bool deny)] st (aC (nR deny st).1) (nR deny st).2:= .of fun G id=>by
 have h1:=lJ hw;have h2:=zc h1.1;have h3:=Dx h2.1;have h4:=za h3.1;have ht:=Lc _ h1.1;simp only [aU] at ht;refine ak.body hU hm Tryz.func134 rfl (by kernel_rfl) 23 rfl [.cell 4 164] rfl (Vz rfl) (fun hwf=> ?_)
 simp only [go_sem];intro i4 hi4;have n4:=aE hi4;have hG4:G i4=none:=by rw [ag _ _ n4] at hi4; exact hi4
 have c4:∀(f:Heap) (x y:Option Blk),upd (upd f id x) i4 y=upd (upd f i4 y) id x:=fun f x y=>cq f x y n4.symm
 simp only [go_sem,c4];refine (rT st hw).run ?_;simp only [go_sem];refine ht.run ?_;simp only [go_sem];intro i5 hi5;have n5:=aE hi5;have hi5' :=hi5;rw [ag _ _ n5] at hi5';have n54:=aE hi5';have m54:¬i5=i4:=n54;have m45:¬i4=i5:=n54.symm;have hG5:G i5=none:=by rw [ag _ _ n54] at hi5'; exact hi5'
 have c5:∀(f:Heap) (x y:Option Blk),upd (upd f id x) i5 y=upd (upd f i5 y) id x:=fun f x y=>cq f x y n5.symm
 have c45:∀(f:Heap) (x y:Option Blk),upd (upd f i5 x) i4 y=upd (upd f i4 y) i5 x:=fun f x y=>cq f x y n54
 simp only [go_sem,c5,aj,n5];refine (jt _ ifT h2.1).run ?_;cases d0:isD (gA (cm st).2).2 ifT
 ·have et:cp (gA (cm st).2).2 ifT=(false,(gA (cm st).2).2):=by simp [cp,d0]
  have ec:ot (gA (cm st).2).2=([],(gA (cm st).2).2):=by simp [ot,d0]
  have er:nR deny st=(⟨(cm st).1,deny,(gA (cm st).2).1,[],(fV (gA (cm st).2).2).1⟩,dP (fV (gA (cm st).2).2).2 [59]):=by simp only [nR,ec]
  rw [ec] at h4;have ho:=rf _ h2.1;simp only [aA] at ho;rw [et];simp only [go_sem];refine ho.run ?_;simp only [go_sem,c5,aj,n5];refine (jO _ [59] h4.1).run ?_;simp only [go_sem,c4,c45,aj,n4,n5,m45];exact .mk (h' :=upd G id (some (PO (dP (fV (gA (cm st).2).2).2 [59])))) (aC ⟨(cm st).1,deny,(gA (cm st).2).1,[],(fV (gA (cm st).2).2).1⟩) (fS _) (Sub.both (by repeat (first|exact .refl _|refine Sub.put ?_ (by assumption) _)) _ _) ⟨by rw [er],by rw [er]⟩
 ·have et:cp (gA (cm st).2).2 ifT=(true,aZ (gA (cm st).2).2):=by simp [cp,d0]
  obtain ⟨⟨cn,stc⟩,ec⟩:∃x,ot (gA (cm st).2).2=x:=⟨_,rfl⟩;have er:nR deny st=(⟨(cm st).1,deny,(gA (cm st).2).1,cn,(fV stc).1⟩,dP (fV stc).2 [59]):=by simp only [nR,ec]
  have hcnd:=Fx (aZ (gA (cm st).2).2) (dR h2.1 (cG d0)).1;have ec2:gQ (dZ (aZ (gA (cm st).2).2).ts.length) (aZ (gA (cm st).2).2) [] false=(cn,stc):=by rw [←ec]; simp only [ot,d0,if_true]; rfl
  rw [ec2] at hcnd;simp only [fh] at hcnd;rw [ec] at h3 h4;have ho:=rf _ h3.1;simp only [aA] at ho;rw [et];simp only [go_sem];refine hcnd.run ?_;simp only [go_sem,c5,aj,n5];refine ho.run ?_;simp only [go_sem,c5,aj,n5];refine (jO _ [59] h4.1).run ?_;simp only [go_sem,c4,c45,aj,n4,n5,m45];exact .mk (h' :=upd G id (some (PO (dP (fV stc).2 [59])))) (aC ⟨(cm st).1,deny,(gA (cm st).2).1,cn,(fV stc).1⟩) (fS _) (Sub.both (by repeat (first|exact .refl _|refine Sub.put ?_ (by assumption) _)) _ _) ⟨by rw [er],by rw [er]⟩
theorem F7:(U 164).sz=5:=by simp only [go_sem]
theorem Km:(U 164).bytes=96:=by simp only [go_sem]
theorem uL (l:List cQ):Sized 5 (l.map aC):=fun z hz=>by
 obtain ⟨c,_,rfl⟩:=List.mem_map.1 hz; rfl
set_option maxRecDepth 20000 in
theorem ME (st:PS) (hw:WfP st) (hr:st.rules≤64):PC 101 [] st (.sl ((jq 17 st []).1.map aC) .no) (jq 17 st []).2:= .of fun G id=>by
 obtain ⟨M,eM⟩:∃M,jq 17 st []=M:=⟨_,rfl⟩;rw [eM];refine ak.body hU hm Tryz.func101 rfl (by kernel_rfl) 51 rfl [.tmp 2] rfl (Vz rfl) (fun hwf=> ?_)
 simp only [go_sem];have hB:upd G id none id=none:=ah ..;refine .intro (fun m ρ H=>∃(f:Nat) (st' :PS) (l:List cQ) (y:AV),H id=some (PO st')∧Acc U 164 (upd G id none) H y (l.map aC)∧Ah st st'∧st'.rules≤64∧jq f st' l=M∧f+l.length=17∧l.length≤16∧m=f∧lk ρ 0=some (.ptr id 0)∧lk ρ 3=some y) 17 ?_ ?_
 ·refine ⟨17,st,[], .sl ([].map aC) .full,ah .., .full (base_start G id _), .refl hw,hr,eM,by simp,by simp,rfl, ?_, ?_⟩<;>simp only [go_sem]<;>rfl
 ·rintro m ρ H ⟨f,st',l,y,hH,hy,ha,hru,hfin,hf,hll,rfl,r0,r3⟩
  have hlen:=ha.1.2.2;have hpos:=ha.1.1;obtain ⟨g,rfl⟩:∃g,m=g+1:=⟨m - 1,by omega⟩
  simp only [go_sem,r0];refine (rF st' nq ha.1).go hH ?_;rw [bZ hH];have fin:isD st' nq=false→isD st' iD=false→(l,st')=M:=fun d1 d2=>by
   rw [←hfin]; simp [jq,d1,d2]
  have rest:isD st' nq=true∨isD st' iD=true→True:=fun _=>trivial
  cases d1:isD st' nq
  ·simp only [go_sem,r0]
   refine (rF st' iD ha.1).go hH ?_;rw [bZ hH];cases d2:isD st' iD
   ·simp only [go_sem,r3]
    have e:=fin d1 d2;exact .mk (h' :=upd G id (some (PO M.2))) (.sl (M.1.map aC) .no) (by rw [←e]; exact hy.weak) (by rw [←e]; exact ff hy.1 hH) ⟨rfl,rfl⟩
   ·have hd:isD st' nq=true∨isD st' iD=true:=by first|exact .inl d1|exact .inr d2
    have eb:=(lp hd).1;have ek:=(lp hd).2;have db:(st'.bad !=0)=false:=by simp [eb]
    have gP:=hH;unfold PO at gP;have lim:l.length=16∨st'.rules=64→(l,bF st' true)=M:=fun h=>by
     rw [←hfin]; simp only [jq,if_pos hd,if_pos h]
    have hdl:bF st' true=bD st' 6 (aJ st').pos:=rfl;have hlb:((bF st' true).bad !=0)=true:=by rw [hdl]; simp [bD,eb]
    cases dA:((l.length:Int)==16)
    ·cases dB:((st'.rules:Int)==64)
     ·have nA:l.length≠16:=fun e=>by rw [e] at dA; simp at dA
      have nB:st'.rules≠64:=fun e=>by rw [e] at dB; simp at dB
      have hno:¬(l.length=16∨st'.rules=64):=fun h=>h.elim nA nB
      simp only [jq,if_pos hd,if_neg hno] at hfin;simp only [go_sem,r0,r3,hy.len,VA,dA,gP,dB];refine (cK st' false ha.1).go hH ?_;rw [show bF st' false=st' from rfl,bZ hH]
      have w1:IntKind.i64.wrap ((st'.rules:Int)+1)=((st'.rules+1:Nat):Int):=by rw [bu _ (by omega)]; omega
      have w2:IntKind.i64.wrap ((st'.pos:Int)+1)=((st'.pos+1:Nat):Int):=by rw [bu _ (by omega)]; omega
      simp only [go_sem,r0,gP,db,w1];have hwr:WfP {st' with rules:=st'.rules+1}:=ha.1
      refine (rF {st' with rules:=st'.rules+1} iD hwr).go (ah ..) ?_
      rw [nI];have g2:upd H id (some (PO {st' with rules:=st'.rules+1})) id=some (.obj [.sl (st'.ts.map fB) .no, .v (.int .i64 st'.pos), .v (.int .i64 (st'.rules+1:Nat)), .v (.int .i64 st'.bad), .v (.int .i64 st'.place)] 134):=ah ..
      simp only [go_sem,r0,r3,g2,w2];have h2:Ah st' {aZ st' with rules:=st'.rules+1}:=uY ha.1 ek
      have h3:=zb (isD st' iD) h2.1;have hrp:=Is (isD st' iD) {aZ st' with rules:=st'.rules+1} h2.1
      have hr3:=(pS (wC (isD st' iD) {aZ st' with rules:=st'.rules+1})).2.2
      obtain ⟨x,st2,e2⟩:∃x st2,nR (isD st' iD) {aZ st' with rules:=st'.rules+1}=(x,st2):=⟨_,_,rfl⟩
      rw [e2] at hfin hrp h3 hr3;simp only [aC] at hrp hfin h3 hr3;refine hrp.go (ah ..) ?_;rw [nI];simp only [go_sem];refine (hy.put hB hH _).app (zs:= [aC x]) (by rw [F7]; decide) (by rw [Km]; decide) (fun k hk=>hk) (by rw [F7]; exact uL l) (by rw [F7]; exact uL [x]) (by rw [Km]; simp; omega) fun y' H2 hy' hk2=> ?_
      have hH2:H2 id=some (PO st2):=hk2 _ _ _ (ah ..);simp only [go_sem];refine ⟨_, ?_,g,st2,l++ [x],y',hH2,by rw [List.map_append]; exact hy',(ha.trans h2).trans h3,by omega,hfin,by simp; omega,by simp; omega,rfl, ?_, ?_⟩
      ·omega
      all_goals simp only [go_sem,r0]
     ·have nB:st'.rules=64:=by have:(st'.rules:Int)=64:=(by simpa using dB); omega
      have e:=lim (.inr nB);simp only [go_sem,r0,r3,hy.len,VA,dA,gP,dB];refine (cK st' true ha.1).go hH ?_;have g3:upd H id (some (PO (bF st' true))) id=some (PO (bF st' true)):=ah ..;unfold PO at g3;simp only [go_sem,r0,r3,g3,hlb,PO];exact .mk (h' :=upd G id (some (PO M.2))) (.sl (M.1.map aC) .no) (by rw [←e]; exact hy.weak) (by rw [←e]; exact ff (hy.put hB hH _).1 (ah ..)) ⟨rfl,rfl⟩
    ·have nA:l.length=16:=by have:(l.length:Int)=16:=(by simpa using dA); omega
     have e:=lim (.inl nA);simp only [go_sem,r0,r3,hy.len,VA,dA];refine (cK st' true ha.1).go hH ?_;have g3:upd H id (some (PO (bF st' true))) id=some (PO (bF st' true)):=ah ..;unfold PO at g3;simp only [go_sem,r0,r3,g3,hlb,PO];exact .mk (h' :=upd G id (some (PO M.2))) (.sl (M.1.map aC) .no) (by rw [←e]; exact hy.weak) (by rw [←e]; exact ff (hy.put hB hH _).1 (ah ..)) ⟨rfl,rfl⟩
  ·have hd:isD st' nq=true∨isD st' iD=true:=by first|exact .inl d1|exact .inr d2
   have eb:=(lp hd).1;have ek:=(lp hd).2;have db:(st'.bad !=0)=false:=by simp [eb]
   have gP:=hH;unfold PO at gP;have lim:l.length=16∨st'.rules=64→(l,bF st' true)=M:=fun h=>by
    rw [←hfin]; simp only [jq,if_pos hd,if_pos h]
   have hdl:bF st' true=bD st' 6 (aJ st').pos:=rfl;have hlb:((bF st' true).bad !=0)=true:=by rw [hdl]; simp [bD,eb]
   cases dA:((l.length:Int)==16)
   ·cases dB:((st'.rules:Int)==64)
    ·have nA:l.length≠16:=fun e=>by rw [e] at dA; simp at dA
     have nB:st'.rules≠64:=fun e=>by rw [e] at dB; simp at dB
     have hno:¬(l.length=16∨st'.rules=64):=fun h=>h.elim nA nB
     simp only [jq,if_pos hd,if_neg hno] at hfin;simp only [go_sem,r0,r3,hy.len,VA,dA,gP,dB];refine (cK st' false ha.1).go hH ?_;rw [show bF st' false=st' from rfl,bZ hH]
     have w1:IntKind.i64.wrap ((st'.rules:Int)+1)=((st'.rules+1:Nat):Int):=by rw [bu _ (by omega)]; omega
     have w2:IntKind.i64.wrap ((st'.pos:Int)+1)=((st'.pos+1:Nat):Int):=by rw [bu _ (by omega)]; omega
     simp only [go_sem,r0,gP,db,w1];have hwr:WfP {st' with rules:=st'.rules+1}:=ha.1
     refine (rF {st' with rules:=st'.rules+1} iD hwr).go (ah ..) ?_
     rw [nI];have g2:upd H id (some (PO {st' with rules:=st'.rules+1})) id=some (.obj [.sl (st'.ts.map fB) .no, .v (.int .i64 st'.pos), .v (.int .i64 (st'.rules+1:Nat)), .v (.int .i64 st'.bad), .v (.int .i64 st'.place)] 134):=ah ..
     simp only [go_sem,r0,r3,g2,w2];have h2:Ah st' {aZ st' with rules:=st'.rules+1}:=uY ha.1 ek
     have h3:=zb (isD st' iD) h2.1;have hrp:=Is (isD st' iD) {aZ st' with rules:=st'.rules+1} h2.1
     have hr3:=(pS (wC (isD st' iD) {aZ st' with rules:=st'.rules+1})).2.2
     obtain ⟨x,st2,e2⟩:∃x st2,nR (isD st' iD) {aZ st' with rules:=st'.rules+1}=(x,st2):=⟨_,_,rfl⟩
     rw [e2] at hfin hrp h3 hr3;simp only [aC] at hrp hfin h3 hr3;refine hrp.go (ah ..) ?_;rw [nI];simp only [go_sem];refine (hy.put hB hH _).app (zs:= [aC x]) (by rw [F7]; decide) (by rw [Km]; decide) (fun k hk=>hk) (by rw [F7]; exact uL l) (by rw [F7]; exact uL [x]) (by rw [Km]; simp; omega) fun y' H2 hy' hk2=> ?_
     have hH2:H2 id=some (PO st2):=hk2 _ _ _ (ah ..);simp only [go_sem];refine ⟨_, ?_,g,st2,l++ [x],y',hH2,by rw [List.map_append]; exact hy',(ha.trans h2).trans h3,by omega,hfin,by simp; omega,by simp; omega,rfl, ?_, ?_⟩
     ·omega
     all_goals simp only [go_sem,r0]
    ·have nB:st'.rules=64:=by have:(st'.rules:Int)=64:=(by simpa using dB); omega
     have e:=lim (.inr nB);simp only [go_sem,r0,r3,hy.len,VA,dA,gP,dB];refine (cK st' true ha.1).go hH ?_;have g3:upd H id (some (PO (bF st' true))) id=some (PO (bF st' true)):=ah ..;unfold PO at g3;simp only [go_sem,r0,r3,g3,hlb,PO];exact .mk (h' :=upd G id (some (PO M.2))) (.sl (M.1.map aC) .no) (by rw [←e]; exact hy.weak) (by rw [←e]; exact ff (hy.put hB hH _).1 (ah ..)) ⟨rfl,rfl⟩
   ·have nA:l.length=16:=by have:(l.length:Int)=16:=(by simpa using dA); omega
    have e:=lim (.inl nA);simp only [go_sem,r0,r3,hy.len,VA,dA];refine (cK st' true ha.1).go hH ?_;have g3:upd H id (some (PO (bF st' true))) id=some (PO (bF st' true)):=ah ..;unfold PO at g3;simp only [go_sem,r0,r3,g3,hlb,PO];exact .mk (h' :=upd G id (some (PO M.2))) (.sl (M.1.map aC) .no) (by rw [←e]; exact hy.weak) (by rw [←e]; exact ff (hy.put hB hH _).1 (ah ..)) ⟨rfl,rfl⟩
theorem F6:(U 37).sz=7:=by simp only [go_sem]
theorem Kl:(U 37).bytes=128:=by simp only [go_sem]
theorem uK (l:List bB):Sized 7 (l.map aK):=fun z hz=>by
 obtain ⟨c,_,rfl⟩:=List.mem_map.1 hz;cases c; rfl
set_option maxRecDepth 20000 in
theorem Mf (pol:PoF) (d:Nat) (hd5:d≤5) (hp:∀st,WfP st→st.rules≤64→d≤4→PC 59 [.v (.int .i64 d)] st (aK (pol st).1) (pol st).2) (hpa:∀st,WfP st→Ah st (pol st).2) (hpr:∀st,l8 st (pol st).2)
  (st:PS) (hw:WfP st) (hr:st.rules≤64):PC 100 [.v (.int .i64 d)] st (.sl ((jh pol (decide ((4:Int)<(d:Int))) 17 st []).1.map aK) .no) (jh pol (decide ((4:Int)<(d:Int))) 17 st []).2:= .of fun G id=>by
 obtain ⟨M,eM⟩:∃M,jh pol (decide ((4:Int)<(d:Int))) 17 st []=M:=⟨_,rfl⟩;rw [eM];refine ak.body hU hm Tryz.func100 rfl (by kernel_rfl) 33 rfl [.tmp 4] rfl (Vz rfl) (fun hwf=> ?_)
 simp only [go_sem];have hB:upd G id none id=none:=ah ..;refine .intro (fun m ρ H=>∃(f:Nat) (st' :PS) (l:List bB) (y:AV),H id=some (PO st')∧Acc U 37 (upd G id none) H y (l.map aK)∧Ah st st'∧st'.rules≤64∧jh pol (decide ((4:Int)<(d:Int))) f st' l=M∧f+l.length=17∧l.length≤16∧m=f∧lk ρ 0=some (.ptr id 0)∧lk ρ 1=some (.v (.int .i64 d))∧lk ρ 5=some y) 17 ?_ ?_
 ·refine ⟨17,st,[], .sl ([].map aK) .full,ah .., .full (base_start G id _), .refl hw,hr,eM,by simp,by simp,rfl, ?_, ?_, ?_⟩<;>simp only [go_sem]<;>rfl
 ·rintro m ρ H ⟨f,st',l,y,hH,hy,ha,hru,hfin,hf,hll,rfl,r0,r1,r5⟩
  have hlen:=ha.1.2.2;have hpos:=ha.1.1;obtain ⟨g,rfl⟩:∃g,m=g+1:=⟨m - 1,by omega⟩
  simp only [go_sem,r0];refine (rF st' nv ha.1).go hH ?_;rw [bZ hH];have fin:isD st' nv=false→isD st' Da=false→(l,st')=M:=fun d1 d2=>by
   rw [←hfin]; simp [jh,d1,d2]
  cases d1:isD st' nv
  ·simp only [go_sem,r0]
   refine (rF st' Da ha.1).go hH ?_;rw [bZ hH];cases d2:isD st' Da
   ·simp only [go_sem,r5]
    have e:=fin d1 d2;exact .mk (h' :=upd G id (some (PO M.2))) (.sl (M.1.map aK) .no) (by rw [←e]; exact hy.weak) (by rw [←e]; exact ff hy.1 hH) ⟨rfl,rfl⟩
   ·have hd:isD st' nv=true∨isD st' Da=true:=by first|exact .inl d1|exact .inr d2
    have eb:=(lp hd).1;have ek:=(lp hd).2;have db:(st'.bad !=0)=false:=by simp [eb]
    have gP:=hH;unfold PO at gP;have lim:l.length=16∨decide ((4:Int)<(d:Int))=true→(l,bF st' true)=M:=fun h=>by
     rw [←hfin]; simp only [jh,if_pos hd,if_pos h]
    have hdl:bF st' true=bD st' 6 (aJ st').pos:=rfl;have hlb:((bF st' true).bad !=0)=true:=by rw [hdl]; simp [bD,eb]
    cases dA:((l.length:Int)==16)
    ·cases dB:decide ((4:Int)<(d:Int))
     ·have nA:l.length≠16:=fun e=>by rw [e] at dA; simp at dA
      have hno:¬(l.length=16∨decide ((4:Int)<(d:Int))=true):=fun h=>h.elim nA (fun e=>by rw [dB] at e; cases e)
      simp only [jh,if_pos hd,if_neg hno] at hfin;rw [dB] at hfin;have hd4:d≤4:=by have:=VD dB; omega
      simp only [go_sem,r0,r1,r5,hy.len,VA,dA,dB];refine (cK st' false ha.1).go hH ?_;rw [show bF st' false=st' from rfl,bZ hH]
      have h3:=hpa st' ha.1;have hrp:=hp st' ha.1 hru hd4;have hr3:=sW (hpr st') hru;obtain ⟨x,st2,e2⟩:∃x st2,pol st' =(x,st2):=⟨_,_,rfl⟩;rw [e2] at hfin hrp h3 hr3;obtain ⟨pid,pset,palg,ptgt,prules,pkids,pobls⟩:=x;simp only [aK] at hrp hfin h3 hr3;simp only [go_sem,r0,r1,r5,gP,db];refine hrp.go hH ?_;simp only [go_sem];refine (hy.put hB hH _).app (zs:= [aK ⟨pid,pset,palg,ptgt,prules,pkids,pobls⟩]) (by rw [F6]; decide) (by rw [Kl]; decide) (fun k hk=>hk) (by rw [F6]; exact uK l) (by rw [F6]; exact uK [⟨pid,pset,palg,ptgt,prules,pkids,pobls⟩]) (by rw [Kl]; simp; omega) fun y' H2 hy' hk2=> ?_
      have hH2:H2 id=some (PO st2):=hk2 _ _ _ (ah ..);simp only [go_sem];refine ⟨_, ?_,g,st2,l++ [⟨pid,pset,palg,ptgt,prules,pkids,pobls⟩],y',hH2,by rw [List.map_append]; exact hy',ha.trans h3,hr3,hfin,by simp; omega,by simp; omega,rfl, ?_, ?_, ?_⟩
      ·omega
      all_goals simp only [go_sem,r0,r1]
     ·have e:=lim (.inr dB)
      simp only [go_sem,r0,r1,r5,hy.len,VA,dA,dB];refine (cK st' true ha.1).go hH ?_;have g3:upd H id (some (PO (bF st' true))) id=some (PO (bF st' true)):=ah ..;unfold PO at g3;simp only [go_sem,r0,r5,g3,hlb,PO];exact .mk (h' :=upd G id (some (PO M.2))) (.sl (M.1.map aK) .no) (by rw [←e]; exact hy.weak) (by rw [←e]; exact ff (hy.put hB hH _).1 (ah ..)) ⟨rfl,rfl⟩
    ·have nA:l.length=16:=by have:(l.length:Int)=16:=(by simpa using dA); omega
     have e:=lim (.inl nA);simp only [go_sem,r0,r5,hy.len,VA,dA];refine (cK st' true ha.1).go hH ?_;have g3:upd H id (some (PO (bF st' true))) id=some (PO (bF st' true)):=ah ..;unfold PO at g3;simp only [go_sem,r0,r5,g3,hlb,PO];exact .mk (h' :=upd G id (some (PO M.2))) (.sl (M.1.map aK) .no) (by rw [←e]; exact hy.weak) (by rw [←e]; exact ff (hy.put hB hH _).1 (ah ..)) ⟨rfl,rfl⟩
  ·have hd:isD st' nv=true∨isD st' Da=true:=by first|exact .inl d1|exact .inr d2
   have eb:=(lp hd).1;have ek:=(lp hd).2;have db:(st'.bad !=0)=false:=by simp [eb]
   have gP:=hH;unfold PO at gP;have lim:l.length=16∨decide ((4:Int)<(d:Int))=true→(l,bF st' true)=M:=fun h=>by
    rw [←hfin]; simp only [jh,if_pos hd,if_pos h]
   have hdl:bF st' true=bD st' 6 (aJ st').pos:=rfl;have hlb:((bF st' true).bad !=0)=true:=by rw [hdl]; simp [bD,eb]
   cases dA:((l.length:Int)==16)
   ·cases dB:decide ((4:Int)<(d:Int))
    ·have nA:l.length≠16:=fun e=>by rw [e] at dA; simp at dA
     have hno:¬(l.length=16∨decide ((4:Int)<(d:Int))=true):=fun h=>h.elim nA (fun e=>by rw [dB] at e; cases e)
     simp only [jh,if_pos hd,if_neg hno] at hfin;rw [dB] at hfin;have hd4:d≤4:=by have:=VD dB; omega
     simp only [go_sem,r0,r1,r5,hy.len,VA,dA,dB];refine (cK st' false ha.1).go hH ?_;rw [show bF st' false=st' from rfl,bZ hH]
     have h3:=hpa st' ha.1;have hrp:=hp st' ha.1 hru hd4;have hr3:=sW (hpr st') hru;obtain ⟨x,st2,e2⟩:∃x st2,pol st' =(x,st2):=⟨_,_,rfl⟩;rw [e2] at hfin hrp h3 hr3;obtain ⟨pid,pset,palg,ptgt,prules,pkids,pobls⟩:=x;simp only [aK] at hrp hfin h3 hr3;simp only [go_sem,r0,r1,r5,gP,db];refine hrp.go hH ?_;simp only [go_sem];refine (hy.put hB hH _).app (zs:= [aK ⟨pid,pset,palg,ptgt,prules,pkids,pobls⟩]) (by rw [F6]; decide) (by rw [Kl]; decide) (fun k hk=>hk) (by rw [F6]; exact uK l) (by rw [F6]; exact uK [⟨pid,pset,palg,ptgt,prules,pkids,pobls⟩]) (by rw [Kl]; simp; omega) fun y' H2 hy' hk2=> ?_
     have hH2:H2 id=some (PO st2):=hk2 _ _ _ (ah ..);simp only [go_sem];refine ⟨_, ?_,g,st2,l++ [⟨pid,pset,palg,ptgt,prules,pkids,pobls⟩],y',hH2,by rw [List.map_append]; exact hy',ha.trans h3,hr3,hfin,by simp; omega,by simp; omega,rfl, ?_, ?_, ?_⟩
     ·omega
     all_goals simp only [go_sem,r0,r1]
    ·have e:=lim (.inr dB)
     simp only [go_sem,r0,r1,r5,hy.len,VA,dA,dB];refine (cK st' true ha.1).go hH ?_;have g3:upd H id (some (PO (bF st' true))) id=some (PO (bF st' true)):=ah ..;unfold PO at g3;simp only [go_sem,r0,r5,g3,hlb,PO];exact .mk (h' :=upd G id (some (PO M.2))) (.sl (M.1.map aK) .no) (by rw [←e]; exact hy.weak) (by rw [←e]; exact ff (hy.put hB hH _).1 (ah ..)) ⟨rfl,rfl⟩
   ·have nA:l.length=16:=by have:(l.length:Int)=16:=(by simpa using dA); omega
    have e:=lim (.inl nA);simp only [go_sem,r0,r5,hy.len,VA,dA];refine (cK st' true ha.1).go hH ?_;have g3:upd H id (some (PO (bF st' true))) id=some (PO (bF st' true)):=ah ..;unfold PO at g3;simp only [go_sem,r0,r5,g3,hlb,PO];exact .mk (h' :=upd G id (some (PO M.2))) (.sl (M.1.map aK) .no) (by rw [←e]; exact hy.weak) (by rw [←e]; exact ff (hy.put hB hH _).1 (ah ..)) ⟨rfl,rfl⟩
set_option maxRecDepth 20000 in
theorem Bq (r:Nat) (d:Nat) (hrd:r+d=4) (hp:∀st,WfP st→st.rules≤64→d+1≤4→PC 59 [.v (.int .i64 (d+1:Nat))] st (aK (gq r st).1) (gq r st).2) (st:PS) (hw:WfP st) (hr:st.rules≤64):
  PC 59 [.v (.int .i64 d)] st (aK (gq (r+1) st).1) (gq (r+1) st).2:= .of fun G id=>by
 have h1:=gj lu hw;have h2:=lJ h1.1;have h3:=gj u0 h2.1;have h4:=zc h3.1;have h5:Ah _ (cS st).2:=iM [123] h4.1;have ht:=Lc _ h3.1;simp only [aU] at ht;have hrh:=sW (Bw st).big hr;have hset:(cS st).1.1=((aY st lu).1==2):=rfl;have w1:=VG d (by omega)
 have hdp:(r==0)=decide ((4:Int)<((d+1:Nat):Int)):=by
  by_cases h:r=0
  ·rw [decide_eq_true (by omega),h]; rfl
  ·rw [decide_eq_false (by omega)]; simpa using h
 have hk:=Mf (gq r) (d+1) (by omega) hp (fun _ h=>uX r _ h) (zG r) _ h5.1 hrh
 have hs:=ME _ h5.1 hrh;refine ak.body hU hm Tryz.func59 rfl (by kernel_rfl) 39 rfl [.cell 4 37] rfl (Vz rfl) (fun hwf=> ?_)
 simp only [go_sem];intro i4 hi4;have n4:=aE hi4;have hG4:G i4=none:=by rw [ag _ _ n4] at hi4; exact hi4
 have c4:∀(f:Heap) (x y:Option Blk),upd (upd f id x) i4 y=upd (upd f i4 y) id x:=fun f x y=>cq f x y n4.symm
 simp only [go_sem,c4];intro i5 hi5;have n5:=aE hi5;have hi5' :=hi5;rw [ag _ _ n5] at hi5';have n54:=aE hi5';have m54:¬i5=i4:=n54;have m45:¬i4=i5:=n54.symm;have hG5:G i5=none:=by rw [ag _ _ n54] at hi5'; exact hi5'
 have c5:∀(f:Heap) (x y:Option Blk),upd (upd f id x) i5 y=upd (upd f i5 y) id x:=fun f x y=>cq f x y n5.symm
 have c45:∀(f:Heap) (x y:Option Blk),upd (upd f i5 x) i4 y=upd (upd f i4 y) i5 x:=fun f x y=>cq f x y n54
 simp only [go_sem,c5];refine (mu st lu .full (by decide) hw).run ?_
 simp only [go_sem,c5,aj,n5];refine (rT _ h1.1).run ?_;simp only [go_sem,c5,aj,n5];refine (mu _ u0 .full (by decide) h2.1).run ?_
 simp only [go_sem,c5,aj,n5];refine ht.run ?_;simp only [go_sem,c5,aj,n5];refine (jO _ [123] h4.1).run ?_;cases ds:((aY st lu).1==2)
 ·rw [ds] at hset
  simp only [go_sem,aj,n5];have eb:nN (gq r) (r==0) (cS st).1.1 (cS st).2=(((jq 17 (cS st).2 []).1,[]),(jq 17 (cS st).2 []).2):=by simp [nN,hset]
  have hb:=y8 (fun _ h=>uX r _ h) (r==0) (cS st).1.1 h5.1
  obtain ⟨⟨rl,stb⟩,er⟩:∃x,jq 17 (cS st).2 []=x:=⟨_,rfl⟩;rw [er] at eb hs;rw [eb] at hb;have ho:=rf _ (iM [125] hb.1).1;simp only [aA] at ho hs;refine hs.run ?_;simp only [go_sem,c5,aj,n5];refine (jO _ [125] hb.1).run ?_;simp only [go_sem];refine ho.run ?_;simp only [go_sem,c4,c5,c45,aj,n4,n5,m45];have efin:gq (r+1) st=(.mk (cS st).1.2.1 false (cS st).1.2.2.1 (cS st).1.2.2.2 rl [] (fV (dP stb [125])).1,(fV (dP stb [125])).2):=by simp only [gq,eb]; rw [hset]
  exact .mk (h' :=upd G id (some (PO (fV (dP stb [125])).2))) (aK (.mk (cS st).1.2.1 false (cS st).1.2.2.1 (cS st).1.2.2.2 rl [] (fV (dP stb [125])).1)) (fS _) (Sub.both (by repeat (first|exact .refl _|refine Sub.put ?_ (by assumption) _)) _ _) ⟨by rw [efin],by rw [efin]⟩
 ·rw [ds] at hset
  simp only [go_sem,aj,n5,w1];have eb:nN (gq r) (r==0) (cS st).1.1 (cS st).2=(([],(jh (gq r) (r==0) 17 (cS st).2 []).1),(jh (gq r) (r==0) 17 (cS st).2 []).2):=by simp [nN,hset]
  have hb:=y8 (fun _ h=>uX r _ h) (r==0) (cS st).1.1 h5.1
  rw [←hdp] at hk;obtain ⟨⟨kl,stb⟩,er⟩:∃x,jh (gq r) (r==0) 17 (cS st).2 []=x:=⟨_,rfl⟩;rw [er] at eb hk;rw [eb] at hb;have ho:=rf _ (iM [125] hb.1).1;simp only [aA] at ho hk;refine hk.run ?_;simp only [go_sem,c5,aj,n5];refine (jO _ [125] hb.1).run ?_;simp only [go_sem];refine ho.run ?_;simp only [go_sem,c4,c5,c45,aj,n4,n5,m45];have efin:gq (r+1) st=(.mk (cS st).1.2.1 true (cS st).1.2.2.1 (cS st).1.2.2.2 [] kl (fV (dP stb [125])).1,(fV (dP stb [125])).2):=by simp only [gq,eb]; rw [hset]
  exact .mk (h' :=upd G id (some (PO (fV (dP stb [125])).2))) (aK (.mk (cS st).1.2.1 true (cS st).1.2.2.1 (cS st).1.2.2.2 [] kl (fV (dP stb [125])).1)) (by simp only [aK,aX]; exact fS _) (Sub.both (by repeat (first|exact .refl _|refine Sub.put ?_ (by assumption) _)) _ _) ⟨by rw [efin],by rw [efin]⟩
theorem Bp:∀(r d:Nat),r+d=4→∀st,WfP st→st.rules≤64→PC 59 [.v (.int .i64 d)] st (aK (gq (r+1) st).1) (gq (r+1) st).2
 |0,d,hrd=>fun st hw hr=>Bq 0 d hrd (fun _ _ _ h=>absurd h (by omega)) st hw hr
 |r+1,d,hrd=>fun st hw hr=>Bq (r+1) d hrd (fun st hw hr _=>Bp r (d+1) (by omega) st hw hr) st hw hr
theorem Gv (l:List (List bN)) (h:Heap):ak Tryz.prog 172 [cN l] h fun r h' =>r= .v (.int .i64 (uu l))∧h' =h:=by
 refine ak.body hU hm Tryz.func172 rfl (by kernel_rfl) 25 rfl [.tmp 2] rfl (Vz rfl) (fun hwf=> ?_)
 simp only [go_sem,cN,VA];refine (DX _ _).pthen ?_;cases d1:(jx l.length !=0)
 case true=>
  have e1:jx l.length≠0:=by simpa using d1
  simp only [go_sem,d1];exact .same (.refl _) ⟨by simp [uu,e1,ax],rfl⟩
 have e1:jx l.length=0:=by simpa using d1
 have hlen:=A5 e1;simp only [go_sem,d1,VA];refine .intro (fun m ρ h' =>Ab.Sub h h'∧∃i:Nat,i≤l.length∧m=l.length - i∧gK ur (l.take i)=0∧lk ρ 13=some (cN l)∧lk ρ 14=some (.v (.int .i64 l.length))∧lk ρ 15=some (.v (.int .i64 i))) l.length ?_ ?_
 ·refine ⟨.refl _,0,by omega,rfl,rfl, ?_, ?_, ?_⟩<;>simp only [go_sem,cN]
 ·rintro m ρ h' ⟨hs,i,hi,rfl,hc,r12,r13,r14⟩
  simp only [go_sem,r13,r14];refine .intro (fun e=> ?_) (fun e=> ?_)
  ·have hlt:i<l.length:=VH e
   have w1:=VG i (by omega)
   simp only [go_sem,r12,r14,cN];refine .at i (by simpa using hlt) (by rw [VB]; rfl) ?_
   simp only [go_sem,VB,gW];refine (Gu l[i] _).pthen ?_;cases d2:(ur l[i] !=0)
   ·have e2:ur l[i]=0:=by simpa using d2
    simp only [go_sem,r14,d2,w1];refine ⟨_, ?_,hs,i+1,by omega,rfl,tL hlt hc e2, ?_, ?_, ?_⟩
    ·omega
    all_goals simp only [go_sem,r12,r13,cN]
   ·have e2:ur l[i]≠0:=by simpa using d2
    simp only [go_sem,d2];refine .mk _ (.refl _) hs ⟨?_,rfl⟩;simp [uu,e1,xX hlt hc e2,ax]
  ·have hge:i=l.length:=by have:=VD e; omega
   subst hge;rw [List.take_length] at hc;simp only [go_sem];exact .mk _ (.refl _) hs ⟨by simp [uu,e1,hc,ax],rfl⟩
theorem sY (l:fT) (h:Heap):ak Tryz.prog 146 [aU l] h fun r h' =>r= .v (.int .i64 (j9 l))∧h' =h:=by
 refine ak.body hU hm Tryz.func146 rfl (by kernel_rfl) 21 rfl [.tmp 2] rfl (Vz rfl) (fun hwf=> ?_)
 cases d1:decide (8<(l.length:Int))
 case true=>
  have e1:8<l.length:=by have:=VC d1; omega
  simp only [go_sem,aU,VA,d1];exact .same (.refl _) ⟨by simp [j9,e1,ax],rfl⟩
 have e1:¬8<l.length:=by have:=VD d1; omega
 simp only [go_sem,d1,aU,VA];refine .intro (fun m ρ h' =>Ab.Sub h h'∧∃i:Nat,i≤l.length∧m=l.length - i∧gK uu (l.take i)=0∧lk ρ 9=some (aU l)∧lk ρ 10=some (.v (.int .i64 l.length))∧lk ρ 11=some (.v (.int .i64 i))) l.length ?_ ?_
 ·refine ⟨.refl _,0,by omega,rfl,rfl, ?_, ?_, ?_⟩<;>simp only [go_sem,aU]
 ·rintro m ρ h' ⟨hs,i,hi,rfl,hc,r12,r13,r14⟩
  simp only [go_sem,r13,r14];refine .intro (fun e=> ?_) (fun e=> ?_)
  ·have hlt:i<l.length:=VH e
   have w1:=VG i (by omega)
   simp only [go_sem,r12,r14,aU];refine .at i (by simpa using hlt) (by rw [VB]; rfl) ?_
   simp only [go_sem,VB,cN];refine (Gv l[i] _).pthen ?_;cases d2:(uu l[i] !=0)
   ·have e2:uu l[i]=0:=by simpa using d2
    simp only [go_sem,r14,d2,w1];refine ⟨_, ?_,hs,i+1,by omega,rfl,tL hlt hc e2, ?_, ?_, ?_⟩
    ·omega
    all_goals simp only [go_sem,r12,r13,aU]
   ·have e2:uu l[i]≠0:=by simpa using d2
    simp only [go_sem,d2];refine .mk _ (.refl _) hs ⟨?_,rfl⟩;simp [j9,e1,xX hlt hc e2,ax]
  ·have hge:i=l.length:=by have:=VD e; omega
   subst hge;rw [List.take_length] at hc;simp only [go_sem];exact .mk _ (.refl _) hs ⟨by simp [j9,e1,hc,ax],rfl⟩
theorem zC (l:List cA) (h:Heap):ak Tryz.prog 147 [aA l] h fun r h' =>r= .v (.int .i64 (gO l))∧h' =h:=by
 refine ak.body hU hm Tryz.func147 rfl (by kernel_rfl) 39 rfl [.tmp 2] rfl (Vz rfl) (fun hwf=> ?_)
 cases d1:decide (8<(l.length:Int))
 case true=>
  have e1:8<l.length:=by have:=VC d1; omega
  simp only [go_sem,aA,VA,d1];exact .same (.refl _) ⟨by simp [gO,e1,ax],rfl⟩
 have e1:¬8<l.length:=by have:=VD d1; omega
 simp only [go_sem,d1,aA,VA];refine .intro (fun m ρ h' =>Ab.Sub h h'∧∃i:Nat,i≤l.length∧m=l.length - i∧(l.take i).all oY=true∧lk ρ 8=some (aA l)∧lk ρ 9=some (.v (.int .i64 l.length))∧lk ρ 10=some (.v (.int .i64 i))) l.length ?_ ?_
 ·refine ⟨.refl _,0,by omega,rfl,rfl, ?_, ?_, ?_⟩<;>simp only [go_sem,aA]
 ·rintro m ρ h' ⟨hs,i,hi,rfl,hc,r12,r13,r14⟩
  simp only [go_sem,r13,r14];refine .intro (fun e=> ?_) (fun e=> ?_)
  ·have hlt:i<l.length:=VH e
   have w1:=VG i (by omega)
   simp only [go_sem,r12,r14,aA];refine .at i (by simpa using hlt) (by rw [VB]; rfl) ?_
   simp only [go_sem,VB,bp];intro id hid;have bad:oY l[i]=false→gO l=1:=fun hb=>by
    have:l.all oY=false:=List.all_eq_false.2 ⟨_,VF hlt,by simp [hb]⟩
    simp [gO,e1,this]
   cases c1:decide (l[i].on<1)
   case true=>
    simp only [go_sem,c1];exact .mk _ (.refl _) (hs.new hid _) ⟨by rw [bad (by have:=VC c1; simp [oY]; omega)]; rfl,rfl⟩
   cases c2:decide (2<l[i].on)
   case true=>
    simp only [go_sem,c1,c2];exact .mk _ (.refl _) (hs.new hid _) ⟨by rw [bad (by have:=VC c2; simp [oY]; omega)]; rfl,rfl⟩
   cases c3:decide (l[i].kind<1)
   case true=>
    simp only [go_sem,c1,c2,c3];exact .mk _ (.refl _) (hs.new hid _) ⟨by rw [bad (by have:=VC c3; simp [oY]; omega)]; rfl,rfl⟩
   cases c4:decide (4<l[i].kind)
   case true=>
    simp only [go_sem,c1,c2,c3,c4];exact .mk _ (.refl _) (hs.new hid _) ⟨by rw [bad (by have:=VC c4; simp [oY]; omega)]; rfl,rfl⟩
   simp only [go_sem,c1,c2,c3,c4];refine (mZ _ _).pthen ?_;cases d2:bf l[i].arg
   ·simp only [go_sem]
    exact .mk _ (.refl _) (hs.new hid _) ⟨by rw [bad (by simp [oY,d2])]; rfl,rfl⟩
   ·simp only [go_sem,r14,w1]
    refine ⟨_, ?_,hs.new hid _,i+1,by omega,rfl, ?_, ?_, ?_, ?_⟩
    ·omega
    ·have f1:=VD c1
     have f2:=VD c2;have f3:=VD c3;have f4:=VD c4;rw [List.take_succ_eq_append_getElem hlt,List.all_append,hc]; simp [oY,d2]; omega
    all_goals simp only [go_sem,r12,r13,aA]
  ·have hge:i=l.length:=by have:=VD e; omega
   subst hge;rw [List.take_length] at hc;simp only [go_sem];exact .mk _ (.refl _) hs ⟨by simp [gO,e1,hc,ax],rfl⟩
theorem IY (op:Int) (h:Heap):ak Tryz.prog 196 [.v (.int .i64 op)] h fun r h' =>r=(match gU op with
  |none=> .tup [.sl [] .no, .v (.bool false)]
  |some w=> .tup [.sl (w.map jd) .no, .v (.bool true)])∧h' =h:=by
 refine ak.body hU hm Tryz.func196 rfl (by kernel_rfl) 35 rfl [.tmp 2, .tmp 3] rfl (Vz rfl) (fun hwf=> ?_)
 cases k1:(op==1)
 case true=>
  have e1:op=1:=by simpa using k1
  simp only [go_sem,k1];exact .mk _ (fk _) (.refl _) ⟨by simp [gU,e1,ax,strip,fA],rfl⟩
 have n1:op≠1:=by simpa using k1
 cases k2:(op==2)
 case true=>
  have e1:op=2:=by simpa using k2
  simp only [go_sem,k1,k2];exact .mk _ (fk _) (.refl _) ⟨by simp [gU,e1,ax,strip,fA],rfl⟩
 have n2:op≠2:=by simpa using k2
 cases k3:(op==3)
 case true=>
  have e1:op=3:=by simpa using k3
  simp only [go_sem,k1,k2,k3];exact .mk _ (fk _) (.refl _) ⟨by simp [gU,e1,ax,strip,fA,jd],rfl⟩
 have n3:op≠3:=by simpa using k3
 cases k4:(op==4)
 case true=>
  have e1:op=4:=by simpa using k4
  simp only [go_sem,k1,k2,k3,k4];exact .mk _ (fk _) (.refl _) ⟨by simp [gU,e1,ax,strip,fA,jd],rfl⟩
 have n4:op≠4:=by simpa using k4
 cases k5:(op==5)
 case true=>
  have e1:op=5:=by simpa using k5
  simp only [go_sem,k1,k2,k3,k4,k5];exact .mk _ (fk _) (.refl _) ⟨by simp [gU,e1,ax,strip,fA,jd],rfl⟩
 have n5:op≠5:=by simpa using k5
 cases k11:(op==11)
 case true=>
  have e1:op=11:=by simpa using k11
  simp only [go_sem,k1,k2,k3,k4,k5,k11];exact .mk _ (fk _) (.refl _) ⟨by simp [gU,e1,ax,strip,fA,jd],rfl⟩
 have n11:op≠11:=by simpa using k11
 cases k6:decide (6≤op)
 ·have n6:=VD k6
  simp only [go_sem,k1,k2,k3,k4,k5,k11,k6];exact .mk _ (fk _) (.refl _) ⟨by simp [gU,n1,n2,n3,n4,n5,n11,n6,ax,strip,fA],rfl⟩
 cases k13:decide (op≤13)
 ·have n13:=VD k13
  simp only [go_sem,k1,k2,k3,k4,k5,k11,k6,k13];exact .mk _ (fk _) (.refl _) ⟨by simp [gU,n1,n2,n3,n4,n5,n11,n13,ax,strip,fA],rfl⟩
 have n6:=VC k6;have n13:=VC k13;simp only [go_sem,k1,k2,k3,k4,k5,k11,k6,k13];exact .mk _ (fk _) (.refl _) ⟨by simp [gU,n1,n2,n3,n4,n5,n11,n6,n13,ax,strip,fA,jd],rfl⟩
theorem ES (n:aP) (h:Heap):ak Tryz.prog 197 [cZ n] h fun r h' =>r= .v (.bool (je n))∧h' =h:=by
 refine ak.body hU hm Tryz.func197 rfl (by kernel_rfl) 37 rfl [.tmp 2] rfl (Vz rfl) (fun hwf=> ?_)
 simp only [go_sem,cZ];intro id hid;have fa:∀x y z:Bool,(x && (y && (z && true)))=(x && (y && (z && true))):=fun _ _ _=>rfl
 cases k1:(n.op==1)
 case true=>
  have e1:n.op=1:=by simpa using k1
  simp only [go_sem,k1];refine (ja n.val _).pthen ?_;cases d0:b7 n.val
  ·simp only [go_sem]
   exact .mk _ (.refl _) (.ai hid) ⟨by simp [je,e1,d0,ax],rfl⟩
  ·simp only [go_sem]
   exact .mk _ (.refl _) (.ai hid) ⟨by simp [je,e1,d0,ax,zeroAt],rfl⟩
 have n1:n.op≠1:=by simpa using k1
 cases k2:(n.op==2)
 case true=>
  have e1:n.op=2:=by simpa using k2
  simp only [go_sem,k1,k2];refine (DC n.attr _).pthen ?_;cases d0:od n.attr
  ·simp only [go_sem]
   exact .mk _ (.refl _) (.ai hid) ⟨by simp [je,e1,d0,ax],rfl⟩
  ·simp only [go_sem]
   exact .mk _ (.refl _) (.ai hid) ⟨by simp [je,e1,d0,ax,zeroV],rfl⟩
 have n2:n.op≠2:=by simpa using k2
 cases d0:zeroV n.val
 ·have d1:=d0
  unfold zeroV at d1;simp only [go_sem,k1,k2,d1];exact .mk _ (.refl _) (.ai hid) ⟨by simp [je,n1,n2,d0,ax],rfl⟩
 ·have d1:=d0
  unfold zeroV at d1;simp only [go_sem,k1,k2,d1];exact .mk _ (.refl _) (.ai hid) ⟨by simp [je,n1,n2,d0,ax,zeroAt],rfl⟩
theorem u4:(U 4).sz=1:=by simp only [go_sem]
theorem u4a:(U 4).k.agg=false:=by simp only [go_sem]
theorem u4b:(U 4).bytes=1:=by simp only [go_sem]
theorem u4f:fit (U 4).zero 1:=by simp only [go_sem]
theorem u4n:bA (U 4).zero=false:=by simp only [go_sem]
theorem DD (l:List Bool):One (l.map jd):=One.map (fun _=>rfl) l
theorem Kb (y:AV) (st:List Bool) (n:aP) (h0 h:Heap) (hy:WrA 4 h0 h y (st.map jd)) (hl:st.length≤1000000):
  ak Tryz.prog 173 [y,cZ n] h fun r h' =>∃z,r= .tup [z, .v (.bool (gT st n).isSome)]∧match gT st n with
   |none=>Ab.Sub h0 h'
   |some st' =>WrA 4 h0 h' z (st'.map jd):=by
 refine ak.body hU hm Tryz.func173 rfl (by kernel_rfl) 60 rfl [.tmp 4, .tmp 5] rfl (Vz rfl) (fun hwf=> ?_)
 simp only [go_sem,cZ];intro id hid;simp only [go_sem];have hyb:=hy.base hid (some (.obj [.v (.int .i64 n.op), .v (.int .i64 n.val.kind), .v (.int .i64 n.val.n), .s n.val.s, .v (.int .i64 n.attr.cat), .s n.attr.name, .v (.bool n.attr.must)] 226));have hw:=IY n.op (upd h id (some (.obj [.v (.int .i64 n.op), .v (.int .i64 n.val.kind), .v (.int .i64 n.val.n), .s n.val.s, .v (.int .i64 n.attr.cat), .s n.attr.name, .v (.bool n.attr.must)] 226)));cases hwd:gU n.op with
 |none=>
  rw [hwd] at hw;have hst:gT st n=none:=by simp [gT,hwd]
  refine hw.pthen ?_;simp only [go_sem];exact .mk _ (.refl _) (.ai hid) ⟨_,by rw [hst]; rfl,by rw [hst]; exact hy.1⟩
 |some w=>
  rw [hwd] at hw;have hwl:w.length≤2:=by
   unfold gU at hwd
   repeat' split at hwd
   all_goals first|(cases hwd; simp; done)|(cases hwd)
  refine hw.pthen ?_;simp only [go_sem];refine (ES n _).pthen ?_;cases d1:je n
  ·have hst:gT st n=none:=by simp [gT,hwd,d1]
   simp only [go_sem];exact .mk _ (.refl _) (.ai hid) ⟨_,by rw [hst]; rfl,by rw [hst]; exact hy.1⟩
  cases d2:decide ((st.length:Int)<(w.length:Int))
  case true=>
   have e2:¬w.length≤st.length:=by have:=VC d2; omega
   have hst:gT st n=none:=by simp [gT,hwd,d1,e2]
   simp only [go_sem,hyb.len,VA,d2];exact .mk _ (.refl _) (.ai hid) ⟨_,by rw [hst]; rfl,by rw [hst]; exact hy.1⟩
  have e2:w.length≤st.length:=by have:=VD d2; omega
  have w1:IntKind.i64.wrap ((st.length:Int) - (w.length:Int))=((st.length - w.length:Nat):Int):=by rw [bu _ (by omega)]; omega
  obtain ⟨hb,ehb⟩:∃hb,upd h id (some (.obj [.v (.int .i64 n.op), .v (.int .i64 n.val.kind), .v (.int .i64 n.val.n), .s n.val.s, .v (.int .i64 n.attr.cat), .s n.attr.name, .v (.bool n.attr.must)] 226))=hb:=⟨_,rfl⟩;have hbid:hb id=some (.obj [.v (.int .i64 n.op), .v (.int .i64 n.val.kind), .v (.int .i64 n.val.n), .s n.val.s, .v (.int .i64 n.attr.cat), .s n.attr.name, .v (.bool n.attr.must)] 226):=by rw [←ehb]; exact ah ..
  have hsub:Ab.Sub h hb:=by rw [←ehb]; exact .ai hid
  rw [ehb] at hyb⊢;simp only [go_sem,hyb.len,VA,d2,w1];refine .intro (fun m ρ h' =>h' =hb∧∃i:Nat,i≤w.length∧m=w.length - i∧(∀j,j<i→st[st.length - w.length+j]? =w[j]?)∧lk ρ 0=some y∧lk ρ 3=some (.ptr id 0)∧lk ρ 8=some (.v (.int .i64 ((st.length - w.length:Nat):Int)))∧lk ρ 36=some (.sl (w.map jd) .no)∧lk ρ 37=some (.v (.int .i64 w.length))∧lk ρ 38=some (.v (.int .i64 i))) w.length ?_ ?_
  ·refine ⟨rfl,0,by omega,rfl,fun j hj=>(by omega), ?_, ?_, ?_, ?_, ?_, ?_⟩<;>simp only [go_sem]
  ·rintro m ρ h' ⟨rfl,i,hi,rfl,hc,r0,r3,r8,r36,r37,r38⟩
   simp only [go_sem,r37,r38];refine .intro (fun e=> ?_) (fun e=> ?_)
   ·have hlt:i<w.length:=VH e
    have w2:=VG i (by omega)
    have w3:IntKind.i64.wrap (((st.length - w.length:Nat):Int)+(i:Int))=((st.length - w.length+i:Nat):Int):=by rw [bu _ (by omega)]; omega
    have hlt2:st.length - w.length+i<st.length:=by omega
    simp only [go_sem,r36,r38];refine .at i (by simpa using hlt) (by rw [VB]; rfl) ?_
    simp only [go_sem,r0,r8,VB,jd,w3];refine hyb.idx (DD st) (st.length - w.length+i) rfl (by simpa using hlt2) u4 u4a fun p hp=> ?_
    simp only [go_sem,hp _,VB,jd];cases d3:(st[st.length - w.length+i]==w[i])
    ·have hst:gT st n=none:=by
      have:st.drop (st.length - w.length)≠w:=fun hh=>by
       have:=congrArg (fun q=>q[i]?) hh
       simp only [List.getElem?_drop,List.getElem?_eq_getElem hlt,List.getElem?_eq_getElem hlt2,Option.some.injEq] at this;rw [this] at d3; simp at d3
      simp [gT,hwd,this]
     simp only [go_sem];exact .mk _ (.refl _) hsub ⟨_,by rw [hst]; rfl,by rw [hst]; exact hy.1⟩
    ·simp only [go_sem,r38,w2]
     refine ⟨_, ?_,rfl,i+1,by omega,rfl,fun j hj=> ?_, ?_, ?_, ?_, ?_, ?_, ?_⟩
     ·omega
     ·by_cases hji:j=i
      ·subst hji
       rw [List.getElem?_eq_getElem hlt2,List.getElem?_eq_getElem hlt];simpa using d3
      ·exact hc j (by omega)
     all_goals simp only [go_sem,r0,r3,r8,r36,r37]
   ·have hge:i=w.length:=by have:=VD e; omega
    subst hge;have hdrop:st.drop (st.length - w.length)=w:=by
     apply List.ext_getElem?;intro j;rw [List.getElem?_drop]
     by_cases hj:j<w.length
     ·exact hc j hj
     ·rw [List.getElem?_eq_none (by omega),List.getElem?_eq_none (by omega)]
    have hst:gT st n=some (st.take (st.length - w.length)++ [n.op==2]):=by
     simp [gT,hwd,d1,e2,hdrop]
    simp only [go_sem];refine .calls (hm1 id _) [0,1,2,3,4,5,6,7,8,9] (.hm1 hbid) (by kernel_rfl) rfl ?_
    simp only [go_sem,r0,r8];refine hyb.cut (x:= .i64) (st.length - w.length) (by simp only [go_sem]) rfl (by simp) u4 fun z hz=> ?_
    rw [←List.map_take] at hz;simp only [go_sem,r3,fP];refine hz.app (zs:= [.v (.bool (n.op==2))]) (DD _) (DD [n.op==2]) u4 (by rw [u4b]; decide) u4f u4n (fun k hk=>hk) (by rw [u4b]; simp; omega) fun z' h2 hz' => ?_
    refine ⟨fun j b hj=>((Sub.hm1 (ah ..)).trans hz'.1) j b hj, ?_⟩
    simp only [go_sem];have hz2:=hz'.less (Sub.ai (hy.1.none hid));refine .same (.refl _) ⟨z',by rw [hst]; rfl, ?_⟩
    rw [hst];simp only [List.map_append];exact hz2
theorem Cg {l:List aP} (h:l.length≤32) (hs:fz [] l=none):jw l=1:=by
 simp [jw,hs,Nat.not_lt.2 h]
theorem js (st:List Bool):∀(l:List aP) (i:Nat),fz st l=(match fz st (l.take i) with
  |none=>none
  |some st' =>fz st' (l.drop i))
 | [],i=>by simp [fz]
 |n::r,0=>by simp [fz]
 |n::r,i+1=>by
  simp only [List.take_succ_cons,List.drop_succ_cons,fz];cases gT st n with
  |none=>rfl
  |some st' =>simp only; exact js st' r i
theorem qo (st st' :List Bool) (l:List aP) (h:fz st l=some st'):st'.length≤st.length+l.length:=by
 induction l generalizing st with
 |nil=>simp only [fz,Option.some.injEq] at h; subst h; simp
 |cons n r ih=>
  simp only [fz] at h;cases hs:gT st n with
  |none=>rw [hs] at h; cases h
  |some s2=>
   rw [hs] at h;have:=ih s2 h;unfold gT at hs;split at hs
   ·cases hs
   ·split at hs
    ·cases hs
     simp at this⊢;omega
    ·cases hs
theorem DK (l:List aP) (h:Heap):ak Tryz.prog 148 [fh l] h fun r h' =>r= .v (.int .i64 (jw l))∧h' =h:=by
 refine ak.body hU hm Tryz.func148 rfl (by kernel_rfl) 38 rfl [.tmp 2] rfl (Vz rfl) (fun hwf=> ?_)
 cases d1:decide (32<(l.length:Int))
 case true=>
  have e1:32<l.length:=by have:=VC d1; omega
  simp only [go_sem,fh,VA,d1];exact .same (.refl _) ⟨by simp [jw,e1,ax],rfl⟩
 have e1:l.length≤32:=by have:=VD d1; omega
 simp only [go_sem,fh,VA,d1];refine .intro (fun m ρ h' =>∃(i:Nat) (y:AV) (st:List Bool),WrA 4 h h' y (st.map jd)∧fz [] (l.take i)=some st∧i≤l.length∧m=l.length - i∧
  lk ρ 0=some (fh l)∧lk ρ 3=some y∧lk ρ 10=some (fh l)∧lk ρ 11=some (.v (.int .i64 l.length))∧lk ρ 12=some (.v (.int .i64 i))) l.length ?_ ?_
 ·refine ⟨0,_,[], .nil (.refl _),rfl,by omega,rfl, ?_, ?_, ?_, ?_, ?_⟩<;>simp only [go_sem,fh]
 ·rintro m ρ h' ⟨i,y,st,hy,hst,hi,rfl,r0,r3,r10,r11,r12⟩
  have hsl:=qo _ _ _ hst;have hsl:st.length≤i:=by simpa [Nat.min_eq_left hi] using hsl
  simp only [go_sem,r11,r12];refine .intro (fun e=> ?_) (fun e=> ?_)
  ·have hlt:i<l.length:=VH e
   have w1:=VG i (by omega)
   have hnx:fz [] (l.take (i+1))=gT st l[i]:=by
    rw [js [] _ i,List.take_take,Nat.min_eq_left (by omega),hst,List.take_succ_eq_append_getElem hlt,List.drop_append_of_le_length (by simp; omega),List.drop_of_length_le (by simp; omega)]
    simp only [List.nil_append,fz];cases gT st l[i]<;>rfl
   simp only [go_sem,r10,r12,fh];refine .at i (by simpa using hlt) (by rw [VB]; rfl) ?_
   simp only [go_sem,VB,cZ];intro id hid;simp only [go_sem,r3];have hyb:=hy.sub (Sub.ai (k:=some (.obj [.v (.int .i64 l[i].op), .v (.int .i64 l[i].val.kind), .v (.int .i64 l[i].val.n), .s l[i].val.s, .v (.int .i64 l[i].attr.cat), .s l[i].attr.name, .v (.bool l[i].attr.must)] 226)) hid);refine (Kb y st l[i] h _ hyb (by omega)).mono fun r h2 ⟨z,e2,hz⟩=> ?_
   subst e2;cases hsd:gT st l[i] with
   |none=>
    rw [hsd] at hz;simp only [go_sem,Option.isSome_none];refine .mk _ (.refl _) hz ⟨?_,rfl⟩;rw [Cg e1 (by rw [js [] l (i+1),hnx,hsd])]; rfl
   |some st' =>
    rw [hsd] at hz hnx;simp only [go_sem,r12,Option.isSome_some,w1];refine ⟨_, ?_,i+1,z,st',hz,hnx,by omega,rfl, ?_, ?_, ?_, ?_, ?_⟩
    ·omega
    all_goals simp only [go_sem,r0,r10,r11,fh]
  ·have hge:i=l.length:=by have:=VD e; omega
   subst hge;rw [List.take_length] at hst;have he:jw l=if l= []∨st= [false] then 0 else 1:=by
    simp only [jw,hst];rw [if_neg (by omega)]
   cases d2:decide (0<(l.length:Int))
   ·have e2:l= []:=by have:=VD d2; exact List.length_eq_zero_iff.1 (by omega)
    simp only [go_sem,r0,fh,VA,d2];exact .mk _ (.refl _) hy.1 ⟨by rw [he,if_pos (.inl e2)]; rfl,rfl⟩
   have e2:l≠ []:=by rintro rfl; simp at d2
   cases d3:((st.length:Int) !=1)
   case true=>
    have e3:st≠ [false]:=by rintro rfl; simp at d3
    simp only [go_sem,r0,r3,fh,VA,d2,hy.len,d3];exact .mk _ (.refl _) hy.1 ⟨by rw [he,if_neg (by simp [e2,e3])]; rfl,rfl⟩
   have e3:st.length=1:=by
    have:(st.length:Int)=1:=by simpa using d3
    omega
   obtain ⟨b,rfl⟩:=List.length_eq_one_iff.1 e3;simp only [go_sem,r0,r3,fh,VA,d2,hy.len];refine hy.idx (DD [b]) 0 rfl (by simp) u4 u4a fun p hp=> ?_
   simp only [go_sem,hp _,jd,List.getElem_cons_zero];cases b
   ·simp only [go_sem]
    exact .mk _ (.refl _) hy.1 ⟨by rw [he,if_pos (.inr rfl)]; rfl,rfl⟩
   ·simp only [go_sem]
    exact .mk _ (.refl _) hy.1 ⟨by rw [he,if_neg (by simp [e2])]; rfl,rfl⟩
def Keeps (S:List Nat) (h h' :Heap):Prop:=∀j k,j∉S→h j=some k→h' j=some k
theorem Keeps.trans {S:List Nat} {a b c:Heap} (x:Keeps S a b) (y:Keeps S b c):Keeps S a c:=fun j k hj e=>y j k hj (x j k hj e)
theorem Keeps.of {S:List Nat} {a b:Heap} (x:Ab.Sub a b):Keeps S a b:=fun j k _ e=>x j k e
theorem Keeps.upd {S:List Nat} {a:Heap} {i:Nat} {b:Option Blk} (hi:i∈S):Keeps S a (Ab.upd a i b):=fun j k hj e=>by
 rw [ag _ _ (fun e=>hj (by rw [e]; exact hi))]; exact e
def gx (h:Heap) (idw mid:Nat) (m:dV):Prop:=h idw=some (.obj [.mp mid, .v (.int .i64 m.rules)] 158)∧h mid=some (.mp (xu m.met))∧(∀l∈m.met,l.length≤16)∧m.rules≤64
theorem gx.ne {h:Heap} {idw mid:Nat} {m:dV} (hw:gx h idw mid m):idw≠mid:=fun e=>by
 have h1:=hw.1; have h2:=hw.2.1
 rw [e,h2] at h1; cases h1
theorem gx.keep {h h' :Heap} {idw mid:Nat} {m:dV} (hw:gx h idw mid m) (hs:Ab.Sub h h'):gx h' idw mid m:=⟨hs _ _ hw.1,hs _ _ hw.2.1,hw.2.2⟩
theorem Rr:(U 256).sz=0:=by simp only [go_sem]
theorem CU {s:Txt} (h:bf s=true):s.length≤16:=by
 simp [bf] at h; exact h.2
theorem vU {m:dV} {s:Txt} (h:s∈m.met∨bf s=false):iJ m s=none:=by
 unfold iJ;rw [if_neg]
 rintro ⟨h1,h2⟩
 rcases h with h|h
 ·exact h1 h
 ·rw [h] at h2; cases h2
theorem BZ (idw mid:Nat) (m:dV) (s:Txt) (h:Heap) (hw:gx h idw mid m):ak Tryz.prog 145 [.ptr idw 0, .s s] h fun r h' =>match iJ m s with
  |none=>r= .v (.bool false)∧Ab.Sub h h'
  |some m' =>r= .v (.bool true)∧Keeps [idw,mid] h h'∧gx h' idw mid m' :=by
 refine ak.body hU hm Tryz.func145 rfl (by kernel_rfl) 28 rfl [.tmp 4] rfl (Vz rfl) (fun hwf=> ?_)
 obtain ⟨w1,w2,w3,w4⟩:=hw;have hlen:s.length≤maxLen:=by
  have:=hwf (.s s) (by simp)
  simp only [wfA,wf1,lim] at this;unfold maxLen; omega
 have hkeys:xI .str (xu m.met):=Fm fun l hl=>by have:=w3 l hl; unfold maxLen; omega
 simp only [go_sem,w1,w2];refine ⟨hlen, .inr (by simp only [go_sem]),hkeys, ?_⟩
 rw [Fq _ _ Rr];simp only [go_sem];intro idv hidv;simp only [go_sem];cases d1:decide (s∈m.met)
 case true=>
  have hm:=vU (.inl (VC d1));simp only [go_sem];rw [hm];exact .mk _ (.refl _) (.ai hidv) ⟨rfl, .refl _⟩
 have e1:=VD d1;simp only [go_sem];refine (mZ _ _).pthen ?_;cases d2:bf s
 ·have hm:=vU (m:=m) (.inr d2)
  simp only [go_sem];rw [hm];exact .mk _ (.refl _) (.ai hidv) ⟨rfl, .refl _⟩
 have hm:iJ m s=some ⟨m.met++ [s],m.rules⟩:=by simp [iJ,e1,d2]
 have hne:=gx.ne ⟨w1,w2,w3,w4⟩;have n1:idw≠idv:=fun e=>by rw [e,hidv] at w1; cases w1
 have n2:mid≠idv:=fun e=>by rw [e,hidv] at w2; cases w2
 have w1' :upd h idv (some (.obj [] 256)) idw=some (.obj [.mp mid, .v (.int .i64 m.rules)] 158):=by rw [ag _ _ n1]; exact w1
 have w2' :upd h idv (some (.obj [] 256)) mid=some (.mp (xu m.met)):=by rw [ag _ _ n2]; exact w2
 simp only [go_sem,w1',w2'];refine ⟨hlen,hkeys, ?_⟩;rw [IC e1];rw [hm];refine .same (.refl _) ⟨rfl,(Keeps.of (.ai hidv)).trans (.upd (by simp)), ?_, ?_, ?_,w4⟩
 ·rw [ag _ _ hne]; exact w1'
 ·rw [ah]
 ·intro l hl
  rcases List.mem_append.1 hl with hl|hl
  ·exact w3 l hl
  ·rw [List.mem_singleton.1 hl]; exact CU d2
theorem I2 (idw mid:Nat) (m:dV) (r:cQ) (h:Heap) (hw:gx h idw mid m):ak Tryz.prog 113 [.ptr idw 0,aC r] h fun x h' =>x= .v (.int .i64 (fW m r).err)∧Keeps [idw,mid] h h'∧∀m',fW m r= .ok m'→gx h' idw mid m' :=by
 refine ak.body hU hm Tryz.func113 rfl (by kernel_rfl) 39 rfl [.tmp 4] rfl (Vz rfl) (fun hwf=> ?_)
 simp only [go_sem,aC,aU,fh,aA];intro id hid;have n1:idw≠id:=fun e=>by have:=hw.1; rw [e,hid] at this; cases this
 have n2:mid≠id:=fun e=>by have:=hw.2.1; rw [e,hid] at this; cases this
 have hwb:=hw.keep (Sub.ai (k:=some (.obj [.s r.id, .v (.bool r.deny), .sl (r.tgt.map cN) .no, .sl (r.cond.map cZ) .no, .sl (r.obls.map bp) .no] 164)) hid);have hk0:Keeps [idw,mid] h (upd h id (some (.obj [.s r.id, .v (.bool r.deny), .sl (r.tgt.map cN) .no, .sl (r.cond.map cZ) .no, .sl (r.obls.map bp) .no] 164))):= .of (.ai hid);simp only [go_sem];obtain ⟨hb,ehb⟩:∃hb,upd h id (some (.obj [.s r.id, .v (.bool r.deny), .sl (r.tgt.map cN) .no, .sl (r.cond.map cZ) .no, .sl (r.obls.map bp) .no] 164))=hb:=⟨_,rfl⟩;have hbid:hb id=some (.obj [.s r.id, .v (.bool r.deny), .sl (r.tgt.map cN) .no, .sl (r.cond.map cZ) .no, .sl (r.obls.map bp) .no] 164):=by rw [←ehb]; exact ah ..
 rw [ehb] at hwb hk0⊢;refine (BZ idw mid m r.id hb hwb).mono fun x h2 hx=> ?_
 cases hm:iJ m r.id with
 |none=>
  rw [hm] at hx;obtain ⟨rfl,hs⟩:=hx;have hr:fW m r= .bad 1:=by simp [fW,hm]
  simp only [go_sem];exact .same (.refl _) ⟨by rw [hr]; rfl,hk0.trans (.of hs),fun m' h' =>by rw [hr] at h'; cases h'⟩
 |some m1=>
  rw [hm] at hx;obtain ⟨rfl,hk,hw2⟩:=hx;have g2:=hw2.1;have hle:=hw2.2.2.2;have hid2:h2 id=some (.obj [.s r.id, .v (.bool r.deny), .sl (r.tgt.map cN) .no, .sl (r.cond.map cZ) .no, .sl (r.obls.map bp) .no] 164):=hk id _ (by simp [n1.symm,n2.symm]) hbid
  have w1:IntKind.i64.wrap ((m1.rules:Int)+1)=((m1.rules+1:Nat):Int):=by rw [bu _ (by omega)]; omega
  have hk3:Keeps [idw,mid] h (upd h2 idw (some (.obj [.mp mid, .v (.int .i64 ((m1.rules+1:Nat):Int))] 158))):=(hk0.trans hk).trans (.upd (by simp))
  have hid3:upd h2 idw (some (.obj [.mp mid, .v (.int .i64 ((m1.rules+1:Nat):Int))] 158)) id=some (.obj [.s r.id, .v (.bool r.deny), .sl (r.tgt.map cN) .no, .sl (r.cond.map cZ) .no, .sl (r.obls.map bp) .no] 164):=by
   rw [ag _ _ n1.symm]; exact hid2
  cases d1:decide (64<((m1.rules+1:Nat):Int))
  case true=>
   have e1:m1.rules+1>64:=by have:=VC d1; omega
   have hr:fW m r= .bad 6:=by simp [fW,hm,e1]
   simp only [go_sem,g2,w1,d1];exact .same (.refl _) ⟨by rw [hr]; rfl,hk3,fun m' h' =>by rw [hr] at h'; cases h'⟩
  have e1:¬m1.rules+1>64:=by have:=VD d1; omega
  have hr:fW m r=need (j9 r.tgt) (need (jw r.cond) (need (gO r.obls) (.ok ⟨m1.met,m1.rules+1⟩))):=by simp [fW,hm,e1]
  simp only [go_sem,g2,w1,d1,hid3];refine (sY r.tgt _).pthen ?_;cases d2:(j9 r.tgt !=0)
  case true=>
   have e2:j9 r.tgt≠0:=by simpa using d2
   have hr:fW m r= .bad (j9 r.tgt):=by rw [hr]; simp [need,e2]
   simp only [go_sem,d2];exact .same (.refl _) ⟨by rw [hr]; rfl,hk3,fun m' h' =>by rw [hr] at h'; cases h'⟩
  have e2:j9 r.tgt=0:=by simpa using d2
  rw [need,if_pos e2] at hr;simp only [go_sem,d2,hid3];refine (DK r.cond _).pthen ?_;cases d3:(jw r.cond !=0)
  case true=>
   have e3:jw r.cond≠0:=by simpa using d3
   have hr:fW m r= .bad (jw r.cond):=by rw [hr]; simp [need,e3]
   simp only [go_sem,d3];exact .same (.refl _) ⟨by rw [hr]; rfl,hk3,fun m' h' =>by rw [hr] at h'; cases h'⟩
  have e3:jw r.cond=0:=by simpa using d3
  rw [need,if_pos e3] at hr;simp only [go_sem,d3,hid3];refine (zC r.obls _).pthen ?_;simp only [go_sem]
  by_cases e4:gO r.obls=0
  ·rw [need,if_pos e4] at hr
   refine .same (.refl _) ⟨by rw [hr,e4]; rfl,hk3,fun m' h' => ?_⟩
   rw [hr] at h';cases h';refine ⟨ah .., ?_,hw2.2.2.1,by show m1.rules+1≤64; omega⟩
   rw [ag _ _ hw2.ne.symm]; exact hw2.2.1
  ·rw [need,if_neg e4] at hr
   exact .same (.refl _) ⟨by rw [hr]; rfl,hk3,fun m' h' =>by rw [hr] at h'; cases h'⟩
theorem vC {m:dV} {id:Txt} {set:Bool} {alg:Int} {tgt:fT} {nr nk:Nat} {obls:List cA} (h:iJ m id=none):eV m id set alg tgt nr nk obls= .bad 1:=by
 simp [eV,h]
theorem I0 (idw mid:Nat) (m:dV) (id:Txt) (set:Bool) (alg:Int) (tgt:fT) (rules:List cQ) (kids:List bB) (obls:List cA) (h:Heap) (hw:gx h idw mid m):
  ak Tryz.prog 112 [.ptr idw 0,aK (.mk id set alg tgt rules kids obls)] h fun x h' =>x= .v (.int .i64 (eV m id set alg tgt rules.length kids.length obls).err)∧Keeps [idw,mid] h h'∧∀m',eV m id set alg tgt rules.length kids.length obls= .ok m'→gx h' idw mid m' :=by
 refine ak.body hU hm Tryz.func112 rfl (by kernel_rfl) 68 rfl [.tmp 4] rfl (Vz rfl) (fun hwf=> ?_)
 simp -implicitDefEqProofs only [go_sem,aK,aU,aA];intro ip hip;have n1:idw≠ip:=fun e=>by have:=hw.1; rw [e,hip] at this; cases this
 have n2:mid≠ip:=fun e=>by have:=hw.2.1; rw [e,hip] at this; cases this
 have hwb:=hw.keep (Sub.ai (k:=some (.obj [.s id, .v (.bool set), .v (.int .i64 alg), .sl (tgt.map cN) .no, .sl (rules.map aC) .no, .sl (fu kids) .no, .sl (obls.map bp) .no] 37)) hip);have hk0:Keeps [idw,mid] h (upd h ip (some (.obj [.s id, .v (.bool set), .v (.int .i64 alg), .sl (tgt.map cN) .no, .sl (rules.map aC) .no, .sl (fu kids) .no, .sl (obls.map bp) .no] 37))):= .of (.ai hip);simp -implicitDefEqProofs only [go_sem];obtain ⟨hb,ehb⟩:∃hb,upd h ip (some (.obj [.s id, .v (.bool set), .v (.int .i64 alg), .sl (tgt.map cN) .no, .sl (rules.map aC) .no, .sl (fu kids) .no, .sl (obls.map bp) .no] 37))=hb:=⟨_,rfl⟩;have hbip:hb ip=some (.obj [.s id, .v (.bool set), .v (.int .i64 alg), .sl (tgt.map cN) .no, .sl (rules.map aC) .no, .sl (fu kids) .no, .sl (obls.map bp) .no] 37):=by rw [←ehb]; exact ah ..
 rw [ehb] at hwb hk0⊢;refine (BZ idw mid m id hb hwb).mono fun x h2 hx=> ?_
 cases hm:iJ m id with
 |none=>
  rw [hm] at hx;obtain ⟨rfl,hs⟩:=hx;simp -implicitDefEqProofs only [go_sem];exact .same (.refl _) ⟨by rw [vC hm]; rfl,hk0.trans (.of hs),fun m' h' =>by rw [vC hm] at h'; cases h'⟩
 |some m1=>
  rw [hm] at hx;obtain ⟨rfl,hk,hw2⟩:=hx;have hip2:h2 ip=some (.obj [.s id, .v (.bool set), .v (.int .i64 alg), .sl (tgt.map cN) .no, .sl (rules.map aC) .no, .sl (fu kids) .no, .sl (obls.map bp) .no] 37):=hk ip _ (by simp [n1.symm,n2.symm]) hbip
  have hkk:=hk0.trans hk;have bad:∀e,eV m id set alg tgt rules.length kids.length obls= .bad e→(.v (.int .i64 e):AV)= .v (.int .i64 (eV m id set alg tgt rules.length kids.length obls).err)∧Keeps [idw,mid] h h2∧∀m',eV m id set alg tgt rules.length kids.length obls= .ok m'→gx h2 idw mid m' :=
   fun e he=>⟨by rw [he]; rfl,hkk,fun m' h' =>by rw [he] at h'; cases h'⟩
  cases d1:decide (alg<1)
  case true=>
   have e1:=VC d1;simp -implicitDefEqProofs only [go_sem,d1,hip2];exact .same (.refl _) (bad 1 (by simp [eV,hm,e1]))
  cases d2:decide (6<alg)
  case true=>
   have e2:=VC d2;simp -implicitDefEqProofs only [go_sem,d1,d2,hip2];exact .same (.refl _) (bad 1 (by simp [eV,hm,e2]))
  have e1:¬(alg<1∨alg>6):=by have:=VD d1; have:=VD d2; omega
  have tail:∀(z:Unit),¬(set=true∧rules.length>0∨set=false∧(kids.length>0∨alg=4))→eV m id set alg tgt rules.length kids.length obls=need (j9 tgt) (need (gO obls) (if rules.length>16∨kids.length>16 then .bad 6 else .ok m1)):=fun _ hh=>by
   simp only [eV,hm];rw [if_neg e1,if_neg hh]
  cases set
  ·cases d4:decide (0<(kids.length:Int))
   case true=>
    have f4:0<kids.length:=by have:=VC d4; omega
    simp -implicitDefEqProofs only [go_sem,d1,d2,hip2,aX,VA,d4];exact .same (.refl _) (bad 1 (by simp [eV,hm,e1,f4]))
   have g4:¬0<kids.length:=by have:=VD d4; omega
   cases d5:(alg==4)
   case true=>
    have f5:alg=4:=by simpa using d5
    simp -implicitDefEqProofs only [go_sem,d1,d2,hip2,aX,VA,d4,d5];exact .same (.refl _) (bad 1 (by simp [eV,hm,f5]))
   have g5:alg≠4:=by simpa using d5
   simp -implicitDefEqProofs only [go_sem,d1,d2,hip2,aX,VA,d4,d5];have e3:=tail () (by simp [g4,g5])
   refine (sY tgt _).pthen ?_;cases t1:(j9 tgt !=0)
   case true=>
    have f1:j9 tgt≠0:=by simpa using t1
    simp -implicitDefEqProofs only [go_sem,t1];exact .same (.refl _) (bad _ (by rw [e3]; simp [need,f1]))
   have f1:j9 tgt=0:=by simpa using t1
   simp -implicitDefEqProofs only [go_sem,t1,hip2];refine (zC obls _).pthen ?_;cases t2:(gO obls !=0)
   case true=>
    have f2:gO obls≠0:=by simpa using t2
    simp -implicitDefEqProofs only [go_sem,t2];exact .same (.refl _) (bad _ (by rw [e3]; simp [need,f1,f2]))
   have f2:gO obls=0:=by simpa using t2
   cases t3:decide (16<(rules.length:Int))
   case true=>
    have f3:16<rules.length:=by have:=VC t3; omega
    simp -implicitDefEqProofs only [go_sem,t2,hip2,VA,t3];exact .same (.refl _) (bad _ (by rw [e3]; simp [need,f1,f2,f3]))
   have f3:¬16<rules.length:=by have:=VD t3; omega
   cases t4:decide (16<(kids.length:Int))
   case true=>
    have f4:16<kids.length:=by have:=VC t4; omega
    simp -implicitDefEqProofs only [go_sem,t2,hip2,VA,t3,aX,t4];exact .same (.refl _) (bad _ (by rw [e3]; simp [need,f1,f2,f4]))
   have f4:¬16<kids.length:=by have:=VD t4; omega
   simp -implicitDefEqProofs only [go_sem,t2,hip2,VA,t3,aX,t4];have e4:eV m id false alg tgt rules.length kids.length obls= .ok m1:=by rw [e3]; simp [need,f1,f2,f3,f4]
   exact .same (.refl _) ⟨by rw [e4]; rfl,hkk,fun m' h' =>by rw [e4] at h'; cases h'; exact hw2⟩
  ·cases d3:decide (0<(rules.length:Int))
   case true=>
    have f3:0<rules.length:=by have:=VC d3; omega
    simp -implicitDefEqProofs only [go_sem,d1,d2,hip2,VA,d3];exact .same (.refl _) (bad 1 (by simp [eV,hm,e1,f3]))
   have g3:¬0<rules.length:=by have:=VD d3; omega
   simp -implicitDefEqProofs only [go_sem,d1,d2,hip2,VA,d3];have e3:=tail () (by simp [g3])
   refine (sY tgt _).pthen ?_;cases t1:(j9 tgt !=0)
   case true=>
    have f1:j9 tgt≠0:=by simpa using t1
    simp -implicitDefEqProofs only [go_sem,t1];exact .same (.refl _) (bad _ (by rw [e3]; simp [need,f1]))
   have f1:j9 tgt=0:=by simpa using t1
   simp -implicitDefEqProofs only [go_sem,t1,hip2];refine (zC obls _).pthen ?_;cases t2:(gO obls !=0)
   case true=>
    have f2:gO obls≠0:=by simpa using t2
    simp -implicitDefEqProofs only [go_sem,t2];exact .same (.refl _) (bad _ (by rw [e3]; simp [need,f1,f2]))
   have f2:gO obls=0:=by simpa using t2
   cases t3:decide (16<(rules.length:Int))
   case true=>
    have f3:16<rules.length:=by have:=VC t3; omega
    simp -implicitDefEqProofs only [go_sem,t2,hip2,VA,t3];exact .same (.refl _) (bad _ (by rw [e3]; simp [need,f1,f2,f3]))
   have f3:¬16<rules.length:=by have:=VD t3; omega
   cases t4:decide (16<(kids.length:Int))
   case true=>
    have f4:16<kids.length:=by have:=VC t4; omega
    simp -implicitDefEqProofs only [go_sem,t2,hip2,VA,t3,aX,t4];exact .same (.refl _) (bad _ (by rw [e3]; simp [need,f1,f2,f4]))
   have f4:¬16<kids.length:=by have:=VD t4; omega
   simp -implicitDefEqProofs only [go_sem,t2,hip2,VA,t3,aX,t4];have e4:eV m id true alg tgt rules.length kids.length obls= .ok m1:=by rw [e3]; simp [need,f1,f2,f3,f4]
   exact .same (.refl _) ⟨by rw [e4]; rfl,hkk,fun m' h' =>by rw [e4] at h'; cases h'; exact hw2⟩
theorem Ie (k:bB):(aK k).cells.length=7:=by
 cases k; simp [aK,AV.cells]
theorem pP {m:dV} {d:Nat} {p:bB} (h:4<d):jH m d p= .bad 6:=by
 cases p; simp [jH,h]
theorem sS {m:dV} {d:Nat} {id:Txt} {set:Bool} {alg:Int} {tgt:fT} {rules:List cQ} {kids:List bB} {obls:List cA} {e:Int} (h:¬4<d)
  (hh:eV m id set alg tgt rules.length kids.length obls= .bad e):jH m d (.mk id set alg tgt rules kids obls)= .bad e:=by
 simp [jH,h,hh]
theorem wu {m m1:dV} {d:Nat} {id:Txt} {set:Bool} {alg:Int} {tgt:fT} {rules:List cQ} {kids:List bB} {obls:List cA} {e:Int} (h:¬4<d)
  (hh:eV m id set alg tgt rules.length kids.length obls= .ok m1) (hr:eO m1 rules= .bad e):jH m d (.mk id set alg tgt rules kids obls)= .bad e:=by
 simp [jH,h,hh,hr]
theorem yq {m m1 m2:dV} {d:Nat} {id:Txt} {set:Bool} {alg:Int} {tgt:fT} {rules:List cQ} {kids:List bB} {obls:List cA} (h:¬4<d)
  (hh:eV m id set alg tgt rules.length kids.length obls= .ok m1) (hr:eO m1 rules= .ok m2):jH m d (.mk id set alg tgt rules kids obls)=gN m2 (d+1) kids:=by
 simp [jH,h,hh,hr]
theorem rU:∀(n d:Nat) (m:dV) (p:bB) (e:Int),d+n=5→jH m d p= .bad e→e≠0
 |0,d,m,p,e,hd,h=>by rw [pP (by omega)] at h; cases h; decide
 |n+1,d,m, .mk id set alg tgt rules kids obls,e,hd,h=>by
  by_cases h4:4<d
  ·rw [pP h4] at h; cases h; decide
  cases hh:eV m id set alg tgt rules.length kids.length obls with
  |bad e' =>rw [sS h4 hh] at h; cases h; exact xZ hh
  |ok m1=>
   cases hr:eO m1 rules with
   |bad e' =>
    rw [wu h4 hh hr] at h; cases h
    clear hh hd
    induction rules generalizing m1 with
    |nil=>cases hr
    |cons r l ih=>
     simp only [eO] at hr;cases hx:fW m1 r with
     |bad x=>rw [hx] at hr; cases hr; exact yB hx
     |ok m2=>rw [hx] at hr; exact ih m2 hr
   |ok m2=>
    rw [yq h4 hh hr] at h;have ih:=fun m p e=>rU n (d+1) m p e (by omega)
    clear hh hr
    induction kids generalizing m2 with
    |nil=>cases h
    |cons k l ihk=>
     simp only [gN] at h;cases hx:jH m2 (d+1) k with
     |bad x=>rw [hx] at h; cases h; exact ih _ _ _ hx
     |ok m3=>rw [hx] at h; exact ihk m3 h
theorem D2 {e:Int} {w:Went} {m:dV} (h:need e w= .ok m):e=0∧w= .ok m:=by
 unfold need at h;split at h
 ·exact ⟨by assumption,h⟩
 ·cases h
theorem Hh {m m1:dV} {id:Txt} {set:Bool} {alg:Int} {tgt:fT} {nr nk:Nat} {obls:List cA} (h:eV m id set alg tgt nr nk obls= .ok m1):
  iJ m id=some m1∧1≤alg∧alg≤6∧(set=true→nr=0)∧(set=false→nk=0∧alg≠4)∧j9 tgt=0∧gO obls=0∧nr≤16∧nk≤16:=by
 unfold eV at h;split at h
 ·cases h
 rename_i m2 hm
 split at h
 ·cases h
 split at h
 ·cases h
 rename_i h1 h2
 obtain ⟨h3,h⟩:=D2 h;obtain ⟨h4,h⟩:=D2 h;split at h
 ·cases h
 cases h;have h5:(set=true→nr=0)∧(set=false→nk=0∧alg≠4):=by
  cases set<;>simp at h2⊢<;>omega
 exact ⟨hm,by omega,by omega,h5.1,h5.2,h3,h4,by omega,by omega⟩
theorem Eo:∀(n d:Nat),d+n=5→∀(idw mid:Nat) (m:dV) (p:bB) (h:Heap),gx h idw mid m→
  ak Tryz.prog 79 [.ptr idw 0,aK p, .v (.int .i64 d)] h fun x h' =>x= .v (.int .i64 (jH m d p).err)∧Keeps [idw,mid] h h'∧∀m',jH m d p= .ok m'→gx h' idw mid m'
 |n,d,hd,idw,mid,m, .mk id set alg tgt rules kids obls,h,hw=>by
  refine ak.body hU hm Tryz.func79 rfl (by kernel_rfl) 52 rfl [.tmp 6] rfl (Vz rfl) (fun hwf=> ?_)
  simp only [go_sem,aK,aU,aA];intro ip hip;have n1:idw≠ip:=fun e=>by have:=hw.1; rw [e,hip] at this; cases this
  have n2:mid≠ip:=fun e=>by have:=hw.2.1; rw [e,hip] at this; cases this
  have hwb:=hw.keep (Sub.ai (k:=some (.obj [.s id, .v (.bool set), .v (.int .i64 alg), .sl (tgt.map cN) .no, .sl (rules.map aC) .no, .sl (fu kids) .no, .sl (obls.map bp) .no] 37)) hip);have hk0:Keeps [idw,mid] h (upd h ip (some (.obj [.s id, .v (.bool set), .v (.int .i64 alg), .sl (tgt.map cN) .no, .sl (rules.map aC) .no, .sl (fu kids) .no, .sl (obls.map bp) .no] 37))):= .of (.ai hip);obtain ⟨hb,ehb⟩:∃hb,upd h ip (some (.obj [.s id, .v (.bool set), .v (.int .i64 alg), .sl (tgt.map cN) .no, .sl (rules.map aC) .no, .sl (fu kids) .no, .sl (obls.map bp) .no] 37))=hb:=⟨_,rfl⟩;have hbip:hb ip=some (.obj [.s id, .v (.bool set), .v (.int .i64 alg), .sl (tgt.map cN) .no, .sl (rules.map aC) .no, .sl (fu kids) .no, .sl (obls.map bp) .no] 37):=by rw [←ehb]; exact ah ..
  rw [ehb] at hwb hk0⊢;cases d0:decide (4<(d:Int))
  case true=>
   have e0:4<d:=by have:=VC d0; omega
   simp only [go_sem,d0];exact .same (.refl _) ⟨by rw [pP e0]; rfl,hk0,fun m' h' =>by rw [pP e0] at h'; cases h'⟩
  have e0:¬4<d:=by have:=VD d0; omega
  simp only [go_sem,d0,hbip];have hhead:=I0 idw mid m id set alg tgt rules kids obls hb hwb;simp only [aK,aU,aA] at hhead;refine hhead.mono fun x h2 ⟨ex,hk,hw2⟩=> ?_
  subst ex;have hk2:=hk0.trans hk;cases hh:eV m id set alg tgt rules.length kids.length obls with
  |bad e=>
   have hne:=xZ hh;have t1:(e !=0)=true:=by simpa using hne
   simp only [go_sem,Went.err,t1];exact .same (.refl _) ⟨by rw [sS e0 hh]; rfl,hk2,fun m' h' =>by rw [sS e0 hh] at h'; cases h'⟩
  |ok m1=>
   have hw2:=hw2 _ hh;have hle:=(Hh hh).2.2.2.2.2.2.2;have hip2:=hk ip _ (by simp [n1.symm,n2.symm]) hbip
   simp only [go_sem,Went.err,hip2,VA];refine .intro (fun k ρ h' =>∃(i:Nat) (mi:dV),i≤rules.length∧k=rules.length - i∧eO m1 (rules.take i)= .ok mi∧Keeps [idw,mid] h h'∧gx h' idw mid mi∧
    h' ip=some (.obj [.s id, .v (.bool set), .v (.int .i64 alg), .sl (tgt.map cN) .no, .sl (rules.map aC) .no, .sl (fu kids) .no, .sl (obls.map bp) .no] 37)∧
    lk ρ 0=some (.ptr idw 0)∧lk ρ 2=some (.v (.int .i64 d))∧lk ρ 4=some (.ptr ip 0)∧lk ρ 23=some (.sl (rules.map aC) .no)∧lk ρ 24=some (.v (.int .i64 rules.length))∧lk ρ 25=some (.v (.int .i64 i))) rules.length ?_ ?_
   ·refine ⟨0,m1,by omega,rfl,rfl,hk2,hw2,hip2, ?_, ?_, ?_, ?_, ?_, ?_⟩<;>simp only [go_sem]
   ·rintro k ρ h' ⟨i,mi,hi,rfl,hri,hki,hwi,hipi,r0,r2,r4,r23,r24,r25⟩
    simp only [go_sem,r24,r25];refine .intro (fun e=> ?_) (fun e=> ?_)
    ·have hlt:i<rules.length:=VH e
     have w1:=VG i (by omega)
     simp only [go_sem,r23,r25];refine .at i (by simpa using hlt) (by rw [VB]; rfl) ?_
     simp only [go_sem,VB,aC];intro ir hir;have hrl:=I2 idw mid mi rules[i] _ (hwi.keep (Sub.ai (k:=some (.obj [.s rules[i].id, .v (.bool rules[i].deny),aU rules[i].tgt,fh rules[i].cond,aA rules[i].obls] 164)) hir));simp only [aC] at hrl;simp only [go_sem,r0];refine hrl.mono fun x h3 ⟨ex,hk3,hw3⟩=> ?_
     subst ex;have hk4:=(hki.trans (.of (Sub.ai hir))).trans hk3;have hip3:=hk3 ip _ (by simp [n1.symm,n2.symm]) ((Sub.ai hir) _ _ hipi)
     cases hx:fW mi rules[i] with
     |bad x=>
      have t1:(x !=0)=true:=by simpa using yB hx
      simp only [go_sem,Went.err,t1];have hp:=wu (d:=d) (kids:=kids) e0 hh (BE hlt hri hx);exact .same (.refl _) ⟨by rw [hp]; rfl,hk4,fun m' h' =>by rw [hp] at h'; cases h'⟩
     |ok m3=>
      simp only [go_sem,r25,Went.err,w1];refine ⟨_, ?_,i+1,m3,by omega,rfl,by rw [uc hlt hri,hx],hk4,hw3 _ hx,hip3, ?_, ?_, ?_, ?_, ?_, ?_⟩
      ·omega
      all_goals simp only [go_sem,r0,r2,r4,r23,r24]
    ·have hge:i=rules.length:=by have:=VD e; omega
     subst hge;rw [List.take_length] at hri;have hpk:=yq (d:=d) (kids:=kids) e0 hh hri;simp only [go_sem,r4,hipi,aX,VA];refine .intro (fun k ρ h' =>∃(i:Nat) (mj:dV),i≤kids.length∧k=kids.length - i∧gN mi (d+1) (kids.take i)= .ok mj∧Keeps [idw,mid] h h'∧gx h' idw mid mj∧
      lk ρ 0=some (.ptr idw 0)∧lk ρ 2=some (.v (.int .i64 d))∧lk ρ 37=some (.sl (kids.map aK) .no)∧lk ρ 38=some (.v (.int .i64 kids.length))∧lk ρ 39=some (.v (.int .i64 i))) kids.length ?_ ?_
     ·refine ⟨0,mi,by omega,rfl,rfl,hki,hwi, ?_, ?_, ?_, ?_, ?_⟩<;>simp only [go_sem,r0,r2]
     ·rintro k ρ h' ⟨i,mj,hi,rfl,hkj,hki,hwi,r0,r2,r37,r38,r39⟩
      simp only [go_sem,r38,r39];refine .intro (fun e=> ?_) (fun e=> ?_)
      ·have hlt:i<kids.length:=VH e
       have w1:=VG i (by omega)
       have w2:=VG d (by omega)
       obtain ⟨n',rfl⟩:∃n',n=n' +1:=⟨n - 1,by omega⟩
       have hrec:=Eo n' (d+1) (by omega) idw mid mj kids[i]
       cases hki' :kids[i] with
       |mk kid kset kalg ktgt krules kkids kobls=>
       rw [hki'] at hrec;simp only [aK,aU,aA] at hrec;simp only [go_sem,r37,r39];refine .at i (by simpa using hlt) (by rw [VB]; exact Ie _) ?_
       simp only [go_sem,VB,hki',aK,aU,aA];intro ir hir;simp only [go_sem,r0,r2,w2];refine (hrec _ (hwi.keep (Sub.ai hir))).mono fun x h3 ⟨ex,hk3,hw3⟩=> ?_
       subst ex;have hk4:=(hki.trans (.of (Sub.ai hir))).trans hk3;cases hx:jH mj (d+1) (.mk kid kset kalg ktgt krules kkids kobls) with
       |bad x=>
        have t1:(x !=0)=true:=by simpa using rU n' (d+1) _ _ _ (by omega) hx
        simp only [go_sem,Went.err,t1];have hp:=CN hlt hkj (by rw [hki']; exact hx)
        exact .same (.refl _) ⟨by rw [hpk,hp]; rfl,hk4,fun m' h' =>by rw [hpk,hp] at h'; cases h'⟩
       |ok m3=>
        simp only [go_sem,r39,Went.err,w1];refine ⟨_, ?_,i+1,m3,by omega,rfl,by rw [vH hlt hkj,hki',hx],hk4,hw3 _ hx, ?_, ?_, ?_, ?_, ?_⟩
        ·omega
        all_goals simp only [go_sem,r0,r2,r37,r38]
      ·have hge:i=kids.length:=by have:=VD e; omega
       subst hge;rw [List.take_length] at hkj;simp only [go_sem];exact .same (.refl _) ⟨by rw [hpk,hkj]; rfl,hki,fun m' h' =>by rw [hpk,hkj] at h'; cases h'; exact hwi⟩
theorem CV {h:Heap} {i j:Nat} {b:Blk} (e:upd h i (some b) j=none):j≠i:=fun hh=>by
 subst hh; rw [ah] at e; cases e
theorem rY (p:bB) (h:Heap):ak Tryz.prog 44 [aK p] h fun r h' =>r= .v (.int .i64 (gb p))∧h' =h:=by
 cases p with
 |mk id set alg tgt rules kids obls=>
 refine ak.body hU hm Tryz.func44 rfl (by kernel_rfl) 10 rfl [.tmp 2] rfl (Vz rfl) (fun hwf=> ?_)
 simp only [go_sem,aK,aU,aA];intro ip hip;simp only [go_sem];intro im him;simp only [go_sem];intro iw hiw;have n1:=CV him;have n2:=CV hiw;have hiw1:=hiw;rw [ag _ _ n2] at hiw1;have n3:=CV hiw1;have s1:Ab.Sub h (upd (upd (upd h ip (some (.obj [.s id, .v (.bool set), .v (.int .i64 alg), .sl (tgt.map cN) .no, .sl (rules.map aC) .no, .sl (fu kids) .no, .sl (obls.map bp) .no] 37))) im (some (.mp []))) iw (some (.obj [.mp im, .v (.int .i64 0)] 158))):=
  ((Sub.ai hip).trans (.ai him)).trans (.ai hiw)
 obtain ⟨h3,e3⟩:∃h3,upd (upd (upd h ip (some (.obj [.s id, .v (.bool set), .v (.int .i64 alg), .sl (tgt.map cN) .no, .sl (rules.map aC) .no, .sl (fu kids) .no, .sl (obls.map bp) .no] 37))) im (some (.mp []))) iw (some (.obj [.mp im, .v (.int .i64 0)] 158))=h3:=⟨_,rfl⟩;have g1:h3 ip=some (.obj [.s id, .v (.bool set), .v (.int .i64 alg), .sl (tgt.map cN) .no, .sl (rules.map aC) .no, .sl (fu kids) .no, .sl (obls.map bp) .no] 37):=by
  rw [←e3,ag _ _ n3.symm,ag _ _ n1.symm,ah]
 have g2:gx h3 iw im ⟨[],0⟩:=by
  refine ⟨by rw [←e3,ah]; rfl,by rw [←e3,ag _ _ n2.symm,ah]; rfl,fun l hl=>(by cases hl),by decide⟩
 have hi0:h im=none:=by rw [ag _ _ n1] at him; exact him
 have hw0:h iw=none:=by rw [ag _ _ n3] at hiw1; exact hiw1
 simp only [go_sem];rw [e3] at s1⊢;simp only [go_sem,g1];have hp:=Eo 4 1 rfl iw im ⟨[],0⟩ (.mk id set alg tgt rules kids obls) h3 g2;simp only [aK,aU,aA,Int.cast_ofNat_Int] at hp;refine hp.mono fun x h4 ⟨ex,hk,_⟩=> ?_
 subst ex;simp only [go_sem];refine .mk _ (.refl _) (fun j k hj=> ?_) ⟨rfl,rfl⟩
 refine hk j k ?_ (s1 _ _ hj);simp only [List.mem_cons,List.not_mem_nil,or_false,not_or];exact ⟨fun e=>(by rw [e,hw0] at hj; cases hj),fun e=>(by rw [e,hi0] at hj; cases hj)⟩
def jj (x:bB×Int×Int):AV:= .tup [aK x.1, .v (.int .i64 x.2.1), .v (.int .i64 x.2.2)]
theorem iW (a b c:AV) (h:Weak a b) (d:AV):Weak (.tup [a,c,d]) (.tup [b,c,d]):= .tup _ _ rfl fun i h1 h2=>by
 rcases i with _|_|_|i
 ·exact h
 ·exact .refl _
 ·exact .refl _
 ·simp at h1; omega
set_option maxRecDepth 20000 in
theorem wg (s:Txt) (h:Heap) (he:qs h):ak Tryz.prog 32 [.s s] h fun r h' =>r=jj (aM s)∧h' =h:=by
 refine ak.body hU hm Tryz.func32 rfl (by kernel_rfl) 61 rfl [.cell 2 37, .tmp 3, .tmp 4] rfl (Vz rfl) (fun hwf=> ?_)
 simp only [go_sem];intro i2 hi2;simp only [go_sem];refine (B6 s _ (he.sub (.ai hi2))).pthen ?_;cases el:qF s with
 |bad e a=>
  have e1:=vM el;have d1:(e !=0)=true:=by
   have:e≠0:=by rcases e1.1 with h|h<;>rw [h]<;>decide
   simpa using this
  have efin:aM s=(mO,e,a):=by simp only [aM,el]
  simp only [go_sem,JV,d1];rw [efin];exact .mk (h' :=h) (jj (mO,e,a)) (iW _ _ _ (fS _) _) (.ai hi2) ⟨rfl,rfl⟩
 |ok ts=>
  have efin:aM s=we s ts:=by simp only [aM,el]
  have hw:=F9 el 0 0 0;have hpol:=Bp 3 1 rfl ⟨ts,0,0,0,0⟩ hw (Nat.zero_le _);have hap:=uX 4 ⟨ts,0,0,0,0⟩ hw;obtain ⟨⟨⟨pid,pset,palg,ptgt,prules,pkids,pobls⟩,st1⟩,ep⟩:∃x,gq 4 ⟨ts,0,0,0,0⟩=x:=⟨_,rfl⟩;rw [show 3+1=4 from rfl,ep] at hpol
  rw [ep] at hap;simp only [aK] at hpol hap;simp only [we,ep] at efin;simp only [go_sem,JV];intro i8 hi8;have n8:=aE hi8;have m82:¬i8=i2:=n8;have m28:¬i2=i8:=fun e=>n8 e.symm
  have hh8:h i8=none:=by rw [ag _ _ n8] at hi8; exact hi8
  simp only [go_sem];refine hpol.go (ah ..) ?_;rw [nI];simp only [go_sem];intro i9 hi9;have n9:=aE hi9;have hi9' :=hi9;rw [ag _ _ n9] at hi9';have n92:=aE hi9';have m92:¬i9=i2:=n92;have m29:¬i2=i9:=fun e=>n92 e.symm
  have m98:¬i9=i8:=n9;have m89:¬i8=i9:=fun e=>n9 e.symm
  have hh9:h i9=none:=by rw [ag _ _ n92] at hi9'; exact hi9'
  have c9:∀(f:Heap) (x y:Option Blk),upd (upd f i8 x) i9 y=upd (upd f i9 y) i8 x:=fun f x y=>cq f x y n9.symm
  simp only [go_sem,c9,aj,m98];refine (kM st1 hap.1).run ?_;have subs:∀x y z,Sub h (upd (upd (upd h i2 x) i9 y) i8 z):=fun x y z=>((Sub.ai hi2).put hh9 _).put hh8 _
  cases d1:((aJ st1).kind !=7)
  ·have k1:(aJ st1).kind=7:=by simpa using d1
   have e2:(if (aJ st1).kind=7 then st1 else bk st1)=st1:=if_pos k1
   simp only [go_sem,fB,d1];cases db:((st1).bad==0)
   ·have eb:(st1).bad≠0:=by simpa using db
    simp only [go_sem,PO,db];have eend:nW s (.mk pid pset palg ptgt prules pkids pobls,st1)=st1:=by
     unfold nW; simp only [e2]; rw [if_neg (fun h=>eb h.1)]
    have hbb:(st1).bad≠0:=eb;have dn:((st1).bad !=0)=true:=by simpa using hbb
    simp only [go_sem,dn];refine .calls (hm1 i8 (PO (st1))) [0,1,2,3,4,5,6,7,8,9,10,11] (.hm1 (ah ..)) (by kernel_rfl) rfl ?_
    simp only [go_sem,aj,m28,m29,PO,fP];refine ⟨.hm1 ((ag _ _ n8).trans (ah ..)), ?_⟩;have efin2:aM s=(mO,(st1).bad,(st1).place):=by rw [efin,if_neg (by rw [eend]; exact hbb),eend]
    rw [efin2];exact .mk (h' :=h) (jj (mO,(st1).bad,(st1).place)) (iW _ _ _ (fS _) _) (Sub.put (subs _ _ _) hi2 _) ⟨rfl,rfl⟩
   ·have eb:(st1).bad=0:=by simpa using db
    simp only [go_sem,aj,m98,PO,db];refine (rY (.mk pid pset palg ptgt prules pkids pobls) _).pthen ?_;cases dr:(gb (.mk pid pset palg ptgt prules pkids pobls) !=0)
    ·have er:gb (.mk pid pset palg ptgt prules pkids pobls)=0:=by simpa using dr
     have dn:((st1).bad !=0)=false:=by simpa using eb
     simp only [go_sem,aj,m28,m29,m98,dr,dn];have eend:nW s (.mk pid pset palg ptgt prules pkids pobls,st1)=st1:=by
      unfold nW; simp only [e2]; rw [if_neg (fun h=>h.2 er)]
     have efin2:aM s=(.mk pid pset palg ptgt prules pkids pobls,0,0):=by rw [efin,if_pos (by rw [eend]; exact eb)]
     rw [efin2];exact .mk (h' :=h) (jj (.mk pid pset palg ptgt prules pkids pobls,0,0)) (iW _ _ _ (fS _) _) (Sub.put (subs _ _ _) hi2 _) ⟨rfl,rfl⟩
    ·have er:gb (.mk pid pset palg ptgt prules pkids pobls)≠0:=by simpa using dr
     simp only [go_sem,dr];refine (pI (st1) 5 s.length).run ?_;have eend:nW s (.mk pid pset palg ptgt prules pkids pobls,st1)=bD (st1) 5 s.length:=by
      unfold nW; simp only [e2]; rw [if_pos ⟨eb,er⟩]
     have hwb:bD (st1) 5 s.length= {(st1) with bad:=5,place:=s.length}:=by rw [bD,if_pos eb]
     have hbb:(bD (st1) 5 s.length).bad≠0:=by rw [hwb]; show (5:Int)≠0; decide
     have dn:((bD (st1) 5 s.length).bad !=0)=true:=by simpa using hbb
     simp only [go_sem,PO,dn];refine .calls (hm1 i8 (PO (bD (st1) 5 s.length))) [0,1,2,3,4,5,6,7,8,9,10,11] (.hm1 (ah ..)) (by kernel_rfl) rfl ?_
     simp only [go_sem,aj,m28,m29,PO,fP];refine ⟨.hm1 ((ag _ _ n8).trans (ah ..)), ?_⟩;have efin2:aM s=(mO,(bD (st1) 5 s.length).bad,(bD (st1) 5 s.length).place):=by rw [efin,if_neg (by rw [eend]; exact hbb),eend]
     rw [efin2];exact .mk (h' :=h) (jj (mO,(bD (st1) 5 s.length).bad,(bD (st1) 5 s.length).place)) (iW _ _ _ (fS _) _) (Sub.put (subs _ _ _) hi2 _) ⟨rfl,rfl⟩
  ·have k1:(aJ st1).kind≠7:=by simpa using d1
   have e2:(if (aJ st1).kind=7 then st1 else bk st1)=bk st1:=if_neg k1
   simp only [go_sem,fB,d1];refine (j8 st1 hap.1).run ?_;simp only [go_sem];cases db:((bk st1).bad==0)
   ·have eb:(bk st1).bad≠0:=by simpa using db
    simp only [go_sem,PO,db];have eend:nW s (.mk pid pset palg ptgt prules pkids pobls,st1)=bk st1:=by
     unfold nW; simp only [e2]; rw [if_neg (fun h=>eb h.1)]
    have hbb:(bk st1).bad≠0:=eb;have dn:((bk st1).bad !=0)=true:=by simpa using hbb
    simp only [go_sem,dn];refine .calls (hm1 i8 (PO (bk st1))) [0,1,2,3,4,5,6,7,8,9,10,11] (.hm1 (ah ..)) (by kernel_rfl) rfl ?_
    simp only [go_sem,aj,m28,m29,PO,fP];refine ⟨.hm1 ((ag _ _ n8).trans (ah ..)), ?_⟩;have efin2:aM s=(mO,(bk st1).bad,(bk st1).place):=by rw [efin,if_neg (by rw [eend]; exact hbb),eend]
    rw [efin2];exact .mk (h' :=h) (jj (mO,(bk st1).bad,(bk st1).place)) (iW _ _ _ (fS _) _) (Sub.put (subs _ _ _) hi2 _) ⟨rfl,rfl⟩
   ·have eb:(bk st1).bad=0:=by simpa using db
    simp only [go_sem,aj,m98,PO,db];refine (rY (.mk pid pset palg ptgt prules pkids pobls) _).pthen ?_;cases dr:(gb (.mk pid pset palg ptgt prules pkids pobls) !=0)
    ·have er:gb (.mk pid pset palg ptgt prules pkids pobls)=0:=by simpa using dr
     have dn:((bk st1).bad !=0)=false:=by simpa using eb
     simp only [go_sem,aj,m28,m29,m98,dr,dn];have eend:nW s (.mk pid pset palg ptgt prules pkids pobls,st1)=bk st1:=by
      unfold nW; simp only [e2]; rw [if_neg (fun h=>h.2 er)]
     have efin2:aM s=(.mk pid pset palg ptgt prules pkids pobls,0,0):=by rw [efin,if_pos (by rw [eend]; exact eb)]
     rw [efin2];exact .mk (h' :=h) (jj (.mk pid pset palg ptgt prules pkids pobls,0,0)) (iW _ _ _ (fS _) _) (Sub.put (subs _ _ _) hi2 _) ⟨rfl,rfl⟩
    ·have er:gb (.mk pid pset palg ptgt prules pkids pobls)≠0:=by simpa using dr
     simp only [go_sem,dr];refine (pI (bk st1) 5 s.length).run ?_;have eend:nW s (.mk pid pset palg ptgt prules pkids pobls,st1)=bD (bk st1) 5 s.length:=by
      unfold nW; simp only [e2]; rw [if_pos ⟨eb,er⟩]
     have hwb:bD (bk st1) 5 s.length= {(bk st1) with bad:=5,place:=s.length}:=by rw [bD,if_pos eb]
     have hbb:(bD (bk st1) 5 s.length).bad≠0:=by rw [hwb]; show (5:Int)≠0; decide
     have dn:((bD (bk st1) 5 s.length).bad !=0)=true:=by simpa using hbb
     simp only [go_sem,PO,dn];refine .calls (hm1 i8 (PO (bD (bk st1) 5 s.length))) [0,1,2,3,4,5,6,7,8,9,10,11] (.hm1 (ah ..)) (by kernel_rfl) rfl ?_
     simp only [go_sem,aj,m28,m29,PO,fP];refine ⟨.hm1 ((ag _ _ n8).trans (ah ..)), ?_⟩;have efin2:aM s=(mO,(bD (bk st1) 5 s.length).bad,(bD (bk st1) 5 s.length).place):=by rw [efin,if_neg (by rw [eend]; exact hbb),eend]
     rw [efin2];exact .mk (h' :=h) (jj (mO,(bD (bk st1) 5 s.length).bad,(bD (bk st1) 5 s.length).place)) (iW _ _ _ (fS _) _) (Sub.put (subs _ _ _) hi2 _) ⟨rfl,rfl⟩
end Go.Proofs.YtnlbeamjpefpfaaGreatDoor
namespace Go.Ab
open Go
theorem OwE.keepb {tb:TypeId} {h0 h h' :Heap} {sz:Nat} {y:AV} {xs:List AV} (hw:OwE tb h0 h sz y xs) (hk:∀id,h0 id=Option.none→h id≠Option.none→h' id=h id):OwE tb h0 h' sz y xs:=
 hw.keep fun id e=>hk id (hw.nid e).1 (hw.nid e).2.1
end Go.Ab
namespace Go.Proofs.YtnlbeamjpefpfaaGreatDoor
open Go Go.Ab Go.Bf
theorem fe.keepb {h0 h h' :Heap} {ys:List AV} {x:AV} {c:aL} (hm:fe h0 h ys x c) (hk:∀id,h0 id=none→h id≠none→h' id=h id):fe h0 h' ys x c:=by
 obtain ⟨f,l,e,a,b,c,d⟩:=hm;exact ⟨f,l,e,a.keepb hk,b.keepb hk,c,d⟩
theorem kE.keepb {h0 h h' :Heap} {ys:List AV} {y:AV} {cs:List aL} {i0:Nat} (ho:kE h0 h ys y cs i0) (hk:∀id,h0 id=none→h id≠none→h' id=h id):kE h0 h' ys y cs i0:=by
 obtain ⟨xs,a,b,c,d⟩:=ho;exact ⟨xs,a.keepb hk,b,c,fun h1 h2=>(d h1 h2).keepb hk⟩
theorem qS.keepb {h0 h h' :Heap} {x:AV} {s:an} {i0:Nat} (ho:qS h0 h x s i0) (hk:∀id,h0 id=none→h id≠none→h' id=h id):qS h0 h' x s i0:=by
 obtain ⟨y1,y2,y3,y4,e,a,b,c,d,r⟩:=ho;exact ⟨y1,y2,y3,y4,e,a.keepb hk,b.keepb hk,c.keepb hk,d.keepb hk,r⟩
theorem kE.keepx {h0 h h' :Heap} {ys:List AV} {y z:AV} {cs:List aL} {i0:Nat} (ho:kE h0 h ys y cs i0) (hz:z∈ys) (hy:apart y z) (hk:∀id,h0 id=none→h id≠none→nid z≠some id→h' id=h id):kE h0 h' ys y cs i0:=by
 obtain ⟨xs,a,b,c,d⟩:=ho;refine ⟨xs,a.keep fun id e=>hk id (a.nid e).1 (a.nid e).2.1 (hy id e),b,c,fun h1 h2=> ?_⟩
 obtain ⟨f,l,e,of,ol,hap,hys⟩:=d h1 h2;exact ⟨f,l,e,of.keep fun id e=>hk id (of.nid e).1 (of.nid e).2.1 ((hys z hz).1 id e),ol.keep fun id e=>hk id (ol.nid e).1 (ol.nid e).2.1 ((hys z hz).2 id e),hap,hys⟩
theorem fe.frz {g h0 h:Heap} {ys:List AV} {x:AV} {c:aL} (hm:fe h0 h ys x c) (hg:Ab.Sub g h0):Frz g h x (bP c):=by
 obtain ⟨f,l,rfl,a,b,_⟩:=hm;refine .agg _ _ rfl fun j h1 h2=> ?_
 rcases j with _|_|_|_|_|j
 ·exact .pure rfl
 ·exact .pure rfl
 ·exact .pure rfl
 ·exact (a.less hg).frz (br (fun _=>rfl) _)
 ·exact (b.less hg).frz (br (fun _=>rfl) _)
 ·simp at h1; omega
theorem E0 {g h0 h:Heap} {y:AV} {xs:List AV} {cs:List aL} (hw:OwE 78 h0 h 5 y xs) (hg:Ab.Sub g h0) (hn:xs.length=cs.length) (hx:∀j (h1:j<xs.length) (h2:j<cs.length),Frz g h xs[j] (bP cs[j])):Frz g h y (iO cs):=by
 rcases hw with ⟨rfl,rfl⟩|⟨id,h1,hw⟩
 ·have:cs= []:=List.length_eq_zero_iff.1 hn.symm
  subst this;exact .sl [] [] .full rfl (fun i h1=>by cases h1) (fun i h1=>by cases h1)
 ·have hsz:∀i (h1:i<xs.length),xs[i].cells.length=5:=fun i h1=>hw.rd.1 _ (VF h1)
  refine hw.frz (hg.none h1) (by simpa using hn) (fun i h1 h2=>by rw [hsz i h1,VB]; rfl) fun i h1 h2 j h3 h4=> ?_
  have h2' :i<cs.length:=by simpa using h2
  have hf:=hx i h1 h2';have key:∀x y:AV,Frz g h x y→bA y=true→cF y=true→∀j (h3:j<x.cells.length) (h4:j<y.cells.length),Frz g h x.cells[j] y.cells[j]:=by
   intro x y hf ha hp j h3 h4;cases hf with
   |keep x hx=>exact .pure (lU hp _ (VF h4))
   |agg xs ys hn hr=>exact hr j h3 h4
   |_=>cases ha
  have e:(cs.map bP)[i]'h2=bP cs[i]:=VB ..;simp only [e] at h4⊢;exact key _ _ hf rfl (by simp only [bP,kC,cF,gH,fO,oU,Bool.and_true,Bool.true_and,Bool.and_eq_true]; exact ⟨br (fun _=>rfl) _,br (fun _=>rfl) _⟩) j h3 h4
theorem kE.frz {g h0 h:Heap} {ys:List AV} {y:AV} {cs:List aL} {i0:Nat} (ho:kE h0 h ys y cs i0) (hg:Ab.Sub g h0):Frz g h y (iO cs):=by
 obtain ⟨xs,a,b,c,d⟩:=ho;refine E0 a hg b fun j h1 h2=> ?_
 by_cases e:j=i0
 ·subst e; exact (d h1 h2).frz hg
 ·rw [c j h1 h2 e]; exact AG _
theorem Ig {g h:Heap} (p:bB):∀x∈fI p,Frz g h x x:=fun x hx=>by
 refine .pure (lU (x:=aK p) (Bs p) x ?_);rw [J4];exact hx
theorem AH {g h:Heap} {xs:List AV} (hx:∀x∈xs,Frz g h x x):∀i (h1:i<xs.length) (h2:i<xs.length),Frz g h xs[i] xs[i]:=fun i h1 _=>hx _ (VF h1)
theorem DP {g h:Heap} {ps bs cs ds:List AV} (n1:ps.length=bs.length) (n2:cs.length=ds.length) (h1:∀i (a:i<ps.length) (b:i<bs.length),Frz g h ps[i] bs[i]) (h2:∀i (a:i<cs.length) (b:i<ds.length),Frz g h cs[i] ds[i]):
  ∀i (a:i<(ps++cs).length) (b:i<(bs++ds).length),Frz g h (ps++cs)[i] (bs++ds)[i]:=fun i a b=>by
 by_cases e:i<ps.length
 ·rw [List.getElem_append_left e,List.getElem_append_left (by omega)]; exact h1 i e (by omega)
 ·rw [List.getElem_append_right (by omega),List.getElem_append_right (by omega)]
  simp only [VE] at a b;have:=h2 (i - ps.length) (by omega) (by omega)
  simp only [n1] at this⊢;exact this
theorem sC {g h:Heap} {s:an} {y1 y2 y3 y4:AV} (a:Frz g h y1 (iO s.cases)) (b:Frz g h y2 (o9 s.reviews)) (c:Frz g h y3 (qi s.notices)) (d:Frz g h y4 (dH s.roles)):
  Frz g h (.agg ([.v (.int .i64 s.tick),y1,y2,y3,y4]++fI s.policy++ [.v (.int .i64 s.version)])) (cP s):=by
 refine .agg _ _ (by simp) (DP (by simp) rfl (DP rfl rfl (fun i h1 h2=> ?_) (AH (Ig _))) (AH fun x hx=>by rw [List.mem_singleton.1 hx]; exact .pure rfl))
 rcases i with _|_|_|_|_|i
 ·exact .pure rfl
 ·exact a
 ·exact b
 ·exact c
 ·exact d
 ·simp at h1; omega
theorem kE.rd {h0 h:Heap} {ys:List AV} {y:AV} {cs:List aL} {i0:Nat} (ho:kE h0 h ys y cs i0):w9 h y cs:=by
 obtain ⟨xs,a,b,c,d⟩:=ho;refine ⟨xs,a.rd,b,fun j h1 h2=> ?_⟩
 by_cases e:j=i0
 ·subst e
  obtain ⟨f,l,e,a,b,_⟩:=d h1 h2;exact ⟨f,l,e,a.rd,b.rd⟩
 ·rw [c j h1 h2 e]; exact rdC _ _
theorem qS.rd {h0 h:Heap} {x:AV} {s:an} {i0:Nat} (ho:qS h0 h x s i0):RdS h x s:=by
 obtain ⟨y1,y2,y3,y4,rfl,a,b,c,d,r⟩:=ho;exact ⟨y1,y2,y3,y4,rfl,a.rd,b.rd,c.rd,d.rd⟩
end Go.Proofs.YtnlbeamjpefpfaaGreatDoor
