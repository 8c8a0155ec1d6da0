/- The law GuardOnly: pack 4 of its texts. -/
import Derived.Shelf.Small.Strs
import Derived.Shelf.Small.Wraps
import Derived.Shelf.Strconv.AtoiAll
import Derived.Shelf.Strconv.ErrVarAll
import Derived.Shelf.Strings.Search1
import Derived.Test.YtnlbeamjpefpfaaGreatDoorProg
import Derived.KernelRfl
import Derived.WalkKit
import Derived.BigCall
import Derived.Test.YtnlbeamjpefpfaaGreatDoorPk1
import Derived.Test.YtnlbeamjpefpfaaGreatDoorPk2
import Derived.Test.YtnlbeamjpefpfaaGreatDoorPk3
set_option linter.unusedSimpArgs false
set_option linter.unusedVariables false
namespace Go.Bf
open Go Go.Ab
def kr:List Txt:= [[111,110,101],[115,105,122,101],[104,97,115],[101,113],[108,101,115,115],[97,100,100],[115,117,98],[109,117,108],[110,111,116],[97,110,100],[111,114]]
def opers (op:Int):List Bool:=if op=3∨op=4 then [true] else if op=5 then [true,false] else if op=11 then [false] else [false,false]
abbrev ExF:=PS→List aO→(List aO×Bool)×PS
def gJ (ex:ExF) (st:PS) (l:List aO) (must:Bool):List aO×PS:=
 ((ex st l).1.1,if (ex st l).1.2=must then (ex st l).2 else bD (ex st l).2 5 (aL st).pos)
def iL (ex:ExF):List Bool→PS→List aO→List aO×PS
 | [],st,l=>(l,st)
 |b::bs,st,l=>if st.bad=0 then iL ex bs (gJ ex st l b).2 (gJ ex st l b).1 else (l,st)
def oA (ex:ExF) (st:PS) (l:List aO):(List aO×aO)×PS:=
 (((iL ex (opers (2+(aX st kr).1)) (aX st kr).2 l).1,⟨2+(aX st kr).1,⟨0,0,[]⟩,⟨0,[],false⟩⟩),dM (iL ex (opers (2+(aX st kr).1)) (aX st kr).2 l).2 [41])
def iC (ex:ExF) (st:PS) (l:List aO):(List aO×aO)×PS:=
 if isD st [40]=true then oA ex (aY st) l
 else if (aL st).kind=1∧(aL st).s≠ur∧(aL st).s≠ou then ((l,⟨2,⟨0,0,[]⟩,(fD st).1⟩),(fD st).2)
 else ((l,⟨1,(aC st).1,⟨0,[],false⟩⟩),(aC st).2)
def dV:Nat→ExF
 |0,st,l=>((l,false),st)
 |f+1,st,l=>(((iC (dV f) st l).1.1++ [(iC (dV f) st l).1.2],(iC (dV f) st l).1.2.op==2),bE (iC (dV f) st l).2 (decide (32<(iC (dV f) st l).1.1.length+1)))
def Ci (ex:ExF):Prop:=∀st l,WfP st→Ah st (ex st l).2∧(ex st l).1.1.length+2*st.pos≤l.length+2*(ex st l).2.pos+1
theorem wA {ex:ExF} (he:Ci ex) (st:PS) (l:List aO) (b:Bool) (h:WfP st):Ah st (gJ ex st l b).2∧(gJ ex st l b).1.length+2*st.pos≤l.length+2*(gJ ex st l b).2.pos+1:=by
 obtain ⟨h1,h2⟩:=he st l h;unfold gJ;simp only;split
 ·exact ⟨h1,h2⟩
 ·refine ⟨h1.trans (u9 _ _ h1.1), ?_⟩
  have:(bD (ex st l).2 5 (aL st).pos).pos=(ex st l).2.pos:=by unfold bD; split<;>rfl
  rw [this]; exact h2
theorem yD {ex:ExF} (he:Ci ex):∀(bs:List Bool) (st:PS) (l:List aO),WfP st→Ah st (iL ex bs st l).2∧(iL ex bs st l).1.length+2*st.pos≤l.length+2*(iL ex bs st l).2.pos+bs.length
 | [],st,l,h=>⟨.refl h,by simp [iL]⟩
 |b::bs,st,l,h=>by
  unfold iL; split
  ·obtain ⟨h1,h2⟩:=wA he st l b h
   obtain ⟨h3,h4⟩:=yD he bs (gJ ex st l b).2 (gJ ex st l b).1 h1.1;exact ⟨h1.trans h3,by simp only [List.length_cons]; omega⟩
  ·exact ⟨.refl h,by simp only [List.length_cons]; omega⟩
theorem Bz (op:Int):(opers op).length≤2:=by
 unfold opers; repeat' split
 all_goals simp
theorem Hu {ex:ExF} (he:Ci ex) (st:PS) (l:List aO) (h:WfP st):Ah st (oA ex st l).2∧(oA ex st l).1.1.length+2*st.pos≤l.length+2*(oA ex st l).2.pos+2:=by
 have h1:=fY kr h;obtain ⟨h2,h3⟩:=yD he (opers (2+(aX st kr).1)) _ l h1.1;have h4:=iF [41] h2.1;have:=Bz (2+(aX st kr).1);have p1:=h1.2.2;have p4:=h4.2.2;unfold oA;exact ⟨(h1.trans h2).trans h4,by simp only; omega⟩
theorem A7 {ex:ExF} (he:Ci ex) (st:PS) (l:List aO) (h:WfP st):Ah st (iC ex st l).2∧(iC ex st l).1.1.length+2*st.pos≤l.length+2*(iC ex st l).2.pos:=by
 unfold iC; split
 ·rename_i hi
  have h1:=dN h (cE hi);obtain ⟨h2,h3⟩:=Hu he _ l h1.1;have:(aY st).pos=st.pos+1:=rfl;exact ⟨h1.trans h2,by omega⟩
 ·split
  ·have h1:=zo h
   have:=h1.2.2;exact ⟨h1,by simp only; omega⟩
  ·have h1:=Ak h
   have:=h1.2.2;exact ⟨h1,by simp only; omega⟩
theorem ot:∀f,Ci (dV f)
 |0=>fun st l h=>⟨.refl h,by simp [dV]⟩
 |f+1=>fun st l h=>by
  obtain ⟨h1,h2⟩:=A7 (ot f) st l h;have h3:=jW (decide (32<(iC (dV f) st l).1.1.length+1)) h1.1;have:=h3.2.2;refine ⟨h1.trans h3, ?_⟩;simp only [dV,V4,List.length_singleton];omega
def sS:List Txt:= [[112,101,114,109,105,116],[100,101,110,121]]
def lf:List Txt:= [[108,111,103],[114,101,100,97,99,116],[114,101,118,105,101,119],[110,111,116,105,102,121]]
def tZ:Txt:= [111,110]
def wz (st:PS):cw×PS:=
 (⟨(aX st sS).1,(aX (aX st sS).2 lf).1,(cm (aX (aX st sS).2 lf).2).1⟩,(cm (aX (aX st sS).2 lf).2).2)
theorem GI {st:PS} (h:WfP st):Ah st (wz st).2:=by
 have h1:=fY sS h;have h2:=fY lf h1.1;exact (h1.trans h2).trans (lM h2.1)
def fS (st:PS):List cw×PS:=fy wz tZ 8 st.ts.length st []
theorem zq {st:PS} (h:WfP st):Ah st (fS st).2:=qR (fun _ h=>GI h) _ _ _ _ _ h
inductive Rch (a:PS):PS→Prop where
 |refl:Rch a a
 |wrong {b:PS} (e p:Int):Rch a b→(e=5∨e=6)→(∃i,i≤b.pos∧p=(b.ts.getD i ⟨7,0,0,[]⟩).pos)→Rch a (bD b e p)
 |next {b:PS}:Rch a b→b.bad=0→(aL b).kind≠7→Rch a (aY b)
theorem Rch.trans {a b c:PS} (x:Rch a b) (y:Rch b c):Rch a c:=by
 induction y with
 |refl=>exact x
 |wrong e p _ h1 h2 ih=>exact .wrong e p ih h1 h2
 |next _ h1 h2 ih=>exact .next ih h1 h2
theorem jJ (st:PS):Rch st (bg st):= .wrong _ _ .refl (.inl rfl) ⟨st.pos,Nat.le_refl _,rfl⟩
theorem pP (st:PS) (b:Bool):Rch st (bE st b):=by
 unfold bE; split
 ·exact .wrong _ _ .refl (.inr rfl) ⟨st.pos,Nat.le_refl _,rfl⟩
 ·exact .refl
theorem zM {st:PS} {s:Txt} (h:isD st s=true):st.bad=0:=by
 simp only [isD,Bool.and_eq_true,beq_iff_eq] at h; exact h.1
theorem nq {st:PS} {s:Txt} (h:isD st s=true):Rch st (aY st):= .next .refl (zM h) (cE h)
theorem IA (st:PS) (s:Txt):Rch st (cp st s).2:=by
 unfold cp; split
 ·rename_i h; exact nq h
 ·exact .refl
theorem lE (st:PS) (s:Txt):Rch st (dM st s):=by
 unfold dM; split
 ·rename_i h; exact nq h
 ·exact jJ _
theorem rU (st:PS):Rch st (cm st).2:=by
 unfold cm; split
 ·rename_i h; exact .next .refl h.2 (by rw [h.1]; decide)
 ·simp only; split
  ·exact .refl
  ·exact jJ _
theorem kV (st:PS) (ws:List Txt):Rch st (aX st ws).2:=by
 unfold aX; split
 ·split
  ·rename_i h; exact .next .refl h.2 (by rw [h.1]; decide)
  ·exact jJ _
 ·exact jJ _
theorem BM (st:PS):Rch st (fD st).2:=(((kV st tE).trans (lE _ [46])).trans (rU _)).trans (IA _ [33])
theorem yM (st:PS):Rch st (aC st).2:=by
 unfold aC;rcases se st with ⟨e,hk⟩|e
 ·rw [e]; split
  ·rename_i h; exact .next .refl h hk
  ·exact .refl
 ·rw [e,if_neg (pR st)]; exact jJ st
theorem MM (st:PS):Rch st (opP st).2:=by
 unfold opP;split
 ·rename_i h; exact nq h
 split
 ·rename_i h; exact nq h
 split
 ·rename_i h; exact nq h
 ·exact jJ _
theorem yK (st:PS):Rch st (fV st).2:=((BM st).trans (MM _)).trans (yM _)
theorem oY {α:Type} {one:PS→α×PS} (ho:∀st,Rch st (one st).2) (w:Txt) (most:Nat):∀(f:Nat) (st:PS) (l:List α),Rch st (fy one w most f st l).2
 |0,st,l=> .refl
 |f+1,st,l=>by
  unfold fy; split
  ·rename_i h
   exact (((nq h).trans (ho _)).trans (pP _ _)).trans (oY ho w most f _ _)
  ·exact .refl
theorem Eo (st:PS):Rch st (nQ st).2:=(yK st).trans (oY yK _ _ _ _ _)
theorem Ep (st:PS):Rch st (pV st).2:=(((lE st [40]).trans (Eo _)).trans (oY Eo orT 8 st.ts.length _ [(nQ (dM st [40])).1])).trans (lE _ [41])
theorem Er (st:PS):Rch st (gr st).2:=by
 unfold gr; split
 ·rename_i h; exact ((nq h).trans (Ep _)).trans (oY Ep _ _ _ _ _)
 ·exact .refl
theorem Kj (st:PS):Rch st (wz st).2:=((kV st sS).trans (kV _ lf)).trans (rU _)
theorem BQ (st:PS):Rch st (fS st).2:=oY Kj _ _ _ _ _
theorem pQ {a b:PS} (h:Rch a b):b.ts=a.ts∧a.pos≤b.pos∧b.rules=a.rules:=by
 induction h with
 |refl=>exact ⟨rfl,Nat.le_refl _,rfl⟩
 |wrong e p _ _ _ ih=>
  unfold bD; split
  ·exact ih
  ·exact ih
 |next _ _ _ ih=>exact ⟨ih.1,Nat.le_succ_of_le ih.2.1,ih.2.2⟩
theorem BR {ex:ExF} (he:∀st l,Rch st (ex st l).2) (st:PS) (l:List aO) (b:Bool):Rch st (gJ ex st l b).2:=by
 unfold gJ; simp only; split
 ·exact he st l
 ·have:=pQ (he st l)
  exact .wrong _ _ (he st l) (.inl rfl) ⟨st.pos,this.2.1,by rw [this.1]; rfl⟩
theorem yL {ex:ExF} (he:∀st l,Rch st (ex st l).2):∀(bs:List Bool) (st:PS) (l:List aO),Rch st (iL ex bs st l).2
 | [],st,l=> .refl
 |b::bs,st,l=>by
  unfold iL; split
  ·exact (BR he st l b).trans (yL he bs _ _)
  ·exact .refl
theorem BN:∀(f:Nat) (st:PS) (l:List aO),Rch st (dV f st l).2
 |0,st,l=> .refl
 |f+1,st,l=>by
  refine Rch.trans ?_ (pP _ _);unfold iC; split
  ·rename_i h
   exact (nq h).trans (((kV _ kr).trans (yL (BN f) _ _ _)).trans (lE _ [41]))
  ·split
   ·exact BM st
   ·exact yM st
def ifT:Txt:= [105,102]
def nh:Txt:= [112,101,114,109,105,116]
def ij:Txt:= [100,101,110,121]
def ni:Txt:= [112,111,108,105,99,121]
def Dm:Txt:= [115,101,116]
def lB:List Txt:= [ni,Dm]
def ve:List Txt:= [[100,101,110,121,111,118,101,114],[112,101,114,109,105,116,111,118,101,114],[102,105,114,115,116],[111,110,108,121],[100,101,110,121,117,110,108,101,115,115],[112,101,114,109,105,116,117,110,108,101,115,115]]
def om (st:PS):List aO×PS:=if isD st ifT=true then gJ (dV st.ts.length) (aY st) [] false else ([],st)
theorem Iz (st:PS):Rch st (om st).2:=by
 unfold om; split
 ·rename_i h; exact (nq h).trans (BR (BN _) _ _ _)
 ·exact .refl
theorem DK {st:PS} (h:WfP st):Ah st (om st).2:=by
 unfold om; split
 ·rename_i hi
  have h1:=dN h (cE hi);exact h1.trans (wA (ot _) _ _ _ h1.1).1
 ·exact .refl h
def nP (deny:Bool) (st:PS):cO×PS:=
 (⟨(cm st).1,deny,(gr (cm st).2).1,(om (gr (cm st).2).2).1,(fS (om (gr (cm st).2).2).2).1⟩,dM (fS (om (gr (cm st).2).2).2).2 [59])
theorem wM (deny:Bool) (st:PS):Rch st (nP deny st).2:=((((rU st).trans (Er _)).trans (Iz _)).trans (BQ _)).trans (lE _ [59])
theorem zu (deny:Bool) {st:PS} (h:WfP st):Ah st (nP deny st).2:=by
 have h1:=lM h;have h2:=zv h1.1;have h3:=DK h2.1;have h4:=zq h3.1;exact (((h1.trans h2).trans h3).trans h4).trans (iF [59] h4.1)
inductive me (a:PS):PS→Prop where
 |refl:me a a
 |small {b c:PS}:me a b→Rch b c→me a c
 |rule {b:PS}:me a b→b.bad=0→b.rules≠64→(aL b).kind≠7→me a {aY b with rules:=b.rules+1}
theorem me.trans {a b c:PS} (x:me a b) (y:me b c):me a c:=by
 induction y with
 |refl=>exact x
 |small _ h1 ih=>exact .small ih h1
 |rule _ h1 h2 h3 ih=>exact .rule ih h1 h2 h3
theorem Rch.big {a b:PS} (h:Rch a b):me a b:= .small .refl h
def jo:Nat→PS→List cO→List cO×PS
 |0,st,l=>(l,st)
 |f+1,st,l=>if isD st nh=true∨isD st ij=true then
   if l.length=16∨st.rules=64 then (l,bE st true)
   else jo f (nP (isD st ij) {aY st with rules:=st.rules+1}).2 (l++ [(nP (isD st ij) {aY st with rules:=st.rules+1}).1])
  else (l,st)
abbrev PoF:=PS→bG×PS
def jg (pol:PoF) (deep:Bool):Nat→PS→List bG→List bG×PS
 |0,st,l=>(l,st)
 |f+1,st,l=>if isD st ni=true∨isD st Dm=true then
   if l.length=16∨deep=true then (l,bE st true)
   else jg pol deep f (pol st).2 (l++ [(pol st).1])
  else (l,st)
def cQ (st:PS):(Bool×Txt×Int×fP)×PS:=
 (((aX st lB).1==2,(cm (aX st lB).2).1,(aX (cm (aX st lB).2).2 ve).1,(gr (aX (cm (aX st lB).2).2 ve).2).1),dM (gr (aX (cm (aX st lB).2).2 ve).2).2 [123])
theorem BO (st:PS):Rch st (cQ st).2:=((((kV st lB).trans (rU _)).trans (kV _ ve)).trans (Er _)).trans (lE _ [123])
theorem Jw {st:PS} (h:WfP st):Ah st (cQ st).2:=by
 have h1:=fY lB h;have h2:=lM h1.1;have h3:=fY ve h2.1;have h4:=zv h3.1;exact (((h1.trans h2).trans h3).trans h4).trans (iF [123] h4.1)
def nJ (pol:PoF) (deep:Bool) (set:Bool) (st:PS):(List cO×List bG)×PS:=
 if set=true then (([],(jg pol deep 17 st []).1),(jg pol deep 17 st []).2) else (((jo 17 st []).1,[]),(jo 17 st []).2)
def ga:Nat→PoF
 |0,st=>(.mk [] false 0 [] [] [] [],st)
 |r+1,st=>(.mk (cQ st).1.2.1 (cQ st).1.1 (cQ st).1.2.2.1 (cQ st).1.2.2.2 (nJ (ga r) (r==0) (cQ st).1.1 (cQ st).2).1.1 (nJ (ga r) (r==0) (cQ st).1.1 (cQ st).2).1.2
   (fS (dM (nJ (ga r) (r==0) (cQ st).1.1 (cQ st).2).2 [125])).1,(fS (dM (nJ (ga r) (r==0) (cQ st).1.1 (cQ st).2).2 [125])).2)
theorem lq {st:PS} {a b:Txt} (h:isD st a=true∨isD st b=true):st.bad=0∧(aL st).kind≠7:=by
 rcases h with h|h
 ·exact ⟨zM h,cE h⟩
 ·exact ⟨zM h,cE h⟩
theorem u7 {st:PS} (h:WfP st) (hk:(aL st).kind≠7):Ah st {aY st with rules:=st.rules+1}:=dN h hk
theorem DM:∀(f:Nat) (st:PS) (l:List cO),WfP st→Ah st (jo f st l).2
 |0,st,l,h=> .refl h
 |f+1,st,l,h=>by
  unfold jo; split
  ·rename_i hi
   split
   ·exact jW true h
   ·have h1:=u7 h (lq hi).2
    have h2:=zu (isD st ij) h1.1;exact (h1.trans h2).trans (DM f _ _ h2.1)
  ·exact .refl h
theorem BS:∀(f:Nat) (st:PS) (l:List cO),me st (jo f st l).2
 |0,st,l=> .refl
 |f+1,st,l=>by
  unfold jo; split
  ·rename_i hi
   split
   ·exact (pP st true).big
   ·rename_i hn
    have h1:me st {aY st with rules:=st.rules+1}:= .rule .refl (lq hi).1 (fun e=>hn (.inr e)) (lq hi).2
    exact (h1.trans (wM (isD st ij) _).big).trans (BS f _ _)
  ·exact .refl
theorem DL {pol:PoF} (hp:∀st,WfP st→Ah st (pol st).2) (deep:Bool):∀(f:Nat) (st:PS) (l:List bG),WfP st→Ah st (jg pol deep f st l).2
 |0,st,l,h=> .refl h
 |f+1,st,l,h=>by
  unfold jg; split
  ·split
   ·exact jW true h
   ·have h1:=hp st h
    exact h1.trans (DL hp deep f _ _ h1.1)
  ·exact .refl h
theorem BP {pol:PoF} (hp:∀st,me st (pol st).2) (deep:Bool):∀(f:Nat) (st:PS) (l:List bG),me st (jg pol deep f st l).2
 |0,st,l=> .refl
 |f+1,st,l=>by
  unfold jg; split
  ·split
   ·exact (pP st true).big
   ·exact (hp st).trans (BP hp deep f _ _)
  ·exact .refl
theorem zp {pol:PoF} (hp:∀st,WfP st→Ah st (pol st).2) (deep set:Bool) {st:PS} (h:WfP st):Ah st (nJ pol deep set st).2:=by
 unfold nJ; split
 ·exact DL hp deep _ _ _ h
 ·exact DM _ _ _ h
theorem Iy {pol:PoF} (hp:∀st,me st (pol st).2) (deep set:Bool) (st:PS):me st (nJ pol deep set st).2:=by
 unfold nJ; split
 ·exact BP hp deep _ _ _
 ·exact BS _ _ _
theorem u6:∀(r:Nat) (st:PS),WfP st→Ah st (ga r st).2
 |0,st,h=> .refl h
 |r+1,st,h=>by
  have h1:=Jw h;have h2:=zp (u6 r) (r==0) (cQ st).1.1 h1.1;have h3:=iF [125] h2.1;exact ((h1.trans h2).trans h3).trans (zq h3.1)
theorem zW:∀(r:Nat) (st:PS),me st (ga r st).2
 |0,st=> .refl
 |r+1,st=>(((BO st).big.trans (Iy (zW r) _ _ _)).trans (lE _ [125]).big).trans (BQ _).big
theorem sY {a b:PS} (h:me a b) (h0:a.rules≤64):b.rules≤64:=by
 induction h with
 |refl=>exact h0
 |small _ h1 ih=>rw [(pQ h1).2.2]; exact ih
 |rule _ _ h2 _ ih=>show _+1≤64; omega
theorem sN:∀(f:Nat) (s:Txt) (a:Nat) (out l:List pU),rD f s a out= .ok l→∃pre,l=out++pre++ [⟨7,(a+s.length:Nat),0,[]⟩]∧pre.length≤s.length∧∀t∈pre,(a:Int)≤t.pos∧t.pos<((a+s.length:Nat):Int)
 |0,_,_,_,_,h=>by simp [rD] at h
 |f+1,[],a,out,l,h=>by
  simp only [rD,Lexed.ok.injEq] at h;exact ⟨[],by simp [←h],by simp,by simp⟩
 |f+1,c::r,a,out,l,h=>by
  simp only [rD] at h;split at h
  ·obtain ⟨pre,e1,e2,e3⟩:=sN f r (a+1) out l h
   have ee:((a+1+r.length:Nat):Int)=((a+(c::r).length:Nat):Int):=by simp only [List.length_cons]; omega
   refine ⟨pre,by rw [e1,ee],by simp only [List.length_cons]; omega,fun t ht=> ?_⟩
   have:=e3 t ht;rw [ee] at this;exact ⟨by omega,this.2⟩
  ·split at h
   ·cases h
   ·rename_i hn
    have hle:=qt (c::r) (by simp)
    obtain ⟨pre,e1,e2,e3⟩:=sN f _ _ _ l h;have ee:((a+(bO (c::r)).2+((c::r).drop (bO (c::r)).2).length:Nat):Int)=((a+(c::r).length:Nat):Int):=by rw [List.length_drop]; omega
    refine ⟨{(bO (c::r)).1 with pos:=a}::pre,by rw [e1,ee]; simp,by rw [List.length_drop] at e2; simp only [List.length_cons] at e2 hle⊢; omega,fun t ht=> ?_⟩
    rcases List.mem_cons.1 ht with rfl|ht
    ·refine ⟨Int.le_refl _, ?_⟩
     show (a:Int)<_
     simp only [List.length_cons]; omega
    ·have:=e3 t ht
     rw [ee] at this;exact ⟨by omega,this.2⟩
theorem yx {s:Txt} {ts:List pU} (h:qE s= .ok ts):∃pre,ts=pre++ [⟨7,s.length,0,[]⟩]∧pre.length≤s.length∧(∀t∈pre,0≤t.pos∧t.pos<(s.length:Int))∧s.length≤4096:=by
 unfold qE at h;split at h
 ·cases h
 ·rename_i hl
  obtain ⟨pre,e1,e2,e3⟩:=sN _ _ _ _ _ h;exact ⟨pre,by simpa using e1,e2,by simpa using e3,by omega⟩
theorem Gl {s:Txt} {ts:List pU} (h:qE s= .ok ts) (x:Nat) (e p:Int):WfP ⟨ts,0,x,e,p⟩:=by
 obtain ⟨pre,rfl,h2,_,h3⟩:=yx h;refine ⟨by simp,fun i hi hk=> ?_,by simp; omega⟩
 by_cases hl:i<pre.length
 ·simp; omega
 ·exfalso
  simp only [V4,List.length_singleton] at hi;have:i=pre.length:=by omega
  subst this;apply hk;simp
theorem vX:∀(f:Nat) (s:Txt) (a:Nat) (out:List pU) (e p:Int),rD f s a out= .bad e p→e=5∧0≤p∧(s.length<f→p≤((a+s.length:Nat):Int))
 |0,s,a,out,e,p,h=>by
  simp only [rD,Lexed.bad.injEq] at h;obtain ⟨rfl,rfl⟩:=h;exact ⟨rfl,by omega,by omega⟩
 |f+1,[],a,out,e,p,h=>by simp [rD] at h
 |f+1,c::r,a,out,e,p,h=>by
  simp only [rD] at h;split at h
  ·obtain ⟨h1,h2,h3⟩:=vX f r (a+1) out e p h
   refine ⟨h1,h2,fun hl=> ?_⟩
   simp only [List.length_cons] at hl⊢;have:=h3 (by omega)
   omega
  ·split at h
   ·simp only [Lexed.bad.injEq] at h
    obtain ⟨rfl,rfl⟩:=h;exact ⟨rfl,by omega,fun _=>by omega⟩
   ·obtain ⟨h1,h2,h3⟩:=vX f _ _ _ e p h
    refine ⟨h1,h2,fun hl=> ?_⟩
    have hle:=qt (c::r) (by simp)
    rw [List.length_drop] at h3;have:=h3 (by omega)
    omega
theorem vW {s:Txt} {e a:Int} (h:qE s= .bad e a):(e=5∨e=6)∧0≤a∧a≤s.length:=by
 unfold qE at h;split at h
 ·simp only [Lexed.bad.injEq] at h
  obtain ⟨rfl,rfl⟩:=h;exact ⟨.inr rfl,by omega,by omega⟩
 ·obtain ⟨h1,h2,h3⟩:=vX _ _ _ _ _ _ h
  have:=h3 (by omega)
  exact ⟨.inl h1,h2,by omega⟩
def mM:bG:= .mk [] false 0 [] [] [] []
def nT (s:Txt) (x:bG×PS):PS:=
 if (if (aL x.2).kind=7 then x.2 else bg x.2).bad=0∧fW x.1≠0 then bD (if (aL x.2).kind=7 then x.2 else bg x.2) 5 s.length else (if (aL x.2).kind=7 then x.2 else bg x.2)
def wD (s:Txt) (ts:List pU):bG×Int×Int:=
 if (nT s (ga 4 ⟨ts,0,0,0,0⟩)).bad=0 then ((ga 4 ⟨ts,0,0,0,0⟩).1,0,0) else (mM,(nT s (ga 4 ⟨ts,0,0,0,0⟩)).bad,(nT s (ga 4 ⟨ts,0,0,0,0⟩)).place)
def aR (s:Txt):bG×Int×Int:=match qE s with
 | .bad e a=>(mM,e,a)
 | .ok ts=>wD s ts
end Go.Bf
namespace Go.Proofs.YtnlbeamjpefpfaaGreatDoor
open Go Go.Ab Go.Bf
def Byt (g:FuncId) (p:UInt8→Bool):Prop:=∀(c:UInt8) (h:Heap),ak Tryz.prog g [.v (.int .u8 c.toNat)] h fun r h' =>r= .v (.bool (p c))∧h' =h
theorem lu:Byt 125 dgt:=fun c h=>by
 refine ak.body hU hm Tryz.func125 rfl (by kernel_rfl) 9 rfl [.tmp 2] rfl (VZ rfl) (fun hwf=> ?_)
 cases d1:decide (48≤(c.toNat:Int))<;>cases d2:decide ((c.toNat:Int)≤57)
 all_goals
  simp only [go_sem,d1,d2];exact .same (.refl _) ⟨by simp only [dgt,d1,d2]; rfl,rfl⟩
theorem Fx:Byt 160 wrd:=fun c h=>by
 refine ak.body hU hm Tryz.func160 rfl (by kernel_rfl) 17 rfl [.tmp 2] rfl (VZ rfl) (fun hwf=> ?_)
 cases d1:decide (97≤(c.toNat:Int))<;>cases d2:decide ((c.toNat:Int)≤122)<;>cases d3:dgt c<;>cases d4:((c.toNat:Int)==95)
 all_goals
  simp only [go_sem,d1,d2]
  first
   |exact .same (.refl _) ⟨by simp only [wrd,ltr,d1,d2,d3,d4]; rfl,rfl⟩
   |(refine (lu c _).pthen ?_; simp only [go_sem,d3,d4]; exact .same (.refl _) ⟨by simp only [wrd,ltr,d1,d2,d3,d4]; rfl,rfl⟩)
theorem BG:Byt 162 (fun c=> !Dc c):=fun c h=>by
 refine ak.body hU hm Tryz.func162 rfl (by kernel_rfl) 17 rfl [.tmp 2] rfl (VZ rfl) (fun hwf=> ?_)
 cases d1:decide (32≤(c.toNat:Int))<;>cases d2:decide ((c.toNat:Int)≤126)<;>cases d3:((c.toNat:Int)==34)<;>cases d4:((c.toNat:Int)==92)
 all_goals
  simp only [go_sem,d1,d2,d3,d4,bne];refine .same (.refl _) ⟨?_,rfl⟩;have e1:decide ((c.toNat:Int)<32)= !decide (32≤(c.toNat:Int)):=by
   by_cases h:(32:Int)≤c.toNat
   ·simp [h,Int.not_lt.2 h]
   ·simp [h,Int.not_le.1 h]
  have e2:decide (126<(c.toNat:Int))= !decide ((c.toNat:Int)≤126):=by
   by_cases h:(c.toNat:Int)≤126
   ·simp [h,Int.not_lt.2 h]
   ·simp [h,Int.not_le.1 h]
  simp only [Dc,e1,e2,d1,d2,d3,d4];rfl
theorem Kt (p:UInt8→Bool) (s:Txt) (i:Nat) (hi:i<s.length) (h:i≤(s.takeWhile p).length) (hp:p s[i]=true):i+1≤(s.takeWhile p).length:=by
 induction s generalizing i with
 |nil=>cases hi
 |cons c r ih=>
  cases i with
  |zero=>simp only [List.getElem_cons_zero] at hp; simp [hp]
  |succ i=>
   by_cases hc:p c=true
   ·simp only [List.takeWhile_cons,hc,if_true,List.length_cons] at h⊢
    have:=ih i (by simpa using hi) (by omega) (by simpa using hp)
    omega
   ·simp [hc] at h
theorem PK (p:UInt8→Bool) (s:Txt) (i:Nat) (hi:i<s.length) (h:i≤(s.takeWhile p).length) (hp:p s[i]=false):(s.takeWhile p).length=i:=by
 induction s generalizing i with
 |nil=>cases hi
 |cons c r ih=>
  cases i with
  |zero=>simp only [List.getElem_cons_zero] at hp; simp [hp]
  |succ i=>
   by_cases hc:p c=true
   ·simp only [List.takeWhile_cons,hc,if_true,List.length_cons] at h⊢
    rw [ih i (by simpa using hi) (by omega) (by simpa using hp)]
   ·simp [hc] at h
theorem IN (g:FuncId) (p:UInt8→Bool) (hg:Byt g p) (s:Txt) (h:Heap):ak Tryz.prog 159 [.s s, .fn g []] h fun r h' =>r= .v (.int .i64 (s.takeWhile p).length)∧h' =h:=by
 refine ak.body hU hm Tryz.func159 rfl (by kernel_rfl) 20 rfl [.tmp 4] rfl (VZ rfl) (fun hwf=> ?_)
 have hlen:=hwf (.s s) (by simp)
 simp only [wfA,wf1,lim] at hlen;simp only [go_sem];refine .intro (fun m ρ h' =>h' =h∧∃i:Nat,i≤s.length∧m=s.length - i∧i≤(s.takeWhile p).length∧lk ρ 0=some (.s s)∧lk ρ 1=some (.fn g [])∧lk ρ 5=some (.v (.int .i64 i))) s.length ?_ ?_
 ·refine ⟨rfl,0,by omega,rfl,by omega, ?_, ?_, ?_⟩<;>simp only [go_sem]
 ·rintro m ρ h' ⟨rfl,i,hi,rfl,hc,r0,r1,r5⟩
  cases d1:decide ((i:Int)<(s.length:Int))
  ·have hge:i=s.length:=by have:=V3 d1; omega
   have:=gW p s;simp only [go_sem,r0,r5,d1];exact .same (.refl _) ⟨by simp only [ax]; congr 3; omega,rfl⟩
  ·have hlt:i<s.length:=by have:=V2 d1; omega
   have w1:=V6 i (by omega)
   simp only [go_sem,r0,r1,r5,d1];refine .at i hlt ?_;simp only [go_sem,ct];refine (hg s[i] _).pthen ?_;cases d2:p s[i]
   ·have:=PK p s i hlt hc d2
    simp only [go_sem,r5];exact .same (.refl _) ⟨by rw [this]; rfl,rfl⟩
   ·simp only [go_sem,r5,w1]
    refine ⟨_, ?_,rfl,i+1,by omega,rfl,Kt p s i hlt hc d2, ?_, ?_, ?_⟩
    ·omega
    all_goals simp only [go_sem,r0,r1]
theorem wj (s:Txt) (h:Heap):ak Tryz.prog 124 [.s s] h fun r h' =>r= .s (iU s)∧h' =h:=by
 refine ak.body hU hm Tryz.func124 rfl (by kernel_rfl) 12 rfl [.tmp 2] rfl (VZ rfl) (fun hwf=> ?_)
 simp only [go_sem];refine (IN _ _ Fx s _).pthen ?_;simp only [go_sem];refine ⟨by omega,by have:=gW wrd s; omega, ?_⟩
 simp only [go_sem,Option.isSome_none,Option.isSome_some,pH,Int.toNat_natCast,pn];refine ⟨by have:=gW wrd s; omega, ?_⟩
 refine (mW _ _).pthen ?_;cases d1:bu (s.takeWhile wrd)
 ·simp only [go_sem]
  exact .same (.refl _) ⟨by simp [iU,d1,ax],rfl⟩
 ·simp only [go_sem]
  exact .same (.refl _) ⟨by simp [iU,d1,ax],rfl⟩
theorem wr8 {x:Int} (h:0≤x∧x<256):IntKind.u8.wrap x=x:=by
 unfold IntKind.wrap;simp only [IntKind.signed,IntKind.bits];simp;omega
theorem qU (c:UInt8) (h:Heap):ak Tryz.prog 186 [.v (.int .u8 c.toNat)] h fun r h' =>r= .v (.int .i64 (iI c))∧h' =h:=by
 refine ak.body hU hm Tryz.func186 rfl (by kernel_rfl) 20 rfl [.tmp 2] rfl (VZ rfl) (fun hwf=> ?_)
 have hc:=c.toNat_lt;simp only [go_sem];refine (lu c _).pthen ?_;cases d1:dgt c
 case true=>
  have e1:48≤(c.toNat:Int)∧(c.toNat:Int)≤57:=by simpa [dgt] using d1
  have w1:IntKind.u8.wrap ((c.toNat:Int) - 48)=(c.toNat:Int) - 48:=wr8 (by omega)
  have w2:IntKind.i64.wrap ((c.toNat:Int) - 48)=(c.toNat:Int) - 48:=bx _ (by omega)
  simp only [go_sem,w1,w2];exact .same (.refl _) ⟨by simp [iI,d1,ax],rfl⟩
 cases d2:decide (97≤(c.toNat:Int))<;>cases d3:decide ((c.toNat:Int)≤102)
 case true.true=>
  have e2:=V2 d2;have e3:=V2 d3;have w1:IntKind.u8.wrap ((c.toNat:Int) - 97)=(c.toNat:Int) - 97:=wr8 (by omega)
  have w2:IntKind.i64.wrap ((c.toNat:Int) - 97)=(c.toNat:Int) - 97:=bx _ (by omega)
  have w3:IntKind.i64.wrap ((c.toNat:Int) - 97+10)=(c.toNat:Int) - 87:=by rw [bx _ (by omega)]; omega
  simp only [go_sem,d2,d3,w1,w2,w3];exact .same (.refl _) ⟨by simp [iI,d1,e2,e3,ax],rfl⟩
 all_goals
  simp only [go_sem,d2,d3];simp only [decide_eq_true_eq,decide_eq_false_iff_not] at d2 d3;refine .same (.refl _) ⟨?_,rfl⟩;have:¬(97≤(c.toNat:Int)∧(c.toNat:Int)≤102):=by omega
  simp [iI,d1,this,ax]
theorem D4 (c:UInt8): -1≤iI c∧iI c≤15:=by
 unfold iI;split
 ·rename_i h; simp [dgt] at h; omega
 ·split<;>omega
theorem I3 (n:Nat) (h:n<256):((UInt8.ofNat n).toNat:Int)=n:=by
 simp; omega
theorem ME (s:Txt) (h:Heap):ak Tryz.prog 163 [.s s] h fun r h' =>(∃x:Int,r= .tup [.v (.int .u8 x), .v (.bool (rH s).isSome)]∧∀c,rH s=some c→x=c.toNat)∧h' =h:=by
 refine ak.body hU hm Tryz.func163 rfl (by kernel_rfl) 38 rfl [.tmp 2, .tmp 3] rfl (VZ rfl) (fun hwf=> ?_)
 have hlen:=hwf (.s s) (by simp)
 simp only [wfA,wf1,lim] at hlen;cases d0:decide ((s.length:Int)<3)
 case true=>
  have e0:s.length<3:=by have:=V2 d0; omega
  have:rH s=none:=by
   match s,e0 with
   | [],_=>rfl
   | [_],_=>rfl
   | [_,_],_=>rfl
  simp only [go_sem,d0];exact .same (.refl _) ⟨⟨0,by rw [this]; rfl,fun c hc=>by rw [this] at hc; cases hc⟩,rfl⟩
 have e0:3≤s.length:=by have:=V3 d0; omega
 obtain ⟨b,x,y,t,rfl⟩:∃b x y t,s=b::x::y::t:=by
  match s,e0 with
  |b::x::y::t,_=>exact ⟨b,x,y,t,rfl⟩
 simp only [List.length_cons] at d0;have bad:rH (b::x::y::t)=none→∃z:Int,AV.tup [.v (.int .u8 0), .v (.bool false)]= .tup [.v (.int .u8 z), .v (.bool (rH (b::x::y::t)).isSome)]∧∀c,rH (b::x::y::t)=some c→z=c.toNat:=
  fun e=>⟨0,by rw [e]; rfl,fun c hc=>by rw [e] at hc; cases hc⟩
 cases d1:((b.toNat:Int) !=92)
 case true=>
  have e1:b≠92:=by rintro rfl; simp at d1
  simp only [go_sem,d0];refine .at 0 (by simp) ?_
  simp only [go_sem,ct,List.getElem_cons_zero,d1];exact .same (.refl _) ⟨bad (by simp [rH,e1]),rfl⟩
 have e1:b=92:=by
  have:(b.toNat:Int)=92:=by simpa using d1
  exact UInt8.toNat_inj.1 (by show b.toNat=92; omega)
 simp only [go_sem,d0];refine .at 0 (by simp) ?_
 simp only [go_sem,ct,List.getElem_cons_zero,d1];refine .at 1 (by simp) ?_
 simp only [go_sem,ct,List.getElem_cons_zero,List.getElem_cons_succ];refine (qU x _).pthen ?_;cases d2:decide (iI x<0)
 case true=>
  have e2:=V2 d2;simp only [go_sem,d2];exact .same (.refl _) ⟨bad (by simp [rH]; intros; omega),rfl⟩
 have e2:0≤iI x:=by have:=V3 d2; omega
 simp only [go_sem,d2];refine .at 2 (by simp) ?_
 simp only [go_sem,ct,List.getElem_cons_zero,List.getElem_cons_succ];refine (qU y _).pthen ?_;cases d3:decide (iI y<0)
 case true=>
  have e3:=V2 d3;simp only [go_sem,d3];exact .same (.refl _) ⟨bad (by simp [rH]; intros; omega),rfl⟩
 have e3:0≤iI y:=by have:=V3 d3; omega
 have hx:=D4 x;have hy:=D4 y;have w1:IntKind.i64.wrap (16*iI x)=16*iI x:=bx _ (by omega)
 have w2:IntKind.i64.wrap (16*iI x+iI y)=16*iI x+iI y:=bx _ (by omega)
 have w3:IntKind.u8.wrap (16*iI x+iI y)=((UInt8.ofNat (16*iI x+iI y).toNat).toNat:Int):=by
  rw [wr8 (by omega),I3 _ (by omega)]; omega
 simp only [go_sem,d3];refine .quiet (by kernel_rfl) ?_
 simp only [go_sem];refine .at 1 (by simp) ?_
 simp only [go_sem,ct,List.getElem_cons_zero,List.getElem_cons_succ];refine ⟨_,qU x _, ?_⟩;simp only [go_sem];refine .at 2 (by simp) ?_
 simp only [go_sem,ct,List.getElem_cons_zero,List.getElem_cons_succ];refine ⟨_,qU y _, ?_⟩;simp only [go_sem,w1,w2,w3];refine (BG _ _).pthen ?_;simp only [go_sem];refine .same (.refl _) ⟨⟨((UInt8.ofNat (16*iI x+iI y).toNat).toNat:Int), ?_,fun c hc=> ?_⟩,rfl⟩
 ·cases d5:Dc (UInt8.ofNat (16*iI x+iI y).toNat)<;>simp [rH,e1,e2,e3,d5,ax]
 ·simp only [rH] at hc
  split at hc
  ·cases hc; rfl
  ·cases hc
theorem u5z:(U 5).sz=1:=by simp only [go_sem]
theorem u5b:(U 5).bytes=1:=by simp only [go_sem]
theorem lQ (l:List UInt8):Sized 1 (l.map ct):=fun z hz=>by
 obtain ⟨c,_,rfl⟩:=List.mem_map.1 hz; rfl
theorem Ey (s:Txt) (hs:s.length≤10000) (h:Heap):ak Tryz.prog 127 [.s s] h fun r h' =>r= .tup [.s (w9 s).1, .v (.int .i64 (w9 s).2)]∧h' =h:=by
 refine ak.body hU hm Tryz.func127 rfl (by kernel_rfl) 50 rfl [.tmp 2, .tmp 3] rfl (VZ rfl) (fun hwf=> ?_)
 simp only [go_sem];refine .intro (fun m ρ h' =>∃(i f:Nat) (y:AV) (out:Txt),Acc U 5 h h' y (out.map ct)∧out.length≤i∧m=s.length+1 - i∧i≤s.length+3∧s.length≤f+i∧rX f (s.drop i) i out=w9 s∧lk ρ 0=some (.s s)∧lk ρ 4=some y∧lk ρ 5=some (.v (.int .i64 i))) s.length ?_ ?_
 ·refine ⟨1,s.length, .sl [] .full,[], .full (.refl _),by simp,by omega,by omega,by omega,rfl, ?_, ?_, ?_⟩<;>simp only [go_sem]
 ·rintro m ρ h' ⟨i,f,y,out,hy,hoi,rfl,hi,hf,he,r0,r4,r5⟩
  cases d1:decide ((i:Int)<(s.length:Int))
  ·have hge:s.length≤i:=by have:=V3 d1; omega
   have hd:s.drop i= []:=List.drop_of_length_le hge;have:w9 s=([],0):=by
    rw [←he,hd];cases f<;>rfl
   simp only [go_sem,r0,r5,d1];exact .mk _ (.refl _) hy.1 ⟨by rw [this]; rfl,rfl⟩
  have hlt:i<s.length:=by have:=V2 d1; omega
  obtain ⟨f,rfl⟩:∃g,f=g+1:=⟨f - 1,by omega⟩
  have hdr:s.drop i=s[i]::s.drop (i+1):=List.drop_eq_getElem_cons hlt;rw [hdr] at he;simp only [rX] at he;have w1:=V6 i (by omega)
  have w3:IntKind.i64.wrap ((i:Int)+3)=((i+3:Nat):Int):=by rw [bx _ (by omega)]; omega
  simp only [go_sem,r0,r5,d1];refine .at i hlt ?_;cases d2:((s[i].toNat:Int)==34)
  case true=>
   have e2:s[i]=34:=by
    have:(s[i].toNat:Int)=34:=by simpa using d2
    exact UInt8.toNat_inj.1 (by show s[i].toNat=34; omega)
   rw [if_pos e2] at he;cases d3:decide (64<(out.length:Int))
   case true=>
    have e3:64<out.length:=by have:=V2 d3; omega
    rw [if_pos e3] at he;simp only [go_sem,r4,ct,d2,hy.len,V0,d3];exact .mk _ (.refl _) hy.1 ⟨by rw [←he]; rfl,rfl⟩
   have e3:¬64<out.length:=by have:=V3 d3; omega
   rw [if_neg e3] at he;simp only [go_sem,r4,ct,d2,hy.len,V0,d3];obtain ⟨q,rfl⟩:=hy.row;simp only [go_sem,r5,w1];exact .mk _ (.refl _) hy.1 ⟨by rw [←he]; rfl,rfl⟩
  have e2:s[i]≠34:=by intro e; rw [e] at d2; simp at d2
  rw [if_neg e2] at he;simp only [go_sem,r0,r5,ct,d2];refine .at i hlt ?_;simp only [go_sem,ct];refine (BG _ _).pthen ?_;cases d4:Dc s[i]
  ·rw [if_pos d4] at he
   simp only [go_sem,r0,r4,r5,d4];refine .at i hlt ?_;simp only [go_sem,ct];refine hy.app (zs:= [ct s[i]]) (by rw [u5z]; decide) (by rw [u5b]; decide) (fun k hk=>hk) (by rw [u5z]; exact lQ out) (by rw [u5z]; exact lQ [s[i]]) (by rw [u5b]; simp; omega) fun y' h2 hy' hk2=> ?_
   simp only [go_sem,r5,w1];refine ⟨_, ?_,i+1,f,y',out++ [s[i]],by simpa using hy',by simp; omega,rfl,by omega,by omega,he, ?_, ?_, ?_⟩
   ·omega
   all_goals simp only [go_sem,r0]
  ·rw [if_neg (by simp [d4])] at he
   simp only [go_sem,r0,r5,d4];refine ⟨by omega, ?_⟩
   simp only [go_sem,Option.isSome_none,Option.isSome_some,kG,Int.toNat_natCast];refine ⟨by omega,by omega, ?_⟩
   refine (ME _ _).mono fun x h2 hx=> ?_
   obtain ⟨⟨v,rfl,hv⟩,rfl⟩:=hx;rw [←hdr] at he;cases e5:rH (s.drop i) with
   |none=>
    rw [e5] at he;simp only [go_sem,Option.isSome_none];exact .mk _ (.refl _) hy.1 ⟨by rw [←he]; rfl,rfl⟩
   |some b=>
    rw [e5] at he;have hvb:=hv b e5;subst hvb;have h3:=Bv e5;simp only [List.length_drop] at h3;simp only [go_sem,r4,Option.isSome_some];refine hy.app (zs:= [ct b]) (by rw [u5z]; decide) (by rw [u5b]; decide) (fun k hk=>hk) (by rw [u5z]; exact lQ out) (by rw [u5z]; exact lQ [b]) (by rw [u5b]; simp; omega) fun y' h2 hy' hk2=> ?_
    simp only [go_sem,r5,w3];refine ⟨_, ?_,i+3,f,y',out++ [b],by simpa using hy',by simp; omega,rfl,by omega,by omega, ?_, ?_, ?_, ?_⟩
    ·omega
    ·simp only [List.drop_drop] at he
     exact he
    all_goals simp only [go_sem,r0]
end Go.Proofs.YtnlbeamjpefpfaaGreatDoor
namespace Go.Bf
open Go Go.Ab
theorem DV (c:UInt8):dgt c=true↔48≤c.toNat∧c.toNat≤57:=by
 simp only [dgt,Bool.and_eq_true,decide_eq_true_eq]; omega
def EU (acc:Nat) (l:Txt):Nat:=l.foldl (fun n c=>n*10+(c.toNat - 48)) acc
theorem x9 (acc:Nat) (c:UInt8) (r:Txt):EU acc (c::r)=EU (acc*10+(c.toNat - 48)) r:=List.foldl_cons ..
theorem AI:∀(l:Txt) (acc:Nat),acc≤EU acc l
 | [],acc=>Nat.le_refl _
 |c::r,acc=>by rw [x9]; exact Nat.le_trans (by omega) (AI r (acc*10+(c.toNat - 48)))
theorem rM:∀(l:Txt) (acc:Nat),(∀c∈l,dgt c=true)→acc<18446744073709551616→
  Lib.parseUint10 acc l=if EU acc l<18446744073709551616 then .ok (EU acc l) else .range
 | [],acc,_,ha=>by
  have:EU acc []=acc:=rfl;rw [this,if_pos ha]; rfl
 |c::r,acc,hd,ha=>by
  have hc:=(DV c).1 (hd c (by simp))
  have hm:=AI r (acc*10+(c.toNat - 48));rw [x9];unfold Lib.parseUint10;rw [if_pos hc];split
  ·rw [if_neg (by omega)]
  ·split
   ·rw [if_neg (by omega)]
   ·exact rM r _ (fun x hx=>hd x (by simp [hx])) (by omega)
def l7 (neg:Bool):Txt:=if neg then [45] else []
theorem tC (neg:Bool) (d:Txt) (h0:d≠ []) (hd:∀c∈d,dgt c=true):
  Lib.atoiAll (l7 neg++d)=if -9223372036854775808≤(if neg then -(nS d:Int) else (nS d:Int))∧(if neg then -(nS d:Int) else (nS d:Int))≤9223372036854775807 then .ok (if neg then -(nS d:Int) else (nS d:Int)) else .range:=by
 have hp:Lib.parseMag d=if nS d<18446744073709551616 then .ok (nS d) else .range:=by
  unfold Lib.parseMag;rw [if_neg h0];exact rM d 0 hd (by decide)
 cases neg
 ·obtain ⟨c,r,rfl⟩:=List.exists_cons_of_ne_nil h0
  have hc:=(DV c).1 (hd c (by simp))
  simp only [l7,Bool.false_eq_true,if_false,List.nil_append,Lib.atoiAll];rw [if_neg (by omega),hp]
  have e45:(c.toNat=45)=False:=by simp; omega
  simp only [e45,not_false_eq_true,true_and,false_and,if_false];split
  ·rename_i h; split at h
   ·cases h
   ·cases h
  ·rename_i h; split at h
   ·cases h
   ·rw [if_neg (by omega)]
  ·rename_i u h; split at h
   ·cases h
    split
    ·rw [if_neg (by omega)]
    ·rw [if_pos (by omega)]
   ·cases h
 ·simp only [l7,if_true,List.cons_append,List.nil_append,Lib.atoiAll]
  rw [if_pos (.inr (by decide)),hp]
  simp only [show ((45:UInt8).toNat=45)=True by simp,not_true_eq_false,false_and,if_false,true_and,if_true]
  split
  ·rename_i h; split at h
   ·cases h
   ·cases h
  ·rename_i h; split at h
   ·cases h
   ·rw [if_neg (by omega)]
  ·rename_i u h; split at h
   ·cases h
    split
    ·rw [if_neg (by omega)]
    ·rw [if_pos (by omega)]
   ·cases h
theorem xL (s:Txt):∀c∈s.takeWhile dgt,dgt c=true:=fun c hc=>by
 induction s with
 |nil=>cases hc
 |cons x r ih=>
  simp only [List.takeWhile_cons] at hc;split at hc
  ·rename_i hx
   rcases List.mem_cons.1 hc with rfl|hc
   ·exact hx
   ·exact ih hc
  ·cases hc
end Go.Bf
namespace Go.Proofs
open Go.Shelf
def Tryz.Bi:Go.Shelf.Ren:=⟨fun|137=>128|217=>164|266=>187|n=>n,fun|9=>9|5=>5|3=>3|n=>n,fun|n=>n⟩
theorem Tryz.J2:Go.Proofs.Lays.n137 Tryz.prog Tryz.Bi:= {
 mixed:=by kernel_rfl
 f137:=Tryz.func128.trans (congrArg some (by kernel_rfl))
 f217:=Tryz.func164.trans (congrArg some (by kernel_rfl))
 f266:=Tryz.func187.trans (congrArg some (by kernel_rfl))
 t3:=Tryz.underlying3
 a3:=Tryz.isAgg3
 z3:=Tryz.sizeOf3
 v3:=Tryz.zeroValue3
 t5:=Tryz.underlying5
 a5:=Tryz.isAgg5
 z5:=Tryz.sizeOf5
 v5:=Tryz.zeroValue5
 t9:=Tryz.underlying9
 a9:=Tryz.isAgg9
 z9:=Tryz.sizeOf9
 v9:=Tryz.zeroValue9}
open Go.RowKit in
theorem Tryz.strings_IndexByte (s:ByteArray) (c:Int) (w:World):
  Calls Tryz.prog 128 #[.string s, .int .u8 c] w fun e w' =>e= .returned (.int .i64 (Lib.indexByte s.data.toList c.toNat.toUInt8))∧w' =w:=Any.strings_IndexByte Tryz.J2 s c w
def Tryz.zP:Go.Shelf.Ren:=⟨fun|172=>161|244=>184|245=>185|247=>202|279=>203|280=>204|281=>205|282=>206|287=>223|316=>224|171=>226|205=>225|321=>229|322=>230|243=>231|246=>232|283=>233|284=>234|285=>235|286=>236|129=>238|317=>237|318=>239|319=>240|320=>241|337=>242|338=>243|n=>n,fun|9=>9|3=>3|75=>242|76=>243|4=>4|5=>5|167=>290|37=>245|0=>0|85=>291|2=>2|168=>293|53=>308|175=>309|46=>311|210=>313|127=>319|145=>322|143=>320|21=>21|171=>324|173=>327|212=>330|51=>331|20=>20|213=>332|232=>335|233=>336|80=>177|n=>n,fun|15=>1|16=>2|17=>3|18=>4|19=>5|n=>n⟩
theorem Tryz.Bj:Go.Proofs.LaysC.n172 Tryz.prog Tryz.zP:= {
 mixed:=by kernel_rfl
 f129:=Tryz.func238.trans (congrArg some (by kernel_rfl))
 f171:=Tryz.func226.trans (congrArg some (by kernel_rfl))
 f172:=Tryz.func161.trans (congrArg some (by kernel_rfl))
 f205:=Tryz.func225.trans (congrArg some (by kernel_rfl))
 f243:=Tryz.func231.trans (congrArg some (by kernel_rfl))
 f244:=Tryz.func184.trans (congrArg some (by kernel_rfl))
 f245:=Tryz.func185.trans (congrArg some (by kernel_rfl))
 f246:=Tryz.func232.trans (congrArg some (by kernel_rfl))
 f247:=Tryz.func202.trans (congrArg some (by kernel_rfl))
 f279:=Tryz.func203.trans (congrArg some (by kernel_rfl))
 f280:=Tryz.func204.trans (congrArg some (by kernel_rfl))
 f281:=Tryz.func205.trans (congrArg some (by kernel_rfl))
 f282:=Tryz.func206.trans (congrArg some (by kernel_rfl))
 f283:=Tryz.func233.trans (congrArg some (by kernel_rfl))
 f284:=Tryz.func234.trans (congrArg some (by kernel_rfl))
 f285:=Tryz.func235.trans (congrArg some (by kernel_rfl))
 f286:=Tryz.func236.trans (congrArg some (by kernel_rfl))
 f287:=Tryz.func223.trans (congrArg some (by kernel_rfl))
 f316:=Tryz.func224.trans (congrArg some (by kernel_rfl))
 f317:=Tryz.func237.trans (congrArg some (by kernel_rfl))
 f318:=Tryz.func239.trans (congrArg some (by kernel_rfl))
 f319:=Tryz.func240.trans (congrArg some (by kernel_rfl))
 f320:=Tryz.func241.trans (congrArg some (by kernel_rfl))
 f321:=Tryz.func229.trans (congrArg some (by kernel_rfl))
 f322:=Tryz.func230.trans (congrArg some (by kernel_rfl))
 f337:=Tryz.func242.trans (congrArg some (by kernel_rfl))
 f338:=Tryz.func243.trans (congrArg some (by kernel_rfl))
 t0:=Tryz.underlying0
 a0:=Tryz.isAgg0
 z0:=Tryz.sizeOf0
 v0:=Tryz.zeroValue0
 t2:=Tryz.underlying2
 a2:=Tryz.isAgg2
 z2:=Tryz.sizeOf2
 v2:=Tryz.zeroValue2
 t3:=Tryz.underlying3
 a3:=Tryz.isAgg3
 z3:=Tryz.sizeOf3
 v3:=Tryz.zeroValue3
 t4:=Tryz.underlying4
 a4:=Tryz.isAgg4
 z4:=Tryz.sizeOf4
 v4:=Tryz.zeroValue4
 t5:=Tryz.underlying5
 a5:=Tryz.isAgg5
 z5:=Tryz.sizeOf5
 v5:=Tryz.zeroValue5
 t9:=Tryz.underlying9
 a9:=Tryz.isAgg9
 z9:=Tryz.sizeOf9
 v9:=Tryz.zeroValue9
 t20:=Tryz.underlying20
 a20:=Tryz.isAgg20
 z20:=Tryz.sizeOf20
 v20:=Tryz.zeroValue20
 t21:=Tryz.underlying21
 a21:=Tryz.isAgg21
 z21:=Tryz.sizeOf21
 v21:=Tryz.zeroValue21
 t37:=Tryz.underlying245
 a37:=Tryz.isAgg245
 z37:=Tryz.sizeOf245
 v37:=Tryz.zeroValue245
 t46:=Tryz.underlying311
 a46:=Tryz.isAgg311
 z46:=Tryz.sizeOf311
 v46:=Tryz.zeroValue311
 t51:=Tryz.underlying331
 a51:=Tryz.isAgg331
 z51:=Tryz.sizeOf331
 v51:=Tryz.zeroValue331
 t53:=Tryz.underlying308
 a53:=Tryz.isAgg308
 z53:=Tryz.sizeOf308
 v53:=Tryz.zeroValue308
 t75:=Tryz.underlying242
 a75:=Tryz.isAgg242
 z75:=Tryz.sizeOf242
 v75:=Tryz.zeroValue242
 t76:=Tryz.underlying243
 a76:=Tryz.isAgg243
 z76:=Tryz.sizeOf243
 v76:=Tryz.zeroValue243
 t85:=Tryz.underlying291
 a85:=Tryz.isAgg291
 z85:=Tryz.sizeOf291
 v85:=Tryz.zeroValue291
 t127:=Tryz.underlying319
 a127:=Tryz.isAgg319
 z127:=Tryz.sizeOf319
 v127:=Tryz.zeroValue319
 t143:=Tryz.underlying320
 a143:=Tryz.isAgg320
 z143:=Tryz.sizeOf320
 v143:=Tryz.zeroValue320
 t145:=Tryz.underlying322
 a145:=Tryz.isAgg322
 z145:=Tryz.sizeOf322
 v145:=Tryz.zeroValue322
 t167:=Tryz.underlying290
 a167:=Tryz.isAgg290
 z167:=Tryz.sizeOf290
 v167:=Tryz.zeroValue290
 t168:=Tryz.underlying293
 a168:=Tryz.isAgg293
 z168:=Tryz.sizeOf293
 v168:=Tryz.zeroValue293
 t171:=Tryz.underlying324
 a171:=Tryz.isAgg324
 z171:=Tryz.sizeOf324
 v171:=Tryz.zeroValue324
 t173:=Tryz.underlying327
 a173:=Tryz.isAgg327
 z173:=Tryz.sizeOf327
 v173:=Tryz.zeroValue327
 t175:=Tryz.underlying309
 a175:=Tryz.isAgg309
 z175:=Tryz.sizeOf309
 v175:=Tryz.zeroValue309
 t210:=Tryz.underlying313
 a210:=Tryz.isAgg313
 z210:=Tryz.sizeOf313
 v210:=Tryz.zeroValue313
 t212:=Tryz.underlying330
 a212:=Tryz.isAgg330
 z212:=Tryz.sizeOf330
 v212:=Tryz.zeroValue330
 t213:=Tryz.underlying332
 a213:=Tryz.isAgg332
 z213:=Tryz.sizeOf332
 t232:=Tryz.underlying335
 a232:=Tryz.isAgg335
 z232:=Tryz.sizeOf335
 v232:=Tryz.zeroValue335
 t233:=Tryz.underlying336
 a233:=Tryz.isAgg336
 z233:=Tryz.sizeOf336
 v233:=Tryz.zeroValue336
 g15:=by kernel_rfl
 g16:=by kernel_rfl
 g17:=by kernel_rfl
 g18:=by kernel_rfl
 g19:=by kernel_rfl
 t80:=Tryz.underlying177
 a80:=Tryz.isAgg177
 z80:=Tryz.sizeOf177
 v80:=Tryz.zeroValue177
 i0:=by kernel_rfl
 i2:=by kernel_rfl
 i3:=by kernel_rfl
 i4:=by kernel_rfl
 i5:=by kernel_rfl
 i9:=by kernel_rfl
 i20:=by kernel_rfl
 i21:=by kernel_rfl
 i37:=by kernel_rfl
 i46:=by kernel_rfl
 i51:=by kernel_rfl
 i53:=by kernel_rfl
 i75:=by kernel_rfl
 i76:=by kernel_rfl
 i80:=by kernel_rfl
 i85:=by kernel_rfl
 i127:=by kernel_rfl
 i143:=by kernel_rfl
 i145:=by kernel_rfl
 i167:=by kernel_rfl
 i168:=by kernel_rfl
 i171:=by kernel_rfl
 i173:=by kernel_rfl
 i175:=by kernel_rfl
 i210:=by kernel_rfl
 i212:=by kernel_rfl
 i232:=by kernel_rfl
 i233:=by kernel_rfl
 m15:=by kernel_rfl
 m16:=by kernel_rfl
 m17:=by kernel_rfl
 m18:=by kernel_rfl
 m19:=by kernel_rfl
 c0:=by kernel_rfl
 c2:=by kernel_rfl
 c3:=by kernel_rfl
 c4:=by kernel_rfl
 c5:=by kernel_rfl
 c9:=by kernel_rfl
 c20:=by kernel_rfl
 c21:=by kernel_rfl
 c37:=by kernel_rfl
 c46:=by kernel_rfl
 c51:=by kernel_rfl
 c53:=by kernel_rfl
 c75:=by kernel_rfl
 c76:=by kernel_rfl
 c80:=by kernel_rfl
 c85:=by kernel_rfl
 c127:=by kernel_rfl
 c143:=by kernel_rfl
 c145:=by kernel_rfl
 c167:=by kernel_rfl
 c168:=by kernel_rfl
 c171:=by kernel_rfl
 c173:=by kernel_rfl
 c175:=by kernel_rfl
 c210:=by kernel_rfl
 c212:=by kernel_rfl
 c213:=by kernel_rfl
 c232:=by kernel_rfl
 c233:=by kernel_rfl}
open Go.RowKit in
theorem Tryz.strconv_Atoi_ok (s:ByteArray) (hmax:s.size≤9223372036854775806) (v:Int) (h:Lib.atoiAll s.data.toList= .ok v) (w:World):
  Calls Tryz.prog 161 #[.string s] w fun e w' =>e= .returned (.tuple #[.int .i64 v, .nilIface])∧(w' =w∨∃t,w' =Lib.bytesWorld w 5 t):=Any.strconv_Atoi_ok Tryz.Bj s hmax v h w
open Go.RowKit in
theorem Tryz.strconv_Atoi_range (s:ByteArray) (hlim:s.size≤281474976710656) (h:Lib.atoiAll s.data.toList= .range) (ev:Value) (w:World) (hv:w.cell? ⟨2,0,none⟩=some ev) (hev:ev= .nilIface∨∃te pe,ev= .iface te pe):
  Calls Tryz.prog 161 #[.string s] w fun e w' =>∃N,e= .returned (.tuple #[.int .i64 (Lib.atoiSat s.data.toList), .iface 293 (.pointer (some ⟨N,0,none⟩))])∧w.heap.size≤N∧w'.heap[N]? =some (.cells #[.string ⟨#[65,116,111,105]⟩, .string s,ev] 313 (0,0))∧Below w.heap.size w w' :=Any.strconv_Atoi_range Tryz.Bj s hlim h ev w hv hev
end Go.Proofs
namespace Go.Proofs.YtnlbeamjpefpfaaGreatDoor
open Go Go.Ab Go.Bf Go.RowKit
theorem FY (s:Txt) (hs:s.length≤100000) (w:World):Calls Tryz.prog 159 #[.string ⟨s.toArray⟩, .func (.func 125) #[] #[]] w fun e w' =>e= .returned (.int .i64 (s.takeWhile dgt).length)∧Below w.heap.size w w' :=by
 refine Go.Ab.ak.calls (args:= [.s s, .fn 125 []]) ⟨_,Tryz.func159,by kernel_rfl,rfl⟩ ((IN _ _ lu s cN).mono fun _ _ h=>h.1) rfl (fun i hi=> ?_)
 rcases i with _|_|i
 ·exact .s s (by show s.length<lim; have:(100000:Nat)<lim:=(by decide); omega)
 ·exact .fn _ [] #[] rfl (fun i hi=>by cases hi)
 ·simp at hi; omega
def xN (neg:Bool) (d:Txt):Int:=if neg then -(nS d:Int) else (nS d:Int)
def inI (neg:Bool) (d:Txt):Prop:= -9223372036854775808≤(if neg then -(nS d:Int) else (nS d:Int))∧(if neg then -(nS d:Int) else (nS d:Int))≤9223372036854775807
instance (neg:Bool) (d:Txt):Decidable (inI neg d):=inferInstanceAs (Decidable (_∧_))
theorem wW (neg:Bool):(l7 neg).length≤1:=by cases neg<;>decide
theorem DO (neg:Bool) (d:Txt) (h0:d≠ []) (hd:∀c∈d,dgt c=true) (hlen:d.length≤10000) (S:ByteArray) (hS:S=⟨(l7 neg++d).toArray⟩) (hr:inI neg d) (W:World):
  Calls Tryz.prog 161 #[.string S] W fun e w' =>e= .returned (.tuple #[.int .i64 (xN neg d), .nilIface])∧Below W.heap.size W w' :=by
 have hl:=wW neg;have hsz:S.size≤10001:=by rw [hS]; simp [ByteArray.size]; omega
 have ha:Lib.atoiAll S.data.toList= .ok (xN neg d):=by
  rw [hS]
  show Lib.atoiAll (l7 neg++d)=_
  rw [tC neg d h0 hd];exact if_pos hr
 refine (Tryz.strconv_Atoi_ok S (by omega) _ ha W).mono ?_
 rintro e w' ⟨rfl,rfl|⟨t,rfl⟩⟩
 ·exact ⟨rfl, .refl _ _⟩
 ·exact ⟨rfl,Lib.bytesWorld_below W _ t⟩
theorem Ap (neg:Bool) (d:Txt) (h0:d≠ []) (hd:∀c∈d,dgt c=true) (hlen:d.length≤10000) (S:ByteArray) (hS:S=⟨(l7 neg++d).toArray⟩) (hr:¬inI neg d) (W:World) (ev:Value) (hv:W.cell? ⟨2,0,none⟩=some ev) (hev:ev= .nilIface∨∃te pe,ev= .iface te pe):
  Calls Tryz.prog 161 #[.string S] W fun e w' =>(∃(x:Int) (N:Nat),e= .returned (.tuple #[.int .i64 x, .iface 293 (.pointer (some ⟨N,0,none⟩))]))∧Below W.heap.size W w' :=by
 have hl:=wW neg;have hsz:S.size≤10001:=by rw [hS]; simp [ByteArray.size]; omega
 have ha:Lib.atoiAll S.data.toList= .range:=by
  rw [hS]
  show Lib.atoiAll (l7 neg++d)=_
  rw [tC neg d h0 hd];exact if_neg hr
 refine (Tryz.strconv_Atoi_range S (by omega) ha ev W hv hev).mono ?_
 rintro e w' ⟨N,rfl,_,_,hb⟩
 exact ⟨⟨_,N,rfl⟩,hb⟩
set_option maxHeartbeats 1000000 in
set_option maxRecDepth 1000000 in
theorem Bt (neg:Bool) (s:Txt) (hs:s.length≤10000) (w:World) (ev:Value) (hv:w.cell? ⟨2,0,none⟩=some ev) (hev:ev= .nilIface∨∃te pe,ev= .iface te pe) (hg:2<w.heap.size):
  Calls Tryz.prog 126 #[.string ⟨(l7 neg).toArray⟩, .string ⟨s.toArray⟩] w fun e w' =>e= .returned (.tuple #[.int .i64 (eJ neg s).1, .int .i64 ((eJ neg s).2:Nat)])∧Below w.heap.size w w' :=by
 have hle:=gW dgt s;obtain ⟨d,ed⟩:∃d,s.takeWhile dgt=d:=⟨_,rfl⟩;have htk:s.take d.length=d:=by rw [←ed,pn]
 have hrun:=FY s (by omega) w
 have hall:=xL s;rw [ed] at hrun hle hall
 go_enter Tryz.func126,Tryz.ntmps126
 by_cases h0:d.length=0
 ·have e0:d= []:=List.length_eq_zero_iff.1 h0
  have en:eJ neg s=(0,0):=by unfold eJ; rw [ed,if_pos (.inl e0)]
  go_wp2_with (go_at_call 159; refine hrun.mono ?_)
  rintro e W0 ⟨rfl,b0⟩
  rw [h0]
  go_wp2
  go_ret2
  rw [en];exact ⟨rfl,b0⟩
 ·have e0:d≠ []:=by rintro rfl; exact h0 rfl
  go_wp2_with (go_at_call 159; refine hrun.mono ?_)
  rintro e W0 ⟨rfl,b0⟩
  have hpos:0<d.length:=by omega
  have hs0:0<s.length:=by omega
  have hsz:0<(⟨s.toArray⟩:ByteArray).size:=by simpa [ByteArray.size] using hs0
  have hg0:(⟨s.toArray⟩:ByteArray)[0]=s[0]:=rfl;have hgn:∀x:UInt8,(s.head? =some x)↔s[0]=x:=fun x=>by
   rw [List.head?_eq_getElem?,List.getElem?_eq_getElem hs0]; simp
  cases d0:((d.length:Int)==0)
  case true=>exact absurd (by simpa using d0) h0
  have hS:(⟨(l7 neg).toArray⟩:ByteArray)++(⟨s.toArray⟩:ByteArray).extract 0 d.length=⟨(l7 neg++d).toArray⟩:=by
   apply ByteArray.ext;simp [ByteArray.data_extract,htk]
  have hcat:¬9223372036854775807<List.length (l7 neg)+d.length:=by have:=wW neg; omega
  cases d1:decide (1<(d.length:Int))
  ·have f1:¬1<d.length:=by have:=V3 d1; omega
   have en:eJ neg s=if inI neg d then (xN neg d,d.length) else (0,0):=by
    unfold eJ;rw [ed,if_neg (by simp [e0,f1])]
    rfl
   have hv0:W0.cell? ⟨2,0,none⟩=some ev:=by rw [b0.cell hg]; exact hv
   by_cases hr:inI neg d
   ·rw [if_pos hr] at en
    go_wp2_with (go_at_call 161; refine (DO neg d e0 hall (by omega) _ (by first|exact hS|(apply ByteArray.ext; simp [ByteArray.data_extract])) hr _).mono ?_)
    rintro e W1 ⟨rfl,b1⟩
    go_wp2
    go_ret2
    rw [en];exact ⟨rfl,b0.trans (b1.mono b0.size)⟩
   ·rw [if_neg hr] at en
    go_wp2_with (go_at_call 161; refine (Ap neg d e0 hall (by omega) _ (by first|exact hS|(apply ByteArray.ext; simp [ByteArray.data_extract])) hr _ ev hv0 hev).mono ?_)
    rintro e W1 ⟨⟨x,N,rfl⟩,b1⟩
    go_wp2
    go_ret2
    rw [en];exact ⟨rfl,b0.trans (b1.mono b0.size)⟩
  ·have f1:1<d.length:=by have:=V2 d1; omega
   cases d2:((s[0].toNat:Int)==48)
   ·have f2:s.head?≠some 48:=by
     rw [ne_eq,hgn]; intro e; rw [e] at d2; simp at d2
    have en:eJ neg s=if inI neg d then (xN neg d,d.length) else (0,0):=by
     unfold eJ;rw [ed,if_neg (by simp [e0,f2])]
     rfl
    have hv0:W0.cell? ⟨2,0,none⟩=some ev:=by rw [b0.cell hg]; exact hv
    by_cases hr:inI neg d
    ·rw [if_pos hr] at en
     go_wp2_with (go_at_call 161; refine (DO neg d e0 hall (by omega) _ (by first|exact hS|(apply ByteArray.ext; simp [ByteArray.data_extract])) hr _).mono ?_)
     rintro e W1 ⟨rfl,b1⟩
     go_wp2
     go_ret2
     rw [en];exact ⟨rfl,b0.trans (b1.mono b0.size)⟩
    ·rw [if_neg hr] at en
     go_wp2_with (go_at_call 161; refine (Ap neg d e0 hall (by omega) _ (by first|exact hS|(apply ByteArray.ext; simp [ByteArray.data_extract])) hr _ ev hv0 hev).mono ?_)
     rintro e W1 ⟨⟨x,N,rfl⟩,b1⟩
     go_wp2
     go_ret2
     rw [en];exact ⟨rfl,b0.trans (b1.mono b0.size)⟩
   ·have f2:s.head? =some 48:=by
     rw [hgn];have:(s[0].toNat:Int)=48:=by simpa using d2
     exact UInt8.toNat_inj.1 (by show s[0].toNat=48; omega)
    have en:eJ neg s=(0,0):=by unfold eJ; rw [ed,if_pos (.inr ⟨f1,f2⟩)]
    go_wp2
    go_ret2
    rw [en];exact ⟨rfl,b0⟩
def qq (h:Heap):Prop:=∃ev:Value,(ev= .nilIface∨∃te pe,ev= .iface te pe)∧Tab h 2 [ev]
theorem qq.sub {h h' :Heap} (he:qq h) (hs:Ab.Sub h h'):qq h' :=by
 obtain ⟨ev,h1,h2⟩:=he;exact ⟨ev,h1,h2.sub hs⟩
theorem kT (neg:Bool) (s:Txt) (hs:s.length≤10000) (h:Heap) (he:qq h):ak Tryz.prog 126 [.s (l7 neg), .s s] h fun r h' =>r= .tup [.v (.int .i64 (eJ neg s).1), .v (.int .i64 ((eJ neg s).2:Nat))]∧h' =h:=by
 obtain ⟨ev,hev,id,hi⟩:=he;refine .lib ⟨_,Tryz.func126,by kernel_rfl,rfl⟩ fun c vs hs' g h1 h2=> ?_
 obtain ⟨u,v,rfl⟩:∃u v,vs= #[u,v]:=by
  match vs,h1 with
  |⟨[u,v]⟩,_=>exact ⟨u,v,rfl⟩
 have e1:u= .string ⟨(l7 neg).toArray⟩:=((h2 0 (by simp)).l6).1
 have e2:v= .string ⟨s.toArray⟩:=((h2 1 (by simp)).l6).1
 subst e1; subst e2
 obtain ⟨_,t,fr,hh⟩:=g.ro id _ _ (hs' _ _ hi);have hc:c.w.cell? ⟨2,0,none⟩=some ev:=by simp [World.cell?,hh]
 refine (Bt neg s hs c.w ev hc hev (cg hh)).mono ?_
 rintro e w' ⟨rfl,hb⟩
 refine ⟨⟨_,rfl,fun c' _=> ?_⟩,hb⟩
 refine .tup _ _ rfl fun i hi=> ?_
 rcases i with _|_|i
 ·exact .v _
 ·exact .v _
 ·simp at hi; omega
end Go.Proofs.YtnlbeamjpefpfaaGreatDoor
namespace Go.Bf
open Go Go.Ab
def marks:Txt:= [123,125,40,41,46,44,59,61,60,62,33]
set_option maxRecDepth 100000 in
theorem xx:∀n:Fin 256,decide (0≤Lib.indexByte marks (UInt8.ofNat n.val))=Bo (UInt8.ofNat n.val):=by decide
theorem pL (c:UInt8):decide (0≤Lib.indexByte marks c)=Bo c:=by
 have:=xx ⟨c.toNat,c.toNat_lt⟩;simpa using this
end Go.Bf
namespace Go.Proofs.YtnlbeamjpefpfaaGreatDoor
open Go Go.Ab Go.Bf
theorem A9 (l:Txt) (c:UInt8) (h:Heap):ak Tryz.prog 128 [.s l, .v (.int .u8 c.toNat)] h fun r h' =>r= .v (.int .i64 (Lib.indexByte l c))∧h' =h:=by
 refine .lib ⟨_,Tryz.func128,by kernel_rfl,rfl⟩ fun cx vs hs' g h1 h2=> ?_
 obtain ⟨u,v,rfl⟩:∃u v,vs= #[u,v]:=by
  match vs,h1 with
  |⟨[u,v]⟩,_=>exact ⟨u,v,rfl⟩
 have e1:u= .string ⟨l.toArray⟩:=((h2 0 (by simp)).l6).1
 have e2:v= .int .u8 c.toNat:=(h2 1 (by simp)).bS
 subst e1; subst e2
 refine (Tryz.strings_IndexByte ⟨l.toArray⟩ c.toNat cx.w).mono ?_
 rintro e w' ⟨rfl,rfl⟩
 refine ⟨⟨_,rfl,fun c' _=> ?_⟩, .refl _ _⟩
 have:((c.toNat:Int).toNat).toUInt8=c:=by simp
 rw [this];exact .v _
theorem EK (s:Txt) (h0:s≠ []) (hs:s.length≤4096) (h:Heap) (he:qq h):ak Tryz.prog 95 [.s s] h fun r h' =>r= .tup [fm (bO s).1, .v (.int .i64 ((bO s).2:Nat))]∧h' =h:=by
 refine ak.body hU hm Tryz.func95 rfl (by kernel_rfl) 106 rfl [.cell 2 137, .tmp 3] rfl (VZ rfl) (fun hwf=> ?_)
 obtain ⟨c,r,rfl⟩:=List.exists_cons_of_ne_nil h0;have hsl:r.length≤4095:=by simpa using hs
 simp only [go_sem];intro i2 hi2;simp only [go_sem];intro i4 hi4;have n24:=aH hi4;have g2:∀(f:Heap) (x:Option Blk),upd f i4 x i2=f i2:=fun f x=>ag f x n24.symm
 have g4:∀(f:Heap) (x:Option Blk),upd f i2 x i4=f i4:=fun f x=>ag f x n24
 have hsub:Ab.Sub h (upd (upd h i2 (some (.obj [.v (.int .i64 0), .v (.int .i64 0), .v (.int .i64 0), .s []] 137))) i4 (some (.obj [.v (.int .i64 0), .v (.int .i64 0), .v (.int .i64 0), .s []] 137))):=(Sub.ai hi2).trans (.ai hi4);have he2:=he.sub hsub;have hi4h:h i4=none:=by rw [ag _ _ n24] at hi4; exact hi4
 simp only [go_sem];refine .at 0 (by simp) ?_
 cases la:decide (97≤(c.toNat:Int))
 ·have hl:ltr c=false:=by simp only [ltr,la,Bool.false_and]
  simp only [go_sem,ct,List.getElem_cons_zero,la];have hlt:(c::r).headD 0=c:=rfl;refine (lu c _).pthen ?_;cases d1:dgt c
  case true=>
   simp only [go_sem,ah];refine (kT false (c::r) (by simp; omega) _ (he.sub (by repeat (first|exact .refl _|refine Sub.put ?_ (by assumption) _)))).pthen ?_
   simp only [go_sem,g2,ah];exact .mk _ (.refl _) (by repeat (first|exact .refl _|refine Sub.put ?_ (by assumption) _)) ⟨by simp [bO,hl,d1,fm,ax],rfl⟩
  have nb:∀(x:UInt8) (n:Int),n=x.toNat→((c.toNat:Int)==n)=true→c=x:=fun x n e h=>by
   have:(c.toNat:Int)=n:=by simpa using h
   exact UInt8.toNat_inj.1 (by omega)
  have nn:∀(x:UInt8) (n:Int),n=x.toNat→((c.toNat:Int)==n)=false→c≠x:=fun x n e h hc=>by
   subst hc; rw [e] at h; simp at h
  have k1:=mY true r;have k2:=mY false r;have k3:=sk r;cases d2:((c.toNat:Int)==45)
  case true=>
   have e2:=nb 45 45 rfl d2;simp only [go_sem,d2,ah,kG,Option.isSome_none,Option.isSome_some,Int.reduceToNat,List.drop_succ_cons,List.drop_zero,List.length_cons];refine ⟨by omega,by omega,by omega, ?_⟩
   refine (kT true r (by omega) _ (he.sub (by repeat (first|exact .refl _|refine Sub.put ?_ (by assumption) _)))).pthen ?_
   cases d3:((eJ true r).1==0)
   ·have e3:(eJ true r).1≠0:=by simpa using d3
    have w1:IntKind.i64.wrap (((eJ true r).2:Int)+1)=(((eJ true r).2+1:Nat):Int):=by rw [bx _ (by omega)]; omega
    simp only [go_sem,d3,g2,ah,w1];exact .mk _ (.refl _) (by repeat (first|exact .refl _|refine Sub.put ?_ (by assumption) _)) ⟨by subst e2; simp [bO,hl,d1,e3,fm,ax],rfl⟩
   ·have e3:(eJ true r).1=0:=by simpa using d3
    simp only [go_sem,d3,g2,ah];exact .mk _ (.refl _) (by repeat (first|exact .refl _|refine Sub.put ?_ (by assumption) _)) ⟨by subst e2; simp [bO,hl,d1,e3,fm,ax],rfl⟩
  have e2:=nn 45 45 rfl d2;cases d4:((c.toNat:Int)==64)
  case true=>
   have e4:=nb 64 64 rfl d4;simp only [go_sem,d2,d4,ah,kG,Option.isSome_none,Option.isSome_some,Int.reduceToNat,List.drop_succ_cons,List.drop_zero,List.length_cons];refine ⟨by omega,by omega,by omega, ?_⟩
   refine (kT false r (by omega) _ (he.sub (by repeat (first|exact .refl _|refine Sub.put ?_ (by assumption) _)))).pthen ?_
   cases d3:(((eJ false r).2:Int)==0)
   case true=>
    have e3:(eJ false r).2=0:=by simpa using d3
    simp only [go_sem,d3,g2,ah];exact .mk _ (.refl _) (by repeat (first|exact .refl _|refine Sub.put ?_ (by assumption) _)) ⟨by subst e4; simp [bO,hl,d1,e3,fm,ax],rfl⟩
   have e3:(eJ false r).2≠0:=by simpa using d3
   cases d5:decide (1099511627776<(eJ false r).1)
   ·have e5:¬1099511627776<(eJ false r).1:=V3 d5
    have w1:IntKind.i64.wrap (((eJ false r).2:Int)+1)=(((eJ false r).2+1:Nat):Int):=by rw [bx _ (by omega)]; omega
    simp only [go_sem,d3,d5,g2,ah,w1];exact .mk _ (.refl _) (by repeat (first|exact .refl _|refine Sub.put ?_ (by assumption) _)) ⟨by subst e4; simp [bO,hl,d1,e3,e5,fm,ax],rfl⟩
   ·have e5:1099511627776<(eJ false r).1:=V2 d5
    simp only [go_sem,d3,d5,g2,ah];exact .mk _ (.refl _) (by repeat (first|exact .refl _|refine Sub.put ?_ (by assumption) _)) ⟨by subst e4; simp [bO,hl,d1,e3,e5,fm,ax],rfl⟩
  have e4:=nn 64 64 rfl d4;cases d6:((c.toNat:Int)==35)
  case true=>
   have e6:=nb 35 35 rfl d6;simp only [go_sem,d2,d4,d6,kG,Option.isSome_none,Option.isSome_some,Int.reduceToNat,List.drop_succ_cons,List.drop_zero,List.length_cons];refine ⟨by omega,by omega,by omega, ?_⟩
   refine (wj r _).pthen ?_;cases d3:(iU r== [])
   ·have e3:iU r≠ []:=by simpa using d3
    have w1:IntKind.i64.wrap (((iU r).length:Int)+1)=(((iU r).length+1:Nat):Int):=by rw [bx _ (by omega)]; omega
    simp only [go_sem,d3,g2,ah,w1];exact .mk _ (.refl _) (by repeat (first|exact .refl _|refine Sub.put ?_ (by assumption) _)) ⟨by subst e6; simp [bO,hl,d1,e3,fm,ax],rfl⟩
   ·have e3:iU r= []:=by simpa using d3
    simp only [go_sem,d3,g2,ah];exact .mk _ (.refl _) (by repeat (first|exact .refl _|refine Sub.put ?_ (by assumption) _)) ⟨by subst e6; simp [bO,hl,d1,e3,fm,ax],rfl⟩
  have e6:=nn 35 35 rfl d6;cases d7:((c.toNat:Int)==34)
  case true=>
   have e7:=nb 34 34 rfl d7;simp only [go_sem,d2,d4,d6,d7,ah];refine (Ey (c::r) (by simp; omega) _).pthen ?_
   simp only [go_sem,g2,ah];exact .mk _ (.refl _) (by repeat (first|exact .refl _|refine Sub.put ?_ (by assumption) _)) ⟨by subst e7; simp [bO,hl,d1,fm,ax],rfl⟩
  have e7:=nn 34 34 rfl d7;simp only [go_sem,d2,d4,d6,d7];refine (A9 marks c _).pthen ?_;cases d8:Bo c
  ·simp only [go_sem,g2,ah,pL,d8]
   exact .mk _ (.refl _) (by repeat (first|exact .refl _|refine Sub.put ?_ (by assumption) _)) ⟨by simp [bO,hl,d1,e2,e4,e6,e7,d8,fm,ax],rfl⟩
  ·simp only [go_sem,pL,d8]
   refine .calls cN [0,1,2,3,4,5,6] (fun _ _ h=>by cases h) (by kernel_rfl) rfl ?_
   simp only [go_sem,g2,ah,pH,Option.isSome_none,Option.isSome_some,Int.reduceToNat,List.take_succ_cons,List.take_zero,List.length_cons];refine ⟨by omega,by omega,by omega,(fun _ _ h=>(by cases h)),(fun _ _ h=>(by cases h)), ?_⟩
   exact .mk _ (.refl _) (by repeat (first|exact .refl _|refine Sub.put ?_ (by assumption) _)) ⟨by simp [bO,hl,d1,e2,e4,e6,e7,d8,fm,ax],rfl⟩
 ·cases lb:decide ((c.toNat:Int)≤122)
  ·have hl:ltr c=false:=by simp only [ltr,lb,Bool.and_false]
   simp only [go_sem,ct,List.getElem_cons_zero,la,lb];have hlt:(c::r).headD 0=c:=rfl;refine (lu c _).pthen ?_;cases d1:dgt c
   case true=>
    simp only [go_sem,ah];refine (kT false (c::r) (by simp; omega) _ (he.sub (by repeat (first|exact .refl _|refine Sub.put ?_ (by assumption) _)))).pthen ?_
    simp only [go_sem,g2,ah];exact .mk _ (.refl _) (by repeat (first|exact .refl _|refine Sub.put ?_ (by assumption) _)) ⟨by simp [bO,hl,d1,fm,ax],rfl⟩
   have nb:∀(x:UInt8) (n:Int),n=x.toNat→((c.toNat:Int)==n)=true→c=x:=fun x n e h=>by
    have:(c.toNat:Int)=n:=by simpa using h
    exact UInt8.toNat_inj.1 (by omega)
   have nn:∀(x:UInt8) (n:Int),n=x.toNat→((c.toNat:Int)==n)=false→c≠x:=fun x n e h hc=>by
    subst hc; rw [e] at h; simp at h
   have k1:=mY true r;have k2:=mY false r;have k3:=sk r;cases d2:((c.toNat:Int)==45)
   case true=>
    have e2:=nb 45 45 rfl d2;simp only [go_sem,d2,ah,kG,Option.isSome_none,Option.isSome_some,Int.reduceToNat,List.drop_succ_cons,List.drop_zero,List.length_cons];refine ⟨by omega,by omega,by omega, ?_⟩
    refine (kT true r (by omega) _ (he.sub (by repeat (first|exact .refl _|refine Sub.put ?_ (by assumption) _)))).pthen ?_
    cases d3:((eJ true r).1==0)
    ·have e3:(eJ true r).1≠0:=by simpa using d3
     have w1:IntKind.i64.wrap (((eJ true r).2:Int)+1)=(((eJ true r).2+1:Nat):Int):=by rw [bx _ (by omega)]; omega
     simp only [go_sem,d3,g2,ah,w1];exact .mk _ (.refl _) (by repeat (first|exact .refl _|refine Sub.put ?_ (by assumption) _)) ⟨by subst e2; simp [bO,hl,d1,e3,fm,ax],rfl⟩
    ·have e3:(eJ true r).1=0:=by simpa using d3
     simp only [go_sem,d3,g2,ah];exact .mk _ (.refl _) (by repeat (first|exact .refl _|refine Sub.put ?_ (by assumption) _)) ⟨by subst e2; simp [bO,hl,d1,e3,fm,ax],rfl⟩
   have e2:=nn 45 45 rfl d2;cases d4:((c.toNat:Int)==64)
   case true=>
    have e4:=nb 64 64 rfl d4;simp only [go_sem,d2,d4,ah,kG,Option.isSome_none,Option.isSome_some,Int.reduceToNat,List.drop_succ_cons,List.drop_zero,List.length_cons];refine ⟨by omega,by omega,by omega, ?_⟩
    refine (kT false r (by omega) _ (he.sub (by repeat (first|exact .refl _|refine Sub.put ?_ (by assumption) _)))).pthen ?_
    cases d3:(((eJ false r).2:Int)==0)
    case true=>
     have e3:(eJ false r).2=0:=by simpa using d3
     simp only [go_sem,d3,g2,ah];exact .mk _ (.refl _) (by repeat (first|exact .refl _|refine Sub.put ?_ (by assumption) _)) ⟨by subst e4; simp [bO,hl,d1,e3,fm,ax],rfl⟩
    have e3:(eJ false r).2≠0:=by simpa using d3
    cases d5:decide (1099511627776<(eJ false r).1)
    ·have e5:¬1099511627776<(eJ false r).1:=V3 d5
     have w1:IntKind.i64.wrap (((eJ false r).2:Int)+1)=(((eJ false r).2+1:Nat):Int):=by rw [bx _ (by omega)]; omega
     simp only [go_sem,d3,d5,g2,ah,w1];exact .mk _ (.refl _) (by repeat (first|exact .refl _|refine Sub.put ?_ (by assumption) _)) ⟨by subst e4; simp [bO,hl,d1,e3,e5,fm,ax],rfl⟩
    ·have e5:1099511627776<(eJ false r).1:=V2 d5
     simp only [go_sem,d3,d5,g2,ah];exact .mk _ (.refl _) (by repeat (first|exact .refl _|refine Sub.put ?_ (by assumption) _)) ⟨by subst e4; simp [bO,hl,d1,e3,e5,fm,ax],rfl⟩
   have e4:=nn 64 64 rfl d4;cases d6:((c.toNat:Int)==35)
   case true=>
    have e6:=nb 35 35 rfl d6;simp only [go_sem,d2,d4,d6,kG,Option.isSome_none,Option.isSome_some,Int.reduceToNat,List.drop_succ_cons,List.drop_zero,List.length_cons];refine ⟨by omega,by omega,by omega, ?_⟩
    refine (wj r _).pthen ?_;cases d3:(iU r== [])
    ·have e3:iU r≠ []:=by simpa using d3
     have w1:IntKind.i64.wrap (((iU r).length:Int)+1)=(((iU r).length+1:Nat):Int):=by rw [bx _ (by omega)]; omega
     simp only [go_sem,d3,g2,ah,w1];exact .mk _ (.refl _) (by repeat (first|exact .refl _|refine Sub.put ?_ (by assumption) _)) ⟨by subst e6; simp [bO,hl,d1,e3,fm,ax],rfl⟩
    ·have e3:iU r= []:=by simpa using d3
     simp only [go_sem,d3,g2,ah];exact .mk _ (.refl _) (by repeat (first|exact .refl _|refine Sub.put ?_ (by assumption) _)) ⟨by subst e6; simp [bO,hl,d1,e3,fm,ax],rfl⟩
   have e6:=nn 35 35 rfl d6;cases d7:((c.toNat:Int)==34)
   case true=>
    have e7:=nb 34 34 rfl d7;simp only [go_sem,d2,d4,d6,d7,ah];refine (Ey (c::r) (by simp; omega) _).pthen ?_
    simp only [go_sem,g2,ah];exact .mk _ (.refl _) (by repeat (first|exact .refl _|refine Sub.put ?_ (by assumption) _)) ⟨by subst e7; simp [bO,hl,d1,fm,ax],rfl⟩
   have e7:=nn 34 34 rfl d7;simp only [go_sem,d2,d4,d6,d7];refine (A9 marks c _).pthen ?_;cases d8:Bo c
   ·simp only [go_sem,g2,ah,pL,d8]
    exact .mk _ (.refl _) (by repeat (first|exact .refl _|refine Sub.put ?_ (by assumption) _)) ⟨by simp [bO,hl,d1,e2,e4,e6,e7,d8,fm,ax],rfl⟩
   ·simp only [go_sem,pL,d8]
    refine .calls cN [0,1,2,3,4,5,6] (fun _ _ h=>by cases h) (by kernel_rfl) rfl ?_
    simp only [go_sem,g2,ah,pH,Option.isSome_none,Option.isSome_some,Int.reduceToNat,List.take_succ_cons,List.take_zero,List.length_cons];refine ⟨by omega,by omega,by omega,(fun _ _ h=>(by cases h)),(fun _ _ h=>(by cases h)), ?_⟩
    exact .mk _ (.refl _) (by repeat (first|exact .refl _|refine Sub.put ?_ (by assumption) _)) ⟨by simp [bO,hl,d1,e2,e4,e6,e7,d8,fm,ax],rfl⟩
  ·have hl:ltr c=true:=by simp only [ltr,la,lb]; rfl
   simp only [go_sem,ct,List.getElem_cons_zero,la,lb];refine (wj _ _).pthen ?_;simp only [go_sem,g2,ah];exact .mk _ (.refl _) (by repeat (first|exact .refl _|refine Sub.put ?_ (by assumption) _)) ⟨by simp [bO,hl,fm,ax],rfl⟩
theorem Gf:(U 137).sz=4:=by simp only [go_sem]
theorem Ku:(U 137).bytes=40:=by simp only [go_sem]
theorem nD (l:List pU):Sized 4 (l.map fm):=fun z hz=>by
 obtain ⟨c,_,rfl⟩:=List.mem_map.1 hz; rfl
def J6:Lexed→AV
 | .bad e a=> .tup [.sl [] .no, .v (.int .i64 e), .v (.int .i64 a)]
 | .ok l=> .tup [.sl (l.map fm) .no, .v (.int .i64 0), .v (.int .i64 0)]
def Gt (s:Txt) (h:Heap) (m:Nat) (ρ:Env) (h' :Heap):Prop:=
 ∃(i f:Nat) (y:AV) (out:List pU) (id:Nat),Acc U 137 h h' y (out.map fm)∧out.length≤i∧i≤s.length∧m=s.length - i∧s.length<f+i∧s.length≤4096∧h id=none∧(∃c0 c1 c2 c3,h' id=some (.obj [c0,c1,c2,c3] 137))∧rD f (s.drop i) i out=qE s∧lk ρ 0=some (.s s)∧lk ρ 5=some y∧lk ρ 6=some (.ptr id 0)∧lk ρ 7=some (.v (.int .i64 i))
theorem Cm (s:Txt) (h:Heap) (he:qq h):ak Tryz.prog 58 [.s s] h fun r h' =>r=J6 (qE s)∧h' =h:=by
 refine ak.of_wp hU Tryz.func58 rfl (by kernel_rfl) 52 rfl [.tmp 2, .tmp 3, .tmp 4] rfl (VZ rfl) ?_
 refine .one hU hm ?_;simp only [go_sem];refine WP.IP hU hm 0 (Gt s h) rfl ?_ ?_
 ·rintro m ρ h' ⟨i,f,y,out,id,hy,hoi,hi,rfl,hf,hs,hid,⟨c0,c1,c2,c3,hob⟩,hl,r0,r5,r6,r7⟩
  refine .vc hU hm ?_;cases d1:((i:Int)==(s.length:Int))
  case true=>
   have e1:i=s.length:=by have:(i:Int)=s.length:=(by simpa using d1); omega
   subst e1;obtain ⟨f,rfl⟩:∃g,f=g+1:=⟨f - 1,by omega⟩
   rw [List.drop_length] at hl;simp only [rD] at hl;simp only [go_sem,r0,r5,r7,d1];refine hy.app (zs:= [fm ⟨7,s.length,0,[]⟩]) (by rw [Gf]; decide) (by rw [Ku]; decide) (fun k hk=>hk) (by rw [Gf]; exact nD out) (by rw [Gf]; exact nD [⟨7,s.length,0,[]⟩]) (by rw [Ku]; simp; omega) fun y' h2 hy' hk2=> ?_
   simp only [go_sem];obtain ⟨q,rfl⟩:=hy'.row;refine .mk _ (zb _ _ _ _) hy'.1 ⟨?_,rfl⟩;rw [←hl,J6,List.map_append]; rfl
  have e1:i≠s.length:=by intro e; rw [e] at d1; simp at d1
  have hlt:i<s.length:=by omega
  obtain ⟨f,rfl⟩:∃g,f=g+1:=⟨f - 1,by omega⟩
  have hdr:s.drop i=s[i]::s.drop (i+1):=List.drop_eq_getElem_cons hlt;have w1:=V6 i (by omega)
  have hl2:=hl;rw [hdr] at hl2;simp only [rD] at hl2;rw [←hdr] at hl2;have blank:nZ s[i]=true→∃m',m' <s.length - i∧True:=fun _=>⟨s.length - (i+1),by omega,trivial⟩
  cases d2:((s[i].toNat:Int)==32)
  case true=>
   have hb:nZ s[i]=true:=by simp only [nZ,d2,Bool.true_or]
   rw [if_pos hb] at hl2;simp only [go_sem,r0,r7,d1];refine .at i hlt ?_;simp only [go_sem,r7,ct,d2,w1];refine ⟨s.length - (i+1),by omega,i+1,f,y,out,id,hy,by omega,by omega,rfl,by omega,hs,hid,⟨c0,c1,c2,c3,hob⟩,hl2, ?_, ?_, ?_, ?_⟩<;>simp only [go_sem,r0,r5,r6]
  cases d3:((s[i].toNat:Int)==10)
  case true=>
   have hb:nZ s[i]=true:=by simp only [nZ,d3,Bool.or_true]
   rw [if_pos hb] at hl2;simp only [go_sem,r0,r7,d1];refine .at i hlt ?_;simp only [go_sem,r0,r7,ct,d2];refine .at i hlt ?_;simp only [go_sem,r7,ct,d3,w1];refine ⟨s.length - (i+1),by omega,i+1,f,y,out,id,hy,by omega,by omega,rfl,by omega,hs,hid,⟨c0,c1,c2,c3,hob⟩,hl2, ?_, ?_, ?_, ?_⟩<;>simp only [go_sem,r0,r5,r6]
  have hb:¬nZ s[i]=true:=by simp only [nZ,d2,d3]; decide
  rw [if_neg hb] at hl2;have hne:s.drop i≠ []:=fun e=>by have:=congrArg List.length e; simp at this; omega
  have hle:=qt (s.drop i) hne;have hdl:(s.drop i).length=s.length - i:=by simp
  have hbo:=fun hh eh=>EK (s.drop i) hne (by omega) hh eh
  obtain ⟨t,n,etn⟩:∃t n,bO (s.drop i)=(t,n):=⟨_,_,rfl⟩;rw [etn] at hbo hl2 hle;simp only [fm] at hbo hl2 hle;simp only [go_sem,r0,r7,d1];refine .at i hlt ?_;simp only [go_sem,r0,r7,ct,d2];refine .at i hlt ?_;simp only [go_sem,r0,r7,ct,d3,kG,Option.isSome_none,Option.isSome_some,Int.toNat_natCast];refine ⟨by omega,by omega,by omega, ?_⟩
  refine (hbo _ (he.sub hy.1)).pthen ?_;cases d4:((n:Int)==0)
  case true=>
   have e4:n=0:=by have:(n:Int)=0:=(by simpa using d4); omega
   rw [if_pos e4] at hl2;simp only [go_sem,r6,r7,hob,d4];refine .mk _ (zb _ _ _ _) (hy.1.put hid _) ⟨?_,rfl⟩;rw [←hl2]; rfl
  have e4:n≠0:=by intro e; rw [e] at d4; simp at d4
  rw [if_neg e4] at hl2;have w2:IntKind.i64.wrap ((i:Int)+(n:Int))=((i+n:Nat):Int):=by rw [bx _ (by omega)]; omega
  simp only [go_sem,r5,r6,r7,hob,d4];refine (hy.put hid hob _).app (zs:= [fm {t with pos:=i}]) (by rw [Gf]; decide) (by rw [Ku]; decide) (fun k hk=>hk) (by rw [Gf]; exact nD out) (by rw [Gf]; exact nD [{t with pos:=i}]) (by rw [Ku]; simp; omega) fun y' h2 hy' hk2=> ?_
  simp only [go_sem,r7,w2];refine ⟨s.length - (i+n),by omega,i+n,f,y',out++ [{t with pos:=i}],id,by simpa using hy',by simp; omega,by omega,rfl,by omega,hs,hid,⟨_,_,_,_,hk2 _ _ _ (ah ..)⟩, ?_, ?_, ?_, ?_, ?_⟩
  ·rw [List.drop_drop] at hl2; exact hl2
  all_goals simp only [go_sem,r0,r6]
 ·intro nx
  cases d0:decide (4096<(s.length:Int))
  case true=>
   have e0:s.length>4096:=by have:=V2 d0; omega
   refine .one hU hm ?_;simp only [go_sem,d0];exact .mk (.tup [.sl [] .no, .v (.int .i64 6), .v (.int .i64 4096)]) (eY (.tup [.sl [] .full, .v (.int .i64 6), .v (.int .i64 4096)])) (.refl _) ⟨by rw [qE,if_pos e0]; rfl,rfl⟩
  have e0:¬s.length>4096:=by have:=V3 d0; omega
  refine .one hU hm ?_;simp only [go_sem,d0];refine .one hU hm ?_;simp only [go_sem];refine .one hU hm ?_;simp only [go_sem];intro id hid;simp only [go_sem];refine .one hU hm ?_;simp only [go_sem];refine .one hU hm ?_;simp only [go_sem];refine nx (s.length - 0) _ _ ⟨0,s.length+1,_,[],id, .full (.ai hid),by simp,by omega,rfl,by omega,by omega,hid,⟨_,_,_,_,ah ..⟩,by rw [qE,if_neg e0]; rfl, ?_, ?_, ?_, ?_⟩<;>simp only [go_sem]
def PO (st:PS):Blk:= .obj [.sl (st.ts.map fm) .no, .v (.int .i64 st.pos), .v (.int .i64 st.rules), .v (.int .i64 st.bad), .v (.int .i64 st.place)] 134
def PC (f:FuncId) (args:List AV) (st:PS) (R:AV) (st' :PS):Prop:=∀(h:Heap) (id:Nat),h id=some (PO st)→ak Tryz.prog f (.ptr id 0::args) h fun r h' =>r=R∧h' =upd h id (some (PO st'))
theorem PC.go {f:FuncId} {args:List AV} {st st' :PS} {R:AV} (hc:PC f args st R st') {h:Heap} {id:Nat} {Q:AV→Heap→Prop} (hid:h id=some (PO st)) (k:Q R (upd h id (some (PO st')))):ak Tryz.prog f (.ptr id 0::args) h Q:=
 (hc h id hid).mono fun r h' ⟨e1,e2⟩=>by subst e1; subst e2; exact k
theorem b7 {h:Heap} {id:Nat} {b:Option Blk} (e:h id=b):upd h id b=h:=by
 funext j
 by_cases hj:j=id
 ·subst hj; rw [ah,e]
 ·rw [ag _ _ hj]
theorem pF (st:PS) (e p:Int):PC 62 [.v (.int .i64 e), .v (.int .i64 p)] st (.tup []) (bD st e p):=fun h id hid=>by
 refine ak.body hU hm Tryz.func62 rfl (by kernel_rfl) 19 rfl [] rfl (VZ rfl) (fun hwf=> ?_)
 have g:=hid;unfold PO at g;cases d1:(st.bad==0)
 ·have e1:st.bad≠0:=by simpa using d1
  simp only [go_sem,g,d1];exact .mk _ (.refl _) (.refl _) ⟨rfl,by rw [bD,if_neg e1,b7 hid]⟩
 ·have e1:st.bad=0:=by simpa using d1
  simp only [go_sem,g,d1];exact .mk _ (.refl _) (.refl _) ⟨rfl,by rw [bD,if_pos e1]; rfl⟩
theorem kJ (st:PS) (hw:WfP st):PC 60 [] st (fm (aL st)) st:=fun h id hid=>by
 refine ak.body hU hm Tryz.func60 rfl (by kernel_rfl) 13 rfl [.cell 2 137] rfl (VZ rfl) (fun hwf=> ?_)
 have g:=hid;unfold PO at g;simp only [go_sem];intro i2 hi2;have n2:id≠i2:=fun e=>by rw [e,hi2] at hid; cases hid
 simp only [go_sem,g,aj,n2];refine ⟨.of (by kernel_rfl), ?_⟩
 refine .at st.pos (by simpa using hw.1) (by rw [V1]; rfl) ?_
 simp only [go_sem,V1,fm];refine .mk _ (.refl _) (.ai hi2) ⟨by rw [A8 hw.1]; rfl,(b7 hid).symm⟩
theorem j8 (st:PS) (hw:WfP st):PC 61 [] st (.tup []) (bg st):=fun h id hid=>by
 refine ak.body hU hm Tryz.func61 rfl (by kernel_rfl) 7 rfl [] rfl (VZ rfl) (fun hwf=> ?_)
 simp only [go_sem];refine (kJ st hw).go hid ?_;rw [b7 hid];simp only [go_sem,fm];refine (pF st 5 _).go hid ?_;simp only [go_sem];exact .mk _ (.refl _) (.refl _) ⟨rfl,rfl⟩
theorem cK (st:PS) (b:Bool) (hw:WfP st):PC 132 [.v (.bool b)] st (.tup []) (bE st b):=fun h id hid=>by
 refine ak.body hU hm Tryz.func132 rfl (by kernel_rfl) 10 rfl [] rfl (VZ rfl) (fun hwf=> ?_)
 cases b
 ·simp only [go_sem]
  exact .mk _ (.refl _) (.refl _) ⟨rfl,(b7 hid).symm⟩
 simp only [go_sem];refine (kJ st hw).go hid ?_;rw [b7 hid];simp only [go_sem,fm];refine (pF st 6 _).go hid ?_;simp only [go_sem];exact .mk _ (.refl _) (.refl _) ⟨rfl,rfl⟩
theorem rA (st:PS) (s:Txt) (hw:WfP st):PC 133 [.s s] st (.v (.bool (isD st s))) st:=fun h id hid=>by
 refine ak.body hU hm Tryz.func133 rfl (by kernel_rfl) 29 rfl [.tmp 4] rfl (VZ rfl) (fun hwf=> ?_)
 have g:=hid;unfold PO at g;simp only [go_sem];refine (kJ st hw).go hid ?_;rw [b7 hid];simp only [go_sem,fm];intro i2 hi2;have n2:id≠i2:=fun e=>by rw [e,hi2] at hid; cases hid
 cases d1:(st.bad==0)<;>cases d2:((aL st).s==s)<;>cases d3:((aL st).kind==1)<;>cases d4:((aL st).kind==6)
 all_goals
  simp only [go_sem,g,aj,n2,d1,d2,d3,d4];exact .mk _ (.refl _) (.ai hi2) ⟨by simp only [isD,d1,d2,d3,d4]; rfl,rfl⟩
theorem js (st:PS) (s:Txt) (hw:WfP st):PC 130 [.s s] st (.v (.bool (cp st s).1)) (cp st s).2:=fun h id hid=>by
 refine ak.body hU hm Tryz.func130 rfl (by kernel_rfl) 18 rfl [.tmp 4] rfl (VZ rfl) (fun hwf=> ?_)
 have g:=hid;unfold PO at g;simp only [go_sem];refine (rA st s hw).go hid ?_;rw [b7 hid];cases d1:isD st s
 ·have e:cp st s=(false,st):=by simp [cp,d1]
  simp only [go_sem];exact .mk _ (.refl _) (.refl _) ⟨by rw [e]; rfl,by rw [e,b7 hid]⟩
 ·have e:cp st s=(true,aY st):=by simp [cp,d1]
  have w1:IntKind.i64.wrap ((st.pos:Int)+1)=((st.pos+1:Nat):Int):=by have:=hw.1; have:=hw.2.2; rw [bx _ (by omega)]; omega
  simp only [go_sem,g,w1];exact .mk _ (.refl _) (.refl _) ⟨by rw [e]; rfl,by rw [e]; rfl⟩
theorem jP (st:PS) (s:Txt) (hw:WfP st):PC 99 [.s s] st (.tup []) (dM st s):=fun h id hid=>by
 refine ak.body hU hm Tryz.func99 rfl (by kernel_rfl) 10 rfl [] rfl (VZ rfl) (fun hwf=> ?_)
 simp only [go_sem];refine (js st s hw).go hid ?_;cases d1:isD st s
 ·have e:cp st s=(false,st):=by simp [cp,d1]
  rw [e,b7 hid];simp only [go_sem];refine (j8 st hw).go hid ?_;simp only [go_sem];exact .mk _ (.refl _) (.refl _) ⟨rfl,by simp [dM,d1]⟩
 ·have e:cp st s=(true,aY st):=by simp [cp,d1]
  rw [e];simp only [go_sem];exact .mk _ (.refl _) (.refl _) ⟨rfl,by simp [dM,d1]⟩
theorem rQ (st:PS) (hw:WfP st):PC 97 [] st (.s (cm st).1) (cm st).2:=fun h id hid=>by
 refine ak.body hU hm Tryz.func97 rfl (by kernel_rfl) 25 rfl [.tmp 2] rfl (VZ rfl) (fun hwf=> ?_)
 have g:=hid;unfold PO at g;have w1:IntKind.i64.wrap ((st.pos:Int)+1)=((st.pos+1:Nat):Int):=by have:=hw.1; have:=hw.2.2; rw [bx _ (by omega)]; omega
 simp only [go_sem];refine (kJ st hw).go hid ?_;rw [b7 hid];simp only [go_sem,fm];intro i2 hi2;have n2:id≠i2:=fun e=>by rw [e,hi2] at hid; cases hid
 cases d1:((aL st).kind !=1)
 case true=>
  have e1:(aL st).kind≠1:=by simpa using d1
  have en:cm st=([],bg st):=by simp [cm,e1]
  simp only [go_sem,d1];have hid2:upd h i2 (some (.obj [.v (.int .i64 (aL st).kind), .v (.int .i64 (aL st).pos), .v (.int .i64 (aL st).n), .s (aL st).s] 137)) id=some (PO st):=by rw [ag _ _ n2]; exact hid
  refine (j8 st hw).go hid2 ?_;have hb:(bg st).bad≠0:=by
   unfold bg bD; split
   ·show (5:Int)≠0; decide
   ·assumption
  have d2:((bg st).bad !=0)=true:=by simpa using hb
  simp only [go_sem,PO,d2];exact .mk _ (.refl _) (Sub.both (.ai hi2) _ _) ⟨by rw [en]; rfl,by rw [en]; try rfl⟩
 have e1:(aL st).kind=1:=by simpa using d1
 cases d2:(st.bad !=0)
 case true=>
  have e2:st.bad≠0:=by simpa using d2
  have en:cm st=([],st):=by simp [cm,e1,e2]
  simp only [go_sem,g,aj,n2,d1,d2];exact .mk _ (.refl _) (.ai hi2) ⟨by rw [en]; rfl,by rw [en]; exact (b7 hid).symm⟩
 have e2:st.bad=0:=by simpa using d2
 have en:cm st=((aL st).s,aY st):=by simp [cm,e1,e2]
 simp only [go_sem,g,aj,n2,n2.symm,d1,d2,w1];exact .mk _ (.refl _) (Sub.both (.ai hi2) _ _) ⟨by rw [en]; rfl,by rw [en]; try rfl⟩
theorem PC.run {f:FuncId} {args:List AV} {st st' :PS} {R:AV} (hc:PC f args st R st') {G:Heap} {id:Nat} {Q:AV→Heap→Prop} (k:Q R (upd G id (some (PO st')))):ak Tryz.prog f (.ptr id 0::args) (upd G id (some (PO st))) Q:=
 hc.go (ah ..) (by rw [nE]; exact k)
theorem PC.of {f:FuncId} {args:List AV} {st st' :PS} {R:AV} (hk:∀(G:Heap) (id:Nat),ak Tryz.prog f (.ptr id 0::args) (upd G id (some (PO st))) fun r h' =>r=R∧h' =upd G id (some (PO st'))):PC f args st R st' :=fun h id hid=>by
 have:=hk h id;rw [b7 hid] at this;exact this
theorem cq {α:Type} (f:Nat→α) {i j:Nat} (x y:α) (h:i≠j):upd (upd f i x) j y=upd (upd f j y) i x:=by
 funext k
 by_cases hi:k=i
 ·subst hi; rw [ag _ _ h,ah,ah]
 ·by_cases hj:k=j
  ·subst hj; rw [ah,ag _ _ hi,ah]
  ·rw [ag _ _ hj,ag _ _ hi,ag _ _ hi,ag _ _ hj]
theorem zL {s:Txt}:∀ {ws:List Txt} {i:Nat},sH s ws=some i→i<ws.length
 |w::r,i,h=>by
  simp only [sH] at h;split at h
  ·cases h; simp
  ·cases hr:sH s r with
   |none=>rw [hr] at h; cases h
   |some j=>rw [hr] at h; cases h; have:=zL hr; simp; omega
theorem D5 {s:Txt}:∀ {ws:List Txt} (i:Nat) (hi:i<ws.length),(∀j (hj:j<ws.length),j<i→ws[j]≠s)→ws[i]=s→sH s ws=some i
 |w::r,0,_,_,h=>by simp only [List.getElem_cons_zero] at h; simp [sH,h]
 |w::r,i+1,hi,hb,h=>by
  have h0:=hb 0 (by simp) (by omega)
  simp only [List.getElem_cons_zero] at h0;simp only [sH,if_neg h0];rw [D5 i (by simpa using hi) (fun j hj hlt=>by have:=hb (j+1) (by simpa using hj) (by omega); simpa using this) (by simpa using h)]
  rfl
theorem yq {s:Txt}:∀ {ws:List Txt},(∀j (hj:j<ws.length),ws[j]≠s)→sH s ws=none
 | [],_=>rfl
 |w::r,hb=>by
  have h0:=hb 0 (by simp)
  simp only [List.getElem_cons_zero] at h0;simp only [sH,if_neg h0];rw [yq (fun j hj=>by have:=hb (j+1) (by simpa using hj); simpa using this)]
  rfl
def Mj (o:Option Nat):Int:=match o with
 |some i=>i
 |none=> -1
theorem Fw (ws:List Txt) (q:Perm) (s:Txt) (hl:ws.length≤1000) (h:Heap):ak Tryz.prog 129 [.sl (ws.map AV.s) q, .s s] h fun r h' =>r= .v (.int .i64 (Mj (sH s ws)))∧h' =h:=by
 refine ak.body hU hm Tryz.func129 rfl (by kernel_rfl) 19 rfl [.tmp 4] rfl (VZ rfl) (fun hwf=> ?_)
 simp only [go_sem,V0];refine .intro (fun m ρ h' =>h' =h∧∃i:Nat,i≤ws.length∧m=ws.length - i∧(∀j (hj:j<ws.length),j<i→ws[j]≠s)∧lk ρ 0=some (.sl (ws.map AV.s) q)∧lk ρ 1=some (.s s)∧lk ρ 7=some (.v (.int .i64 ws.length))∧lk ρ 8=some (.v (.int .i64 i))) ws.length ?_ ?_
 ·refine ⟨rfl,0,by omega,rfl,fun j _ hj=>(by omega), ?_, ?_, ?_, ?_⟩<;>simp only [go_sem]
 ·rintro m ρ h' ⟨rfl,i,hi,rfl,hc,r0,r1,r7,r8⟩
  simp only [go_sem,r7,r8];refine .intro (fun e=> ?_) (fun e=> ?_)
  ·have hlt:i<ws.length:=V7 e
   have w1:=V6 i (by omega)
   simp only [go_sem,r0,r1,r8];refine .at i (by simpa using hlt) (by rw [V1]; rfl) ?_
   cases d1:(s==ws[i])
   ·have e1:ws[i]≠s:=by intro e; rw [e] at d1; simp at d1
    simp only [go_sem,r8,V1,d1,w1];refine ⟨_, ?_,rfl,i+1,by omega,rfl,fun j hj hji=> ?_, ?_, ?_, ?_, ?_⟩
    ·omega
    ·by_cases e:j=i
     ·subst e; exact e1
     ·exact hc j hj (by omega)
    all_goals simp only [go_sem,r0,r1,r7]
   ·have e1:ws[i]=s:=by have:s=ws[i]:=(by simpa using d1); exact this.symm
    simp only [go_sem,V1,d1];exact .same (.refl _) ⟨by rw [D5 i hlt hc e1]; rfl,rfl⟩
  ·have hge:i=ws.length:=by have:=V3 e; omega
   subst hge;simp only [go_sem];exact .same (.refl _) ⟨by rw [yq fun j hj=>hc j hj hj]; rfl,rfl⟩
theorem mz (st:PS) (ws:List Txt) (q:Perm) (hl:ws.length≤1000) (hw:WfP st):PC 96 [.sl (ws.map AV.s) q] st (.v (.int .i64 (aX st ws).1)) (aX st ws).2:= .of fun G id=>by
 refine ak.body hU hm Tryz.func96 rfl (by kernel_rfl) 28 rfl [.tmp 4] rfl (VZ rfl) (fun hwf=> ?_)
 simp only [go_sem];refine (kJ st hw).run ?_;simp only [go_sem,fm];intro i2 hi2;have n2:=aH hi2;have hG2:G i2=none:=by rw [ag _ _ n2] at hi2; exact hi2
 have c2:∀(f:Heap) (x y:Option Blk),upd (upd f id x) i2 y=upd (upd f i2 y) id x:=fun f x y=>cq f x y n2.symm
 cases d1:((aL st).kind==1)
 ·have e1:(aL st).kind≠1:=by simpa using d1
  have en:aX st ws=(0,bg st):=by unfold aX; split<;>simp [e1]
  simp only [go_sem,c2,aj,n2,d1];refine (j8 st hw).run ?_;simp only [go_sem];exact .mk _ (.refl _) (Sub.both (.ai hG2) _ _) ⟨by rw [en]; rfl,by rw [en]⟩
 have e1:(aL st).kind=1:=by simpa using d1
 simp only [go_sem,c2,aj,n2,d1];refine (Fw ws q _ hl _).pthen ?_;cases ei:sH (aL st).s ws with
 |none=>
  have en:aX st ws=(0,bg st):=by simp [aX,ei]
  have dm:decide ((0:Int)≤ -1)=false:=by decide
  simp only [go_sem,Mj,dm];refine (j8 st hw).run ?_;simp only [go_sem];exact .mk _ (.refl _) (Sub.both (.ai hG2) _ _) ⟨by rw [en]; rfl,by rw [en]⟩
 |some i=>
  have hil:=zL ei;have d2:decide (0≤(i:Int))=true:=by simp
  have w1:IntKind.i64.wrap ((i:Int)+1)=((i:Int)+1):=by rw [bx _ (by omega)]
  simp only [go_sem,Mj,d2,aj,n2];refine (js st _ hw).run ?_;cases d3:(st.bad==0)
  ·have e3:st.bad≠0:=by simpa using d3
   have et:cp st (aL st).s=(false,st):=by simp [cp,isD,d3]
   have en:aX st ws=(0,bg st):=by simp [aX,ei,e3]
   rw [et];simp only [go_sem];refine (j8 st hw).run ?_;simp only [go_sem];exact .mk _ (.refl _) (Sub.both (.ai hG2) _ _) ⟨by rw [en]; rfl,by rw [en]⟩
  ·have e3:st.bad=0:=by simpa using d3
   have et:cp st (aL st).s=(true,aY st):=by simp [cp,isD,e3,e1]
   have en:aX st ws=((i:Int)+1,aY st):=by simp [aX,ei,e3,e1]
   rw [et];simp only [go_sem,w1];exact .mk _ (.refl _) (Sub.both (.ai hG2) _ _) ⟨by rw [en]; rfl,by rw [en]⟩
theorem GM (st:PS) (hw:WfP st):PC 207 [] st (Aq (fD st).1) (fD st).2:= .of fun G id=>by
 have h1:=fY tE hw;have h2:=iF [46] h1.1;have h3:=lM h2.1;refine ak.body hU hm Tryz.func207 rfl (by kernel_rfl) 17 rfl [.cell 2 214] rfl (VZ rfl) (fun hwf=> ?_)
 simp only [go_sem];intro i2 hi2;have n2:=aH hi2;have hG2:G i2=none:=by rw [ag _ _ n2] at hi2; exact hi2
 have c2:∀(f:Heap) (x y:Option Blk),upd (upd f id x) i2 y=upd (upd f i2 y) id x:=fun f x y=>cq f x y n2.symm
 simp only [go_sem,c2];intro i3 hi3;have n3:=aH hi3;have hi3' :=hi3;rw [ag _ _ n3] at hi3';have n32:=aH hi3';have hG3:G i3=none:=by rw [ag _ _ n32] at hi3'; exact hi3'
 have c3:∀(f:Heap) (x y:Option Blk),upd (upd f id x) i3 y=upd (upd f i3 y) id x:=fun f x y=>cq f x y n3.symm
 have c23:∀(f:Heap) (x y:Option Blk),upd (upd f i3 x) i2 y=upd (upd f i2 y) i3 x:=fun f x y=>cq f x y n32
 have m32:¬i3=i2:=n32;have m23:¬i2=i3:=n32.symm;simp only [go_sem,c3];refine (mz st tE .full (by decide) hw).run ?_
 simp only [go_sem,c3,aj,n3];refine (jP _ [46] h1.1).run ?_;simp only [go_sem];refine (rQ _ h2.1).run ?_;simp only [go_sem,c3,aj,n3];refine (js _ [33] h3.1).run ?_;simp only [go_sem,c2,c3,c23,aj,n2,n3,m23];exact .mk _ (.refl _) (Sub.both (by repeat (first|exact .refl _|refine Sub.put ?_ (by assumption) _)) _ _) ⟨rfl,rfl⟩
set_option maxRecDepth 20000 in
theorem si (st:PS) (hw:WfP st):PC 208 [] st (aU (aC st).1) (aC st).2:= .of fun G id=>by
 refine ak.body hU hm Tryz.func208 rfl (by kernel_rfl) 56 rfl [.cell 2 24] rfl (VZ rfl) (fun hwf=> ?_)
 have w1:IntKind.i64.wrap ((st.pos:Int)+1)=((st.pos+1:Nat):Int):=by have:=hw.1; have:=hw.2.2; rw [bx _ (by omega)]; omega
 simp only [go_sem];intro i2 hi2;have n2:=aH hi2;have hG2:G i2=none:=by rw [ag _ _ n2] at hi2; exact hi2
 have c2:∀(f:Heap) (x y:Option Blk),upd (upd f id x) i2 y=upd (upd f i2 y) id x:=fun f x y=>cq f x y n2.symm
 simp only [go_sem,c2];refine (kJ st hw).run ?_;simp only [go_sem,fm];intro i3 hi3;have n3:=aH hi3;have hi3' :=hi3;rw [ag _ _ n3] at hi3';have n32:=aH hi3';have hG3:G i3=none:=by rw [ag _ _ n32] at hi3'; exact hi3'
 have c3:∀(f:Heap) (x y:Option Blk),upd (upd f id x) i3 y=upd (upd f i3 y) id x:=fun f x y=>cq f x y n3.symm
 have c23:∀(f:Heap) (x y:Option Blk),upd (upd f i3 x) i2 y=upd (upd f i2 y) i3 x:=fun f x y=>cq f x y n32
 have m32:¬i3=i2:=n32;have m23:¬i2=i3:=n32.symm;simp only [go_sem,c3,aj,n3];intro i4 hi4;have n4:=aH hi4;have hi4' :=hi4;rw [ag _ _ n4] at hi4';have n43:=aH hi4';have hi4'' :=hi4';rw [ag _ _ n43] at hi4'';have n42:=aH hi4'';have hG4:G i4=none:=by rw [ag _ _ n42] at hi4''; exact hi4''
 have c4:∀(f:Heap) (x y:Option Blk),upd (upd f id x) i4 y=upd (upd f i4 y) id x:=fun f x y=>cq f x y n4.symm
 have c24:∀(f:Heap) (x y:Option Blk),upd (upd f i4 x) i2 y=upd (upd f i2 y) i4 x:=fun f x y=>cq f x y n42
 have c34:∀(f:Heap) (x y:Option Blk),upd (upd f i4 x) i3 y=upd (upd f i3 y) i4 x:=fun f x y=>cq f x y n43
 have m42:¬i4=i2:=n42;have m24:¬i2=i4:=n42.symm;have m43:¬i4=i3:=n43;have m34:¬i3=i4:=n43.symm;cases k2:((aL st).kind==2)
 case true=>
  have e2:(aL st).kind=2:=by simpa using k2
  have ev:fC st=(⟨2,(aL st).n,(aL st).s⟩,st):=by simp [fC,e2]
  cases kb:(st.bad !=0)
  ·have eb:st.bad=0:=by simpa using kb
   have en:aC st=(⟨2,(aL st).n,(aL st).s⟩,aY st):=by simp [aC,ev,eb]
   simp only [go_sem,c2,c4,c23,c24,aj,n2,n3,n4,m23,m24,m34,k2,PO,kb,w1];exact .mk (h' :=upd G id (some (PO (aC st).2))) _ (.refl _) (by rw [en]; exact Sub.both (by repeat (first|exact .refl _|refine Sub.put ?_ (by assumption) _)) _ _) ⟨by rw [en]; rfl,rfl⟩
  ·have eb:st.bad≠0:=by simpa using kb
   have en:aC st=(⟨0,0,[]⟩,st):=by simp [aC,ev,eb]
   simp only [go_sem,c2,c4,c23,c24,aj,n2,n3,n4,m23,m24,m34,k2,PO,kb];exact .mk (h' :=upd G id (some (PO (aC st).2))) _ (.refl _) (by rw [en]; exact Sub.both (by repeat (first|exact .refl _|refine Sub.put ?_ (by assumption) _)) _ _) ⟨by rw [en]; rfl,rfl⟩
 have e2:(aL st).kind≠2:=by simpa using k2
 cases k3:((aL st).kind==3)
 case true=>
  have e3:(aL st).kind=3:=by simpa using k3
  have ev:fC st=(⟨4,(aL st).n,(aL st).s⟩,st):=by simp [fC,e3]
  cases kb:(st.bad !=0)
  ·have eb:st.bad=0:=by simpa using kb
   have en:aC st=(⟨4,(aL st).n,(aL st).s⟩,aY st):=by simp [aC,ev,eb]
   simp only [go_sem,c2,c4,c23,c24,aj,n2,n3,n4,m23,m24,m34,k2,k3,PO,kb,w1];exact .mk (h' :=upd G id (some (PO (aC st).2))) _ (.refl _) (by rw [en]; exact Sub.both (by repeat (first|exact .refl _|refine Sub.put ?_ (by assumption) _)) _ _) ⟨by rw [en]; rfl,rfl⟩
  ·have eb:st.bad≠0:=by simpa using kb
   have en:aC st=(⟨0,0,[]⟩,st):=by simp [aC,ev,eb]
   simp only [go_sem,c2,c4,c23,c24,aj,n2,n3,n4,m23,m24,m34,k2,k3,PO,kb];exact .mk (h' :=upd G id (some (PO (aC st).2))) _ (.refl _) (by rw [en]; exact Sub.both (by repeat (first|exact .refl _|refine Sub.put ?_ (by assumption) _)) _ _) ⟨by rw [en]; rfl,rfl⟩
 have e3:(aL st).kind≠3:=by simpa using k3
 cases k4:((aL st).kind==4)
 case true=>
  have e4:(aL st).kind=4:=by simpa using k4
  have ev:fC st=(⟨5,(aL st).n,(aL st).s⟩,st):=by simp [fC,e4]
  cases kb:(st.bad !=0)
  ·have eb:st.bad=0:=by simpa using kb
   have en:aC st=(⟨5,(aL st).n,(aL st).s⟩,aY st):=by simp [aC,ev,eb]
   simp only [go_sem,c2,c4,c23,c24,aj,n2,n3,n4,m23,m24,m34,k2,k3,k4,PO,kb,w1];exact .mk (h' :=upd G id (some (PO (aC st).2))) _ (.refl _) (by rw [en]; exact Sub.both (by repeat (first|exact .refl _|refine Sub.put ?_ (by assumption) _)) _ _) ⟨by rw [en]; rfl,rfl⟩
  ·have eb:st.bad≠0:=by simpa using kb
   have en:aC st=(⟨0,0,[]⟩,st):=by simp [aC,ev,eb]
   simp only [go_sem,c2,c4,c23,c24,aj,n2,n3,n4,m23,m24,m34,k2,k3,k4,PO,kb];exact .mk (h' :=upd G id (some (PO (aC st).2))) _ (.refl _) (by rw [en]; exact Sub.both (by repeat (first|exact .refl _|refine Sub.put ?_ (by assumption) _)) _ _) ⟨by rw [en]; rfl,rfl⟩
 have e4:(aL st).kind≠4:=by simpa using k4
 cases k5:((aL st).kind==5)
 case true=>
  have e5:(aL st).kind=5:=by simpa using k5
  have ev:fC st=(⟨3,(aL st).n,(aL st).s⟩,st):=by simp [fC,e5]
  cases kb:(st.bad !=0)
  ·have eb:st.bad=0:=by simpa using kb
   have en:aC st=(⟨3,(aL st).n,(aL st).s⟩,aY st):=by simp [aC,ev,eb]
   simp only [go_sem,c2,c4,c23,c24,aj,n2,n3,n4,m23,m24,m34,k2,k3,k4,k5,PO,kb,w1];exact .mk (h' :=upd G id (some (PO (aC st).2))) _ (.refl _) (by rw [en]; exact Sub.both (by repeat (first|exact .refl _|refine Sub.put ?_ (by assumption) _)) _ _) ⟨by rw [en]; rfl,rfl⟩
  ·have eb:st.bad≠0:=by simpa using kb
   have en:aC st=(⟨0,0,[]⟩,st):=by simp [aC,ev,eb]
   simp only [go_sem,c2,c4,c23,c24,aj,n2,n3,n4,m23,m24,m34,k2,k3,k4,k5,PO,kb];exact .mk (h' :=upd G id (some (PO (aC st).2))) _ (.refl _) (by rw [en]; exact Sub.both (by repeat (first|exact .refl _|refine Sub.put ?_ (by assumption) _)) _ _) ⟨by rw [en]; rfl,rfl⟩
 have e5:(aL st).kind≠5:=by simpa using k5
 simp only [go_sem,c4,aj,n3,n4,m34,k2,k3,k4,k5];refine (rA st ur hw).run ?_;cases kt:isD st ur
 case true=>
  have ev:fC st=(⟨1,1,[]⟩,st):=by simp [fC,e2,e3,e4,e5,kt]
  cases kb:(st.bad !=0)
  ·have eb:st.bad=0:=by simpa using kb
   have en:aC st=(⟨1,1,[]⟩,aY st):=by simp [aC,ev,eb]
   simp only [go_sem,c2,c4,c23,c24,aj,n2,n4,m23,m24,PO,kb,w1];exact .mk (h' :=upd G id (some (PO (aC st).2))) _ (.refl _) (by rw [en]; exact Sub.both (by repeat (first|exact .refl _|refine Sub.put ?_ (by assumption) _)) _ _) ⟨by rw [en]; rfl,rfl⟩
  ·have eb:st.bad≠0:=by simpa using kb
   have en:aC st=(⟨0,0,[]⟩,st):=by simp [aC,ev,eb]
   simp only [go_sem,c2,c4,c23,c24,aj,n2,n4,m23,m24,PO,kb];exact .mk (h' :=upd G id (some (PO (aC st).2))) _ (.refl _) (by rw [en]; exact Sub.both (by repeat (first|exact .refl _|refine Sub.put ?_ (by assumption) _)) _ _) ⟨by rw [en]; rfl,rfl⟩
 simp only [go_sem];refine (rA st ou hw).run ?_;cases kf:isD st ou
 case true=>
  have ev:fC st=(⟨1,0,[]⟩,st):=by simp [fC,e2,e3,e4,e5,kt,kf]
  cases kb:(st.bad !=0)
  ·have eb:st.bad=0:=by simpa using kb
   have en:aC st=(⟨1,0,[]⟩,aY st):=by simp [aC,ev,eb]
   simp only [go_sem,c2,c4,c23,c24,aj,n2,n4,m23,m24,PO,kb,w1];exact .mk (h' :=upd G id (some (PO (aC st).2))) _ (.refl _) (by rw [en]; exact Sub.both (by repeat (first|exact .refl _|refine Sub.put ?_ (by assumption) _)) _ _) ⟨by rw [en]; rfl,rfl⟩
  ·have eb:st.bad≠0:=by simpa using kb
   have en:aC st=(⟨0,0,[]⟩,st):=by simp [aC,ev,eb]
   simp only [go_sem,c2,c4,c23,c24,aj,n2,n4,m23,m24,PO,kb];exact .mk (h' :=upd G id (some (PO (aC st).2))) _ (.refl _) (by rw [en]; exact Sub.both (by repeat (first|exact .refl _|refine Sub.put ?_ (by assumption) _)) _ _) ⟨by rw [en]; rfl,rfl⟩
 have ev:fC st=(⟨0,(aL st).n,(aL st).s⟩,bg st):=by simp [fC,e2,e3,e4,e5,kt,kf]
 have en:aC st=(⟨0,0,[]⟩,bg st):=by simp [aC,ev,pR]
 have kb:((bg st).bad !=0)=true:=by simpa using pR st
 simp only [go_sem];refine (j8 st hw).run ?_;simp only [go_sem,c2,c23,c24,aj,n2,m23,m24,PO,kb];exact .mk (h' :=upd G id (some (PO (aC st).2))) _ (.refl _) (by rw [en]; exact Sub.both (by repeat (first|exact .refl _|refine Sub.put ?_ (by assumption) _)) _ _) ⟨by rw [en]; rfl,rfl⟩
def rJ:List Txt:= [[61],[60],[62]]
theorem MF {st:PS} (i:Nat) (hi:i<rJ.length) (hb:∀j (hj:j<rJ.length),j<i→isD st rJ[j]=false) (h:isD st rJ[i]=true):opP st=((i:Int)+1,aY st):=by
 have h3:i<3:=hi;rcases (by omega:i=0∨i=1∨i=2) with rfl|rfl|rfl
 ·simp only [opP,show isD st [61]=true from h,if_true]; rfl
 ·simp only [opP,show isD st [61]=false from hb 0 (by decide) (by decide),show isD st [60]=true from h,if_true]; rfl
 ·simp only [opP,show isD st [61]=false from hb 0 (by decide) (by decide),show isD st [60]=false from hb 1 (by decide) (by decide),show isD st [62]=true from h,if_true]; rfl
theorem Ig {st:PS} (hb:∀j (hj:j<rJ.length),isD st rJ[j]=false):opP st=(0,bg st):=by
 simp only [opP,show isD st [61]=false from hb 0 (by decide),show isD st [60]=false from hb 1 (by decide),show isD st [62]=false from hb 2 (by decide)]; rfl
set_option maxRecDepth 20000 in
theorem Eb (st:PS) (hw:WfP st):PC 188 [] st (dD (fV st).1) (fV st).2:= .of fun G id=>by
 have h1:=zo hw;obtain ⟨a,st1,e1⟩:∃a st1,fD st=(a,st1):=⟨_,_,rfl⟩;have hat:=GM st hw;rw [e1] at h1 hat;simp only at h1 hat;refine ak.body hU hm Tryz.func188 rfl (by kernel_rfl) 32 rfl [.cell 2 216] rfl (VZ rfl) (fun hwf=> ?_)
 simp only [go_sem];intro i2 hi2;have n2:=aH hi2;have hG2:G i2=none:=by rw [ag _ _ n2] at hi2; exact hi2
 have c2:∀(f:Heap) (x y:Option Blk),upd (upd f id x) i2 y=upd (upd f i2 y) id x:=fun f x y=>cq f x y n2.symm
 simp only [go_sem,c2];refine hat.run ?_;simp only [go_sem,Aq];intro i3 hi3;have n3:=aH hi3;have hi3' :=hi3;rw [ag _ _ n3] at hi3';have n32:=aH hi3';have hG3:G i3=none:=by rw [ag _ _ n32] at hi3'; exact hi3'
 have c3:∀(f:Heap) (x y:Option Blk),upd (upd f id x) i3 y=upd (upd f i3 y) id x:=fun f x y=>cq f x y n3.symm
 have c23:∀(f:Heap) (x y:Option Blk),upd (upd f i3 x) i2 y=upd (upd f i2 y) i3 x:=fun f x y=>cq f x y n32
 have m32:¬i3=i2:=n32;have m23:¬i2=i3:=n32.symm;simp only [go_sem,c3,aj,n3];refine .intro (fun m ρ H=>H=upd (upd (upd G i2 (some (.obj [.v (.int .i64 0), .s [], .v (.bool false), .v (.int .i64 0), .v (.int .i64 0), .v (.int .i64 0), .s []] 216))) i3 (some (.obj [.v (.int .i64 a.cat), .s a.name, .v (.bool a.must), .v (.int .i64 0), .v (.int .i64 0), .v (.int .i64 0), .s []] 216))) id (some (PO st1))∧
  ∃i:Nat,i≤3∧m=3 - i∧(∀j (hj:j<rJ.length),j<i→isD st1 rJ[j]=false)∧lk ρ 0=some (.ptr id 0)∧lk ρ 2=some (.ptr i2 0)∧lk ρ 3=some (.ptr i3 0)∧lk ρ 9=some (.sl (rJ.map AV.s) .full)∧lk ρ 10=some (.v (.int .i64 3))∧lk ρ 11=some (.v (.int .i64 i))) 3 ?_ ?_
 ·refine ⟨rfl,0,by omega,rfl,fun j _ hj=>(by omega), ?_, ?_, ?_, ?_, ?_, ?_⟩<;>simp only [go_sem]<;>rfl
 ·rintro m ρ H ⟨rfl,i,hi,rfl,hb,r0,r2,r3,r9,r10,r11⟩
  simp only [go_sem,r10,r11];refine .intro (fun e=> ?_) (fun e=> ?_)
  ·have hlt:i<3:=by have:=V2 e; omega
   have hlo:i<rJ.length:=hlt;have w1:=V6 i (by omega)
   have w2:IntKind.i64.wrap (1+(i:Int))=((i:Int)+1):=by rw [bx _ (by omega)]; omega
   simp only [go_sem,r9,r11];refine .at i (by simpa using hlo) (by rw [V1]; rfl) ?_
   simp only [go_sem,r0,V1];refine (js st1 rJ[i] h1.1).run ?_;cases d1:isD st1 rJ[i]
   ·have et:cp st1 rJ[i]=(false,st1):=by simp [cp,d1]
    rw [et];simp only [go_sem,r11,w1];refine ⟨_, ?_,rfl,i+1,by omega,rfl,fun j hj hji=> ?_, ?_, ?_, ?_, ?_, ?_, ?_⟩
    ·omega
    ·by_cases e:j=i
     ·subst e; exact d1
     ·exact hb j hj (by omega)
    all_goals simp only [go_sem,r0,r2,r3,r9,r10]
   ·have et:cp st1 rJ[i]=(true,aY st1):=by simp [cp,d1]
    have eo:=MF i hlo hb d1;have h2:Ah st1 (aY st1):=dN h1.1 (cE d1);have en:fV st=(⟨a,(i:Int)+1,(aC (aY st1)).1⟩,(aC (aY st1)).2):=by simp [fV,e1,eo]
    have d2:(((i:Int)+1)==0)=false:=by simp; omega
    rw [et];simp only [go_sem,c3,aj,n3,r0,r3,w2,d2];refine (si (aY st1) h2.1).run ?_;simp only [go_sem,c2,c3,c23,aj,n2,n3,m23,aU,r2,r3];exact .mk (h' :=upd G id (some (PO (fV st).2))) _ (.refl _) (by rw [en]; exact Sub.both (by repeat (first|exact .refl _|refine Sub.put ?_ (by assumption) _)) _ _) ⟨by rw [en]; rfl,rfl⟩
  ·have hge:i=3:=by have:=V3 e; omega
   subst hge;have eo:=Ig fun j hj=>hb j hj hj
   have h2:Ah st1 (bg st1):=kY h1.1;have en:fV st=(⟨a,0,(aC (bg st1)).1⟩,(aC (bg st1)).2):=by simp [fV,e1,eo]
   simp only [go_sem,r0,r3,aj,n3];refine (j8 st1 h1.1).run ?_;simp only [go_sem,r0];refine (si (bg st1) h2.1).run ?_;simp only [go_sem,c2,c3,c23,aj,n2,n3,m23,aU,r2,r3];exact .mk (h' :=upd G id (some (PO (fV st).2))) _ (.refl _) (by rw [en]; exact Sub.both (by repeat (first|exact .refl _|refine Sub.put ?_ (by assumption) _)) _ _) ⟨by rw [en]; rfl,rfl⟩
theorem M4:(U 216).sz=7:=by simp only [go_sem]
theorem PT:(U 216).bytes=72:=by simp only [go_sem]
theorem Eu (l:List bN):Sized 7 (l.map dD):=fun z hz=>by
 obtain ⟨c,_,rfl⟩:=List.mem_map.1 hz; rfl
theorem M3:(U 191).sz=1:=by simp only [go_sem]
theorem PR:(U 191).bytes=24:=by simp only [go_sem]
theorem Et (l:List (List bN)):Sized 1 (l.map gR):=fun z hz=>by
 obtain ⟨c,_,rfl⟩:=List.mem_map.1 hz; rfl
theorem M7:(U 190).sz=1:=by simp only [go_sem]
theorem PV:(U 190).bytes=24:=by simp only [go_sem]
theorem Ew (l:List (List (List bN))):Sized 1 (l.map cH):=fun z hz=>by
 obtain ⟨c,_,rfl⟩:=List.mem_map.1 hz; rfl
theorem KK (st:PS) (hw:WfP st):PC 165 [] st (gR (nQ st).1) (nQ st).2:= .of fun G id=>by
 have h1:=nW hw;have hm1:=Eb st hw;obtain ⟨x0,st1,e1⟩:∃x0 st1,fV st=(x0,st1):=⟨_,_,rfl⟩;have ep:fy fV [44] 8 st.ts.length st1 [x0]=nQ st:=by simp only [nQ,e1]
 rw [e1] at h1 hm1;simp only [dD] at h1 hm1;refine ak.body hU hm Tryz.func165 rfl (by kernel_rfl) 20 rfl [.tmp 2] rfl (VZ rfl) (fun hwf=> ?_)
 simp only [go_sem];refine hm1.run ?_;simp only [go_sem];have hB:upd G id none id=none:=ah ..;refine .intro (fun m ρ H=>∃(f:Nat) (st' :PS) (l:List _) (y:AV),H id=some (PO st')∧Acc U 216 (upd G id none) H y (l.map dD)∧Ah st1 st'∧fy fV [44] 8 f st' l=nQ st∧st1.ts.length≤f+st'.pos∧l.length≤st'.pos+1∧m=st1.ts.length - st'.pos∧lk ρ 0=some (.ptr id 0)∧lk ρ 3=some y) (st1.ts.length - st1.pos) ?_ ?_
 ·refine ⟨st.ts.length,st1,[x0], .sl ([x0].map dD) .full,ah .., .full (base_start G id _), .refl h1.1,ep,by rw [h1.2.1]; omega,by simp,rfl, ?_, ?_⟩<;>simp only [go_sem]<;>rfl
 ·rintro m ρ H ⟨f,st',l,y,hH,hy,ha,hfin,hf,hll,rfl,r0,r3⟩
  have hlen:=ha.1.2.2;have hpos:=ha.1.1;have htl:=ha.2.1;simp only [go_sem,r0];refine (js st' [44] ha.1).go hH ?_;cases d1:isD st' [44]
  ·have et:cp st' [44]=(false,st'):=by simp [cp,d1]
   have ef:fy fV [44] 8 f st' l=(l,st'):=by cases f<;>simp [fy,d1]
   rw [et,b7 hH];rw [ef] at hfin;simp only [go_sem,r3];exact .mk (h' :=upd G id (some (PO (nQ st).2))) (gR l) hy.weak (by rw [←hfin]; exact eU hy.1 hH) ⟨by rw [←hfin],rfl⟩
  ·have et:cp st' [44]=(true,aY st'):=by simp [cp,d1]
   obtain ⟨g,rfl⟩:∃g,f=g+1:=⟨f - 1,by rw [htl] at hpos; omega⟩
   simp only [fy,d1,if_true] at hfin;have h2:=dN ha.1 (cE d1);have hone:=Eb (aY st') h2.1;have h3:=(fun _ h=>nW h:∀st,WfP st→Ah st (fV st).2) _ h2.1
   obtain ⟨x,st2,e2⟩:∃x st2,fV (aY st')=(x,st2):=⟨_,_,rfl⟩;rw [e2] at hfin hone h3;simp only [dD] at hfin hone h3;have hdec:decide ((8:Int)<((l.length+1:Nat):Int))=decide (8<l.length+1):=by
    by_cases h:8<l.length+1
    ·simp only [h,decide_true]; exact decide_eq_true (by omega)
    ·simp only [h,decide_false]; exact decide_eq_false (by omega)
   have h4:=jW (decide (8<l.length+1)) h3.1;have hnp:(aY st').pos=st'.pos+1:=rfl;have hp3:=h3.2.2;have hp4:=h4.2.2;rw [et];simp only [go_sem,r0,r3];refine hone.run ?_;simp only [go_sem];refine (hy.put hB hH _).app (zs:= [dD x]) (by rw [M4]; decide) (by rw [PT]; decide) (fun k hk=>hk) (by rw [M4]; exact Eu l) (by rw [M4]; exact Eu [x]) (by rw [PT]; simp; omega) fun y' H2 hy' hk2=> ?_
   have hH2:H2 id=some (PO st2):=hk2 _ _ _ (ah ..);simp only [go_sem,r0,hy'.len,V4,V0,List.length_cons,List.length_nil,Nat.zero_add,hdec];refine (cK st2 _ h3.1).go hH2 ?_;simp only [go_sem];refine ⟨_, ?_,g,bE st2 (decide (8<l.length+1)),l++ [x],y',ah ..,by rw [List.map_append]; exact hy'.put hB hH2 _,(((ha.trans h2).trans h3).trans h4),hfin,by omega,by simp; omega,rfl, ?_, ?_⟩
   ·have:st1.ts.length=st'.ts.length:=by rw [htl]
    omega
   all_goals simp only [go_sem,r0]
theorem KL (st:PS) (hw:WfP st):PC 131 [] st (cH (pV st).1) (pV st).2:= .of fun G id=>by
 have h0:=iF [40] hw;have h1:=zm h0.1;have hm1:=KK _ h0.1;obtain ⟨x0,st1,e1⟩:∃x0 st1,nQ (dM st [40])=(x0,st1):=⟨_,_,rfl⟩;obtain ⟨M,eM⟩:∃M,fy nQ orT 8 st.ts.length st1 [x0]=M:=⟨_,rfl⟩;have epp:(M.1,dM M.2 [41])=pV st:=by simp only [pV,e1,eM]
 rw [e1] at h1 hm1;simp only [gR] at h1 hm1;refine ak.body hU hm Tryz.func131 rfl (by kernel_rfl) 24 rfl [.tmp 2] rfl (VZ rfl) (fun hwf=> ?_)
 simp only [go_sem];refine (jP st [40] hw).run ?_;simp only [go_sem];refine hm1.run ?_;simp only [go_sem];have hB:upd G id none id=none:=ah ..;refine .intro (fun m ρ H=>∃(f:Nat) (st' :PS) (l:List _) (y:AV),H id=some (PO st')∧Acc U 191 (upd G id none) H y (l.map gR)∧Ah st1 st'∧fy nQ orT 8 f st' l=M∧st1.ts.length≤f+st'.pos∧l.length≤st'.pos+1∧m=st1.ts.length - st'.pos∧lk ρ 0=some (.ptr id 0)∧lk ρ 3=some y) (st1.ts.length - st1.pos) ?_ ?_
 ·refine ⟨st.ts.length,st1,[x0], .sl ([x0].map gR) .full,ah .., .full (base_start G id _), .refl h1.1,eM,by rw [h1.2.1,h0.2.1]; omega,by simp,rfl, ?_, ?_⟩<;>simp only [go_sem]<;>rfl
 ·rintro m ρ H ⟨f,st',l,y,hH,hy,ha,hfin,hf,hll,rfl,r0,r3⟩
  have hlen:=ha.1.2.2;have hpos:=ha.1.1;have htl:=ha.2.1;simp only [go_sem,r0];refine (js st' orT ha.1).go hH ?_;cases d1:isD st' orT
  ·have et:cp st' orT=(false,st'):=by simp [cp,d1]
   have ef:fy nQ orT 8 f st' l=(l,st'):=by cases f<;>simp [fy,d1]
   rw [et,b7 hH];rw [ef] at hfin;simp only [go_sem,r0];refine (jP st' [41] ha.1).go hH ?_;simp only [go_sem,r3];exact .mk (h' :=upd G id (some (PO (pV st).2))) (cH l) hy.weak (by rw [←epp,←hfin]; exact eU (hy.1.put hB _) (ah ..)) ⟨by rw [←epp,←hfin],rfl⟩
  ·have et:cp st' orT=(true,aY st'):=by simp [cp,d1]
   obtain ⟨g,rfl⟩:∃g,f=g+1:=⟨f - 1,by rw [htl] at hpos; omega⟩
   simp only [fy,d1,if_true] at hfin;have h2:=dN ha.1 (cE d1);have hone:=KK (aY st') h2.1;have h3:=(fun _ h=>zm h:∀st,WfP st→Ah st (nQ st).2) _ h2.1
   obtain ⟨x,st2,e2⟩:∃x st2,nQ (aY st')=(x,st2):=⟨_,_,rfl⟩;rw [e2] at hfin hone h3;simp only [gR] at hfin hone h3;have hdec:decide ((8:Int)<((l.length+1:Nat):Int))=decide (8<l.length+1):=by
    by_cases h:8<l.length+1
    ·simp only [h,decide_true]; exact decide_eq_true (by omega)
    ·simp only [h,decide_false]; exact decide_eq_false (by omega)
   have h4:=jW (decide (8<l.length+1)) h3.1;have hnp:(aY st').pos=st'.pos+1:=rfl;have hp3:=h3.2.2;have hp4:=h4.2.2;rw [et];simp only [go_sem,r0,r3];refine hone.run ?_;simp only [go_sem];refine (hy.put hB hH _).app (zs:= [gR x]) (by rw [M3]; decide) (by rw [PR]; decide) (fun k hk=>hk) (by rw [M3]; exact Et l) (by rw [M3]; exact Et [x]) (by rw [PR]; simp; omega) fun y' H2 hy' hk2=> ?_
   have hH2:H2 id=some (PO st2):=hk2 _ _ _ (ah ..);simp only [go_sem,r0,hy'.len,V4,V0,List.length_cons,List.length_nil,Nat.zero_add,hdec];refine (cK st2 _ h3.1).go hH2 ?_;simp only [go_sem];refine ⟨_, ?_,g,bE st2 (decide (8<l.length+1)),l++ [x],y',ah ..,by rw [List.map_append]; exact hy'.put hB hH2 _,(((ha.trans h2).trans h3).trans h4),hfin,by omega,by simp; omega,rfl, ?_, ?_⟩
   ·have:st1.ts.length=st'.ts.length:=by rw [htl]
    omega
   all_goals simp only [go_sem,r0]
theorem Lo (st:PS) (hw:WfP st):PC 98 [] st (aT (gr st).1) (gr st).2:= .of fun G id=>by
 refine ak.body hU hm Tryz.func98 rfl (by kernel_rfl) 23 rfl [.tmp 2] rfl (VZ rfl) (fun hwf=> ?_)
 simp only [go_sem];refine (js st Cf hw).run ?_;cases d0:isD st Cf
 ·have et:cp st Cf=(false,st):=by simp [cp,d0]
  have ep:gr st=([],st):=by simp [gr,d0]
  rw [et];simp only [go_sem];exact .mk (h' :=upd G id (some (PO (gr st).2))) (aT []) (.sl _ _) (by rw [ep]; exact .refl _) ⟨by rw [ep],rfl⟩
 have et:cp st Cf=(true,aY st):=by simp [cp,d0]
 have h0:=dN hw (cE d0);have h1:=zn h0.1;have hm1:=KL _ h0.1;obtain ⟨x0,st1,e1⟩:∃x0 st1,pV (aY st)=(x0,st1):=⟨_,_,rfl⟩;obtain ⟨M,eM⟩:∃M,fy pV Am 8 st.ts.length st1 [x0]=M:=⟨_,rfl⟩;have ep:M=gr st:=by simp only [gr,d0,if_true,e1,eM]
 rw [e1] at h1 hm1;simp only [cH] at h1 hm1;rw [et];simp only [go_sem];refine hm1.run ?_;simp only [go_sem];have hB:upd G id none id=none:=ah ..;refine .intro (fun m ρ H=>∃(f:Nat) (st' :PS) (l:List _) (y:AV),H id=some (PO st')∧Acc U 190 (upd G id none) H y (l.map cH)∧Ah st1 st'∧fy pV Am 8 f st' l=M∧st1.ts.length≤f+st'.pos∧l.length≤st'.pos+1∧m=st1.ts.length - st'.pos∧lk ρ 0=some (.ptr id 0)∧lk ρ 3=some y) (st1.ts.length - st1.pos) ?_ ?_
 ·refine ⟨st.ts.length,st1,[x0], .sl ([x0].map cH) .full,ah .., .full (base_start G id _), .refl h1.1,eM,by rw [h1.2.1,h0.2.1]; omega,by simp,rfl, ?_, ?_⟩<;>simp only [go_sem]<;>rfl
 ·rintro m ρ H ⟨f,st',l,y,hH,hy,ha,hfin,hf,hll,rfl,r0,r3⟩
  have hlen:=ha.1.2.2;have hpos:=ha.1.1;have htl:=ha.2.1;simp only [go_sem,r0];refine (js st' Am ha.1).go hH ?_;cases d1:isD st' Am
  ·have et:cp st' Am=(false,st'):=by simp [cp,d1]
   have ef:fy pV Am 8 f st' l=(l,st'):=by cases f<;>simp [fy,d1]
   rw [et,b7 hH];rw [ef] at hfin;simp only [go_sem,r3];exact .mk (h' :=upd G id (some (PO (gr st).2))) (aT l) hy.weak (by rw [←ep,←hfin]; exact eU hy.1 hH) ⟨by rw [←ep,←hfin],rfl⟩
  ·have et:cp st' Am=(true,aY st'):=by simp [cp,d1]
   obtain ⟨g,rfl⟩:∃g,f=g+1:=⟨f - 1,by rw [htl] at hpos; omega⟩
   simp only [fy,d1,if_true] at hfin;have h2:=dN ha.1 (cE d1);have hone:=KL (aY st') h2.1;have h3:=(fun _ h=>zn h:∀st,WfP st→Ah st (pV st).2) _ h2.1
   obtain ⟨x,st2,e2⟩:∃x st2,pV (aY st')=(x,st2):=⟨_,_,rfl⟩;rw [e2] at hfin hone h3;simp only [cH] at hfin hone h3;have hdec:decide ((8:Int)<((l.length+1:Nat):Int))=decide (8<l.length+1):=by
    by_cases h:8<l.length+1
    ·simp only [h,decide_true]; exact decide_eq_true (by omega)
    ·simp only [h,decide_false]; exact decide_eq_false (by omega)
   have h4:=jW (decide (8<l.length+1)) h3.1;have hnp:(aY st').pos=st'.pos+1:=rfl;have hp3:=h3.2.2;have hp4:=h4.2.2;rw [et];simp only [go_sem,r0,r3];refine hone.run ?_;simp only [go_sem];refine (hy.put hB hH _).app (zs:= [cH x]) (by rw [M7]; decide) (by rw [PV]; decide) (fun k hk=>hk) (by rw [M7]; exact Ew l) (by rw [M7]; exact Ew [x]) (by rw [PV]; simp; omega) fun y' H2 hy' hk2=> ?_
   have hH2:H2 id=some (PO st2):=hk2 _ _ _ (ah ..);simp only [go_sem,r0,hy'.len,V4,V0,List.length_cons,List.length_nil,Nat.zero_add,hdec];refine (cK st2 _ h3.1).go hH2 ?_;simp only [go_sem];refine ⟨_, ?_,g,bE st2 (decide (8<l.length+1)),l++ [x],y',ah ..,by rw [List.map_append]; exact hy'.put hB hH2 _,(((ha.trans h2).trans h3).trans h4),hfin,by omega,by simp; omega,rfl, ?_, ?_⟩
   ·have:st1.ts.length=st'.ts.length:=by rw [htl]
    omega
   all_goals simp only [go_sem,r0]
theorem By (op:Int) (h:Heap):ak Tryz.prog 227 [.v (.int .i64 op)] h fun r h' =>r= .sl ((opers op).map iX) .no∧h' =h:=by
 refine ak.body hU hm Tryz.func227 rfl (by kernel_rfl) 15 rfl [.tmp 2] rfl (VZ rfl) (fun hwf=> ?_)
 cases k3:(op==3)<;>cases k4:(op==4)<;>cases k5:(op==5)<;>cases k11:(op==11)
 all_goals
  simp only [go_sem,k3,k4,k5,k11];simp only [beq_iff_eq,beq_eq_false_iff_ne] at k3 k4 k5 k11;refine .mk _ (.sl _ _) (.refl _) ⟨?_,rfl⟩;simp [opers,k3,k4,k5,k11,iX]
theorem M5:(U 64).sz=3:=by simp only [go_sem]
theorem PU:(U 64).bytes=32:=by simp only [go_sem]
theorem Ev (l:List cw):Sized 3 (l.map bf):=fun z hz=>by
 obtain ⟨c,_,rfl⟩:=List.mem_map.1 hz; rfl
set_option maxRecDepth 20000 in
theorem qW (st:PS) (hw:WfP st):PC 102 [] st (au (fS st).1) (fS st).2:= .of fun G id=>by
 obtain ⟨M,eM⟩:∃M,fS st=M:=⟨_,rfl⟩;have eM2:fy wz tZ 8 st.ts.length st []=M:=eM;refine ak.body hU hm Tryz.func102 rfl (by kernel_rfl) 28 rfl [.tmp 2] rfl (VZ rfl) (fun hwf=> ?_)
 simp only [go_sem];have hB:upd G id none id=none:=ah ..;refine .intro (fun m ρ H=>∃(f:Nat) (st' :PS) (l:List cw) (y:AV),H id=some (PO st')∧Acc U 64 (upd G id none) H y (l.map bf)∧Ah st st'∧fy wz tZ 8 f st' l=M∧st.ts.length≤f+st'.pos∧l.length≤st'.pos+1∧m=st.ts.length - st'.pos∧lk ρ 0=some (.ptr id 0)∧lk ρ 3=some y) (st.ts.length - st.pos) ?_ ?_
 ·refine ⟨st.ts.length,st,[], .sl ([].map bf) .full,ah .., .full (base_start G id _), .refl hw,eM2,by omega,by simp,rfl, ?_, ?_⟩<;>simp only [go_sem]<;>rfl
 ·rintro m ρ H ⟨f,st',l,y,hH,hy,ha,hfin,hf,hll,rfl,r0,r3⟩
  have hlen:=ha.1.2.2;have hpos:=ha.1.1;have htl:=ha.2.1;simp only [go_sem,r0];refine (js st' tZ ha.1).go hH ?_;cases d1:isD st' tZ
  ·have et:cp st' tZ=(false,st'):=by simp [cp,d1]
   have ef:fy wz tZ 8 f st' l=(l,st'):=by cases f<;>simp [fy,d1]
   rw [et,b7 hH];rw [ef] at hfin;simp only [go_sem,r3];exact .mk (h' :=upd G id (some (PO (fS st).2))) (au l) hy.weak (by rw [eM,←hfin]; exact eU hy.1 hH) ⟨by rw [eM,←hfin],rfl⟩
  ·have et:cp st' tZ=(true,aY st'):=by simp [cp,d1]
   obtain ⟨g,rfl⟩:∃g,f=g+1:=⟨f - 1,by rw [htl] at hpos; omega⟩
   simp only [fy,d1,if_true] at hfin;have h2:=dN ha.1 (cE d1);have ho1:=fY sS h2.1;have ho2:=fY lf ho1.1;have ho3:=lM ho2.1;have h3:Ah (aY st') (wz (aY st')).2:=GI h2.1;have hdec:decide ((8:Int)<((l.length+1:Nat):Int))=decide (8<l.length+1):=by
    by_cases h:8<l.length+1
    ·simp only [h,decide_true]; exact decide_eq_true (by omega)
    ·simp only [h,decide_false]; exact decide_eq_false (by omega)
   have h4:=jW (decide (8<l.length+1)) h3.1;have hnp:(aY st').pos=st'.pos+1:=rfl;have hp3:=h3.2.2;have hp4:=h4.2.2;have eX:(wz (aY st'))=(⟨(aX (aY st') sS).1,(aX (aX (aY st') sS).2 lf).1,(cm (aX (aX (aY st') sS).2 lf).2).1⟩,(cm (aX (aX (aY st') sS).2 lf).2).2):=rfl;obtain ⟨x,st2,e2⟩:∃x st2,wz (aY st')=(x,st2):=⟨_,_,rfl⟩;rw [et];simp only [go_sem];intro i4 hi4;have n4:=aH hi4;have hH4:H i4=none:=by rw [ag _ _ n4] at hi4; exact hi4
   have c4:∀(f:Heap) (x y:Option Blk),upd (upd f id x) i4 y=upd (upd f i4 y) id x:=fun f x y=>cq f x y n4.symm
   simp only [go_sem,r0,c4];refine (mz _ sS .full (by decide) h2.1).run ?_
   simp only [go_sem,r0,c4,aj,n4];refine (mz _ lf .full (by decide) ho1.1).run ?_
   simp only [go_sem,r0,c4,aj,n4];refine (rQ _ ho2.1).run ?_;simp only [go_sem,r3,c4,aj,n4];rw [e2] at hfin h3 h4 hp3 hp4;simp only at hfin h3 h4 hp3 hp4;have ex1:x=(wz (aY st')).1:=by rw [e2]
   have ex2:st2=(cm (aX (aX (aY st') sS).2 lf).2).2:=by
    have:st2=(wz (aY st')).2:=by rw [e2]
    exact this
   rw [←ex2];refine ((hy.sub (Sub.ai (k:=_) hH4)).put hB (by rw [ag _ _ n4.symm]; exact hH) _).app (zs:= [bf x]) (by rw [M5]; decide) (by rw [PU]; decide) (fun k hk=>by rw [ex1] at hk; exact hk) (by rw [M5]; exact Ev l) (by rw [M5]; exact Ev [x]) (by rw [PU]; simp; omega) fun y' H2 hy' hk2=> ?_
   have hH2:H2 id=some (PO st2):=hk2 _ _ _ (ah ..);simp only [go_sem,r0,hy'.len,V4,V0,List.length_cons,List.length_nil,Nat.zero_add,hdec];refine (cK st2 _ h3.1).go hH2 ?_;simp only [go_sem];refine ⟨_, ?_,g,bE st2 (decide (8<l.length+1)),l++ [x],y',ah ..,by rw [List.map_append]; exact hy'.put hB hH2 _,(((ha.trans h2).trans h3).trans h4),hfin,by omega,by simp; omega,rfl, ?_, ?_⟩
   ·have:st.ts.length=st'.ts.length:=by rw [htl]
    omega
   all_goals simp only [go_sem,r0]
theorem qQ {U:TypeId→TI} {e:TypeId} {B B' H:Heap} {y:AV} {xs:List AV} (hs:Sub B B') (ha:Acc U e B' H y xs):Acc U e B H y xs:=by
 obtain ⟨h1,rfl|⟨k,i1,rfl,i2⟩⟩:=ha
 ·exact ⟨hs.trans h1, .inl rfl⟩
 ·refine ⟨hs.trans h1, .inr ⟨k, ?_,rfl,i2⟩⟩
  cases hk:B k with
  |none=>rfl
  |some b=>rw [hs _ _ hk] at i1; cases i1
theorem u5 {U:TypeId→TI} {e:TypeId} {B H:Heap} {y:AV} {xs:List AV} (ha:Acc U e B H y xs) {i:Nat} (hi:H i=none) (b:Option Blk):Acc U e (upd B i b) (upd H i b) y xs:=by
 obtain ⟨h1,rfl|⟨k,i1,rfl,i2⟩⟩:=ha
 ·exact ⟨h1.both _ _, .inl rfl⟩
 ·have hne:k≠i:=fun hh=>by subst hh; rw [hi] at i2; cases i2
  exact ⟨h1.both _ _, .inr ⟨k,by rw [ag _ _ hne]; exact i1,rfl,by rw [ag _ _ hne]; exact i2⟩⟩
theorem mw {U:TypeId→TI} {e:TypeId} {G K:Heap} {id:Nat} {st:PS} {y:AV} {xs:List AV} (ha:Acc U e (upd G id none) (upd K id (some (PO st))) y xs) (st' :PS):Acc U e (upd G id none) (upd K id (some (PO st'))) y xs:=by
 have:=ha.put (id:=id) (ah ..) (cs:=_) (t:=_) (ah ..) (some (PO st'));rw [nE] at this;exact this
def XC (f:FuncId) (args:List AV) (st:PS) (l:List aO) (mk:AV→AV) (st' :PS) (l' :List aO):Prop:=
 ∀(G K:Heap) (id:Nat) (y:AV),Acc U 226 (upd G id none) (upd K id (some (PO st))) y (l.map cZ)→ak Tryz.prog f (.ptr id 0::y::args) (upd K id (some (PO st))) fun r h' =>∃y',r=mk y'∧h' id=some (PO st')∧Acc U 226 (upd G id none) h' y' (l'.map cZ)
theorem XC.run {f:FuncId} {args:List AV} {st st' :PS} {l l' :List aO} {mk:AV→AV} (hc:XC f args st l mk st' l') {G K:Heap} {id:Nat} {y:AV} {Q:AV→Heap→Prop} (ha:Acc U 226 (upd G id none) (upd K id (some (PO st))) y (l.map cZ))
  (k:∀y' K',Acc U 226 (upd G id none) (upd K' id (some (PO st'))) y' (l'.map cZ)→Q (mk y') (upd K' id (some (PO st')))):ak Tryz.prog f (.ptr id 0::y::args) (upd K id (some (PO st))) Q:=
 (hc G K id y ha).mono fun r h' ⟨y',e1,e2,e3⟩=>by
  subst e1;have:=k y' h' (by rw [b7 e2]; exact e3)
  rwa [b7 e2] at this
def EH (ex:ExF) (f:Nat):Prop:=∀st l,WfP st→st.ts.length≤f+st.pos→l.length≤2*st.pos+1→XC 189 [] st l (fun y=> .tup [y, .v (.bool (ex st l).1.2)]) (ex st l).2 (ex st l).1.1
theorem EG (st:PS) (ws:List Txt):0≤(aX st ws).1∧(aX st ws).1≤ws.length:=by
 unfold aX;cases ei:sH (aL st).s ws with
 |none=>simp
 |some i=>
  have:=zL ei;simp only;split<;>simp<;>omega
theorem yC {ex:ExF} (ho:Ci ex) {f:Nat} (he:EH ex f) (st:PS) (l:List aO) (b:Bool) (hw:WfP st) (hf:st.ts.length≤f+st.pos) (hl:l.length≤2*st.pos+1):XC 166 [.v (.bool b)] st l (fun y=>y) (gJ ex st l b).2 (gJ ex st l b).1:=fun G K id y ha=>by
 refine ak.body hU hm Tryz.func166 rfl (by kernel_rfl) 25 rfl [.tmp 6] rfl (VZ rfl) (fun hwf=> ?_)
 simp only [go_sem];refine (kJ st hw).run ?_;simp only [go_sem,fm];refine (he st l hw hf hl).run ha fun y' K' ha' => ?_
 cases db:((ex st l).1.2==b)
 ·have e1:(ex st l).1.2≠b:=by simpa using db
  have en:gJ ex st l b=((ex st l).1.1,bD (ex st l).2 5 (aL st).pos):=by simp [gJ,e1]
  simp only [go_sem,db,Bool.not_false];refine (pF _ 5 _).run ?_;simp only [go_sem];exact .mk (h' :=upd K' id (some (PO (bD (ex st l).2 5 (aL st).pos)))) y' (.refl _) (.refl _) ⟨y',rfl,by rw [en]; exact ah ..,by rw [en]; exact mw ha' _⟩
 ·have e1:(ex st l).1.2=b:=by simpa using db
  have en:gJ ex st l b=((ex st l).1.1,(ex st l).2):=by simp [gJ,e1]
  simp only [go_sem,db,Bool.not_true];exact .mk (h' :=upd K' id (some (PO (ex st l).2))) y' (.refl _) (.refl _) ⟨y',rfl,by rw [en]; exact ah ..,by rw [en]; exact ha'⟩
set_option maxRecDepth 20000 in
theorem CP {ex:ExF} (ho:Ci ex) {f:Nat} (he:EH ex f) (st:PS) (l:List aO) (hw:WfP st) (hf:st.ts.length≤f+st.pos) (hl:l.length+1≤2*st.pos):XC 209 [] st l (fun y=> .tup [y,cZ (oA ex st l).1.2]) (oA ex st l).2 (oA ex st l).1.1:=fun G K id y ha=>by
 have h1:=fY kr hw;have hrg:=EG st kr;have hfl:kr.length=11:=rfl;have w2:IntKind.i64.wrap (2+(aX st kr).1)=2+(aX st kr).1:=by rw [bx _ (by omega)]
 refine ak.body hU hm Tryz.func209 rfl (by kernel_rfl) 36 rfl [.tmp 4, .cell 5 226] rfl (VZ rfl) (fun hwf=> ?_)
 simp only [go_sem];intro i5 hi5;have n5:=aH hi5;have hK5:K i5=none:=by rw [ag _ _ n5] at hi5; exact hi5
 have c5:∀(f:Heap) (x y:Option Blk),upd (upd f id x) i5 y=upd (upd f i5 y) id x:=fun f x y=>cq f x y n5.symm
 simp only [go_sem,c5];refine (mz _ kr .full (by decide) hw).run ?_
 simp only [go_sem,w2];intro i6 hi6;have n6:=aH hi6;have c6:∀(f:Heap) (x y:Option Blk),upd (upd f id x) i6 y=upd (upd f i6 y) id x:=fun f x y=>cq f x y n6.symm
 have hi6' :=hi6;rw [ag _ _ n6] at hi6';have n65:=aH hi6';have hK6:K i6=none:=by rw [ag _ _ n65] at hi6'; exact hi6'
 simp only [go_sem,c6,aj,n6];refine (By _ _).pthen ?_;simp only [go_sem];have h5f:=ha;obtain ⟨bs,ebs⟩:∃bs,opers (2+(aX st kr).1)=bs:=⟨_,rfl⟩;obtain ⟨M,eM⟩:∃M,iL ex bs (aX st kr).2 l=M:=⟨_,rfl⟩;have hb2:bs.length≤2:=by rw [←ebs]; exact Bz _
 have hMr:oA ex st l=((M.1,⟨2+(aX st kr).1,⟨0,0,[]⟩,⟨0,[],false⟩⟩),dM M.2 [41]):=by simp only [oA,ebs,eM]
 obtain ⟨st1,es1⟩:∃st1,(aX st kr).2=st1:=⟨_,rfl⟩;have hac0:=u5 (u5 (mw ha st1) (by rw [ag _ _ n5]; exact hK5) (some (.obj [.v (.int .i64 0), .v (.int .i64 0), .v (.int .i64 0), .s [], .v (.int .i64 0), .s [], .v (.bool false)] 226))) (by rw [ag _ _ n65,ag _ _ n6]; exact hK6) (some (.obj [.v (.int .i64 (2+(aX st kr).1)), .v (.int .i64 0), .v (.int .i64 0), .s [], .v (.int .i64 0), .s [], .v (.bool false)] 226))
 simp only [c5,c6] at hac0;obtain ⟨G',eG⟩:∃G',G' =upd (upd G i5 (some (.obj [.v (.int .i64 0), .v (.int .i64 0), .v (.int .i64 0), .s [], .v (.int .i64 0), .s [], .v (.bool false)] 226))) i6 (some (.obj [.v (.int .i64 (2+(aX st kr).1)), .v (.int .i64 0), .v (.int .i64 0), .s [], .v (.int .i64 0), .s [], .v (.bool false)] 226)):=⟨_,rfl⟩;have g5:upd G' id none i5=some (.obj [.v (.int .i64 0), .v (.int .i64 0), .v (.int .i64 0), .s [], .v (.int .i64 0), .s [], .v (.bool false)] 226):=by rw [eG,ag _ _ n5,ag _ _ (Ne.symm n65),ah]
 have g6:upd G' id none i6=some (.obj [.v (.int .i64 (2+(aX st kr).1)), .v (.int .i64 0), .v (.int .i64 0), .s [], .v (.int .i64 0), .s [], .v (.bool false)] 226):=by rw [eG,ag _ _ n6,ah]
 rw [←eG] at hac0;have gi5:upd G id none i5=none:=by
  cases hk:upd G id none i5 with
  |none=>rfl
  |some b=>rw [ha.1 _ _ hk] at hi5; cases hi5
 have hsG:Sub (upd G id none) (upd G' id none):=fun k b hk=>by
  have hs1:=ha.1 k b hk;have hk5:k≠i5:=fun e=>by rw [e,hi5] at hs1; cases hs1
  have hk6:k≠i6:=fun e=>by
   rw [e,ag _ _ n6,hK6] at hs1; cases hs1
  by_cases hkid:k=id
  ·subst hkid; rw [ah] at hk; cases hk
  ·rw [ag _ _ hkid] at hk⊢
   rw [eG,ag _ _ hk6,ag _ _ hk5]; exact hk
 simp only [es1,ebs] at h1 eM⊢;refine .intro (fun m ρ H=>∃(i:Nat) (st' :PS) (l' :List aO) (y' :AV) (K' :Heap),H=upd K' id (some (PO st'))∧Acc U 226 (upd G' id none) (upd K' id (some (PO st'))) y' (l'.map cZ)∧Ah st1 st'∧i≤bs.length∧iL ex (bs.drop i) st' l' =M∧l'.length+1≤2*st'.pos+i∧m=bs.length - i∧lk ρ 0=some (.ptr id 0)∧lk ρ 1=some y'∧lk ρ 5=some (.ptr i5 0)∧lk ρ 6=some (.ptr i6 0)∧lk ρ 16=some (.sl (bs.map iX) .no)∧lk ρ 17=some (.v (.int .i64 bs.length))∧lk ρ 18=some (.v (.int .i64 i))) bs.length ?_ ?_
 ·refine ⟨0,st1,l,y,_,rfl,hac0, .refl h1.1,by omega,by simpa using eM,by have:=h1.2.2; omega,rfl, ?_, ?_, ?_, ?_, ?_, ?_, ?_⟩<;>simp only [go_sem]<;>(try rfl)<;>simp
 ·rintro m ρ H ⟨i,st',l',y',K',rfl,hac,hah,hi,hfin,hll,rfl,r0,r1,r5,r6,r16,r17,r18⟩
  simp only [go_sem,r17,r18];have k6:upd K' id (some (PO st')) i6=some (.obj [.v (.int .i64 (2+(aX st kr).1)), .v (.int .i64 0), .v (.int .i64 0), .s [], .v (.int .i64 0), .s [], .v (.bool false)] 226):=hac.1 _ _ g6;have k5:upd K' id (some (PO st')) i5=some (.obj [.v (.int .i64 0), .v (.int .i64 0), .v (.int .i64 0), .s [], .v (.int .i64 0), .s [], .v (.bool false)] 226):=hac.1 _ _ g5;rw [ag _ _ n6] at k6;rw [ag _ _ n5] at k5;refine .intro (fun e=> ?_) (fun e=> ?_)
  ·have hlt:i<bs.length:=V7 e
   simp only [go_sem,r16,r18];refine .at i (by simpa using hlt) (by rw [V1]; rfl) ?_
   cases db:(st'.bad !=0)
   ·have e1:st'.bad=0:=by simpa using db
    rw [List.drop_eq_getElem_cons hlt] at hfin;simp only [iL,e1,if_true] at hfin;simp only [go_sem,r0,r1,V1,iX,PO,db];have hpl:=hah.2.2;refine (yC ho he st' l' bs[i] hah.1 (by rw [hah.2.1,h1.2.1]; have:=h1.2.2; omega) (by omega)).run hac fun y2 K2 hac2=> ?_
    obtain ⟨q1,q2⟩:=wA ho st' l' bs[i] hah.1;have w1:=V6 i (by omega)
    simp only [go_sem,r18,w1];refine ⟨_, ?_,i+1,(gJ ex st' l' bs[i]).2,(gJ ex st' l' bs[i]).1,y2,K2,rfl,hac2,hah.trans q1,hlt,hfin,by omega,rfl, ?_⟩
    ·omega
    refine ⟨?_, ?_, ?_, ?_, ?_, ?_, ?_⟩
    all_goals simp only [go_sem,r0,r5,r6,r16,r17]
   ·have e1:st'.bad≠0:=by simpa using db
    have hfin2:(l',st')=M:=by
     rw [←hfin,List.drop_eq_getElem_cons hlt];simp [iL,e1]
    clear hfin;have hfin:=hfin2;simp only [go_sem,r0,V1,iX,PO,db];refine (jP _ [41] hah.1).run ?_;simp only [go_sem,r1,r5,r6,aj,n5,n6,k5,k6];refine ⟨.of (by kernel_rfl), ?_⟩
    exact .mk (.tup [y',cZ ⟨2+(aX st kr).1,⟨0,0,[]⟩,⟨0,[],false⟩⟩]) (.refl _) (.refl _) ⟨y',by rw [hMr],by rw [hMr,←hfin]; exact (ag _ _ (Ne.symm n5)).trans (ah ..),by rw [hMr,←hfin]; exact (qQ hsG (mw hac (dM st' [41]))).put gi5 ((ag _ _ n5).trans k5) _⟩
  ·have hge:i=bs.length:=by have:=V3 e; omega
   subst hge;rw [List.drop_length] at hfin;simp only [iL] at hfin;simp only [go_sem,r0];refine (jP _ [41] hah.1).run ?_;simp only [go_sem,r1,r5,r6,aj,n5,n6,k5,k6];refine ⟨.of (by kernel_rfl), ?_⟩
   exact .mk (.tup [y',cZ ⟨2+(aX st kr).1,⟨0,0,[]⟩,⟨0,[],false⟩⟩]) (.refl _) (.refl _) ⟨y',by rw [hMr],by rw [hMr,←hfin]; exact (ag _ _ (Ne.symm n5)).trans (ah ..),by rw [hMr,←hfin]; exact (qQ hsG (mw hac (dM st' [41]))).put gi5 ((ag _ _ n5).trans k5) _⟩
theorem qM:(U 226).sz=7:=by simp only [go_sem]
theorem xM:(U 226).bytes=72:=by simp only [go_sem]
theorem jT (l:List aO):Sized 7 (l.map cZ):=fun z hz=>by
 obtain ⟨c,_,rfl⟩:=List.mem_map.1 hz; rfl
set_option maxRecDepth 20000 in
theorem Mg (f:Nat) (ih:EH (dV f) f):EH (dV (f+1)) (f+1):=fun st l hw hf hl G K id y ha=>by
 refine ak.body hU hm Tryz.func189 rfl (by kernel_rfl) 52 rfl [.tmp 4, .tmp 5] rfl (VZ rfl) (fun hwf=> ?_)
 simp only [go_sem];intro i6 hi6;have n6:=aH hi6;have hK6:K i6=none:=by rw [ag _ _ n6] at hi6; exact hi6
 have c6:∀(f:Heap) (x y:Option Blk),upd (upd f id x) i6 y=upd (upd f i6 y) id x:=fun f x y=>cq f x y n6.symm
 have gi6:upd G id none i6=none:=by
  cases hk:upd G id none i6 with
  |none=>rfl
  |some b=>rw [ha.1 _ _ hk] at hi6; cases hi6
 have hac:=u5 ha hi6 (some (.obj [.v (.int .i64 0), .v (.int .i64 0), .v (.int .i64 0), .s [], .v (.int .i64 0), .s [], .v (.bool false)] 226));simp only [go_sem,c6];refine (kJ st hw).run ?_;simp only [go_sem,fm];intro i7 hi7;have n7:=aH hi7;have hi7' :=hi7;rw [ag _ _ n7] at hi7';have n76:=aH hi7';have m76:¬i7=i6:=n76;have m67:¬i6=i7:=fun e=>n76 e.symm
 have hK7:K i7=none:=by rw [ag _ _ n76] at hi7'; exact hi7'
 have c7:∀(f:Heap) (x y:Option Blk),upd (upd f id x) i7 y=upd (upd f i7 y) id x:=fun f x y=>cq f x y n7.symm
 have e6:upd (upd G id none) i6 (some (.obj [.v (.int .i64 0), .v (.int .i64 0), .v (.int .i64 0), .s [], .v (.int .i64 0), .s [], .v (.bool false)] 226))=upd (upd G i6 (some (.obj [.v (.int .i64 0), .v (.int .i64 0), .v (.int .i64 0), .s [], .v (.int .i64 0), .s [], .v (.bool false)] 226))) id none:=c6 G none _;have hac7:∀k,Acc U 226 (upd (upd G i6 (some (.obj [.v (.int .i64 0), .v (.int .i64 0), .v (.int .i64 0), .s [], .v (.int .i64 0), .s [], .v (.bool false)] 226))) id none) (upd (upd (upd K i6 (some (.obj [.v (.int .i64 0), .v (.int .i64 0), .v (.int .i64 0), .s [], .v (.int .i64 0), .s [], .v (.bool false)] 226))) i7 k) id (some (PO st))) y (l.map cZ):=fun k=>by
  have:=hac.sub (Sub.ai (k:=k) (by rw [c6]; exact hi7))
  rw [e6,c6 K,c7] at this;exact this
 have hsG:Sub (upd G id none) (upd (upd G i6 (some (.obj [.v (.int .i64 0), .v (.int .i64 0), .v (.int .i64 0), .s [], .v (.int .i64 0), .s [], .v (.bool false)] 226))) id none):=by
  rw [←e6]; exact Sub.ai gi6
 have g6:upd (upd G i6 (some (.obj [.v (.int .i64 0), .v (.int .i64 0), .v (.int .i64 0), .s [], .v (.int .i64 0), .s [], .v (.bool false)] 226))) id none i6=some (.obj [.v (.int .i64 0), .v (.int .i64 0), .v (.int .i64 0), .s [], .v (.int .i64 0), .s [], .v (.bool false)] 226):=by rw [←e6,ah]
 simp only [go_sem,c7,aj,n7];refine (js st [40] hw).run ?_;have hacX:∀tk NB st',Acc U 226 (upd G id none) (upd (upd (upd (upd K i6 (some (.obj [.v (.int .i64 0), .v (.int .i64 0), .v (.int .i64 0), .s [], .v (.int .i64 0), .s [], .v (.bool false)] 226))) i7 tk) i6 NB) id (some (PO st'))) y (l.map cZ):=fun tk NB st' =>by
  have:=(mw (qQ hsG (hac7 tk)) st').put gi6 ((ag _ _ n6).trans ((ag _ _ m67).trans (ah ..))) NB;rw [c6] at this;exact this
 obtain ⟨⟨⟨lh,n⟩,sth⟩,eh⟩:∃x,iC (dV f) st l=x:=⟨_,rfl⟩;obtain ⟨hha,hhl⟩:=A7 (ot f) st l hw;rw [eh] at hha hhl;simp only at hha hhl;have hwp:=hha.1.2.2;have hwq:=hha.1.1;have hpl:=hha.2.2;have hdec:decide ((32:Int)<((lh.length+1:Nat):Int))=decide (32<lh.length+1):=by
  by_cases h:32<lh.length+1
  ·simp only [h,decide_true]; exact decide_eq_true (by omega)
  ·simp only [h,decide_false]; exact decide_eq_false (by omega)
 cases d0:isD st [40]
 ·have et:cp st [40]=(false,st):=by simp [cp,d0]
  rw [et];cases d1:((aL st).kind==1)
  ·have en:iC (dV f) st l=((l,⟨1,(aC st).1,⟨0,[],false⟩⟩),(aC st).2):=by
    have:(aL st).kind≠1:=by simpa using d1
    simp [iC,d0,this]
   simp only [go_sem,aj,n7,d1];refine (si st hw).run ?_;rw [en] at eh;injection eh with eh1 eh2
   injection eh1 with eh3 eh4
   subst eh2;subst eh3;subst eh4;simp only [go_sem,c6,aj,n6,m67,aU];refine (hacX _ _ _).app (zs:= [cZ (⟨1,(aC st).1,⟨0,[],false⟩⟩:aO)]) (by rw [qM]; decide) (by rw [xM]; decide) (fun k hk=>hk) (by rw [qM]; exact jT _) (by rw [qM]; exact jT [(⟨1,(aC st).1,⟨0,[],false⟩⟩:aO)]) (by rw [xM]; simp; omega) fun y3 H3 hy3 hk3=> ?_
   have hH3:H3 id=some (PO (aC st).2):=hk3 _ _ _ (ah ..);have hb3:H3 i6=some (.obj [.v (.int .i64 (⟨1,(aC st).1,⟨0,[],false⟩⟩:aO).op), .v (.int .i64 (⟨1,(aC st).1,⟨0,[],false⟩⟩:aO).val.kind), .v (.int .i64 (⟨1,(aC st).1,⟨0,[],false⟩⟩:aO).val.n), .s (⟨1,(aC st).1,⟨0,[],false⟩⟩:aO).val.s, .v (.int .i64 (⟨1,(aC st).1,⟨0,[],false⟩⟩:aO).attr.cat), .s (⟨1,(aC st).1,⟨0,[],false⟩⟩:aO).attr.name, .v (.bool (⟨1,(aC st).1,⟨0,[],false⟩⟩:aO).attr.must)] 226):=hk3 _ _ _ ((ag _ _ n6).trans (ah ..));simp only [go_sem,hy3.len,V4,V0,List.length_cons,List.length_nil,Nat.zero_add,hdec];refine (cK (aC st).2 _ hha.1).go hH3 ?_;simp only [go_sem,aj,n6,hb3];refine ⟨.of (by kernel_rfl), ?_⟩
   have efin:dV (f+1) st l=((l++ [(⟨1,(aC st).1,⟨0,[],false⟩⟩:aO)],(⟨1,(aC st).1,⟨0,[],false⟩⟩:aO).op==2),bE (aC st).2 (decide (32<l.length+1))):=by simp only [dV,en]
   exact .mk (.tup [y3, .v (.bool ((⟨1,(aC st).1,⟨0,[],false⟩⟩:aO).op==2))]) (.refl _) (.refl _) ⟨y3,by rw [efin],by rw [efin]; exact ah ..,by rw [efin,List.map_append]; exact hy3.put (ah ..) hH3 _⟩
  ·have k1:(aL st).kind=1:=by simpa using d1
   cases d2:((aL st).s== [116,114,117,101])
   ·have k2:(aL st).s≠ur:=by unfold ur; simpa using d2
    cases d3:((aL st).s== [102,97,108,115,101])
    ·have k3:(aL st).s≠ou:=by unfold ou; simpa using d3
     have en:iC (dV f) st l=((l,⟨2,⟨0,0,[]⟩,(fD st).1⟩),(fD st).2):=by simp [iC,d0,k1,k2,k3]
     simp only [go_sem,aj,n7,d1,d2,d3,Bool.not_false];refine (GM st hw).run ?_;rw [en] at eh;injection eh with eh1 eh2
     injection eh1 with eh3 eh4
     subst eh2;subst eh3;subst eh4;simp only [go_sem,c6,aj,n6,m67,Aq];refine (hacX _ _ _).app (zs:= [cZ (⟨2,⟨0,0,[]⟩,(fD st).1⟩:aO)]) (by rw [qM]; decide) (by rw [xM]; decide) (fun k hk=>hk) (by rw [qM]; exact jT _) (by rw [qM]; exact jT [(⟨2,⟨0,0,[]⟩,(fD st).1⟩:aO)]) (by rw [xM]; simp; omega) fun y3 H3 hy3 hk3=> ?_
     have hH3:H3 id=some (PO (fD st).2):=hk3 _ _ _ (ah ..);have hb3:H3 i6=some (.obj [.v (.int .i64 (⟨2,⟨0,0,[]⟩,(fD st).1⟩:aO).op), .v (.int .i64 (⟨2,⟨0,0,[]⟩,(fD st).1⟩:aO).val.kind), .v (.int .i64 (⟨2,⟨0,0,[]⟩,(fD st).1⟩:aO).val.n), .s (⟨2,⟨0,0,[]⟩,(fD st).1⟩:aO).val.s, .v (.int .i64 (⟨2,⟨0,0,[]⟩,(fD st).1⟩:aO).attr.cat), .s (⟨2,⟨0,0,[]⟩,(fD st).1⟩:aO).attr.name, .v (.bool (⟨2,⟨0,0,[]⟩,(fD st).1⟩:aO).attr.must)] 226):=hk3 _ _ _ ((ag _ _ n6).trans (ah ..));simp only [go_sem,hy3.len,V4,V0,List.length_cons,List.length_nil,Nat.zero_add,hdec];refine (cK (fD st).2 _ hha.1).go hH3 ?_;simp only [go_sem,aj,n6,hb3];refine ⟨.of (by kernel_rfl), ?_⟩
     have efin:dV (f+1) st l=((l++ [(⟨2,⟨0,0,[]⟩,(fD st).1⟩:aO)],(⟨2,⟨0,0,[]⟩,(fD st).1⟩:aO).op==2),bE (fD st).2 (decide (32<l.length+1))):=by simp only [dV,en]
     exact .mk (.tup [y3, .v (.bool ((⟨2,⟨0,0,[]⟩,(fD st).1⟩:aO).op==2))]) (.refl _) (.refl _) ⟨y3,by rw [efin],by rw [efin]; exact ah ..,by rw [efin,List.map_append]; exact hy3.put (ah ..) hH3 _⟩
    ·have k3:(aL st).s=ou:=by unfold ou; simpa using d3
     have en:iC (dV f) st l=((l,⟨1,(aC st).1,⟨0,[],false⟩⟩),(aC st).2):=by simp [iC,d0,k1,k3]
     simp only [go_sem,aj,n7,d1,d2,d3,Bool.not_false,Bool.not_true];refine (si st hw).run ?_;rw [en] at eh;injection eh with eh1 eh2
     injection eh1 with eh3 eh4
     subst eh2;subst eh3;subst eh4;simp only [go_sem,c6,aj,n6,m67,aU];refine (hacX _ _ _).app (zs:= [cZ (⟨1,(aC st).1,⟨0,[],false⟩⟩:aO)]) (by rw [qM]; decide) (by rw [xM]; decide) (fun k hk=>hk) (by rw [qM]; exact jT _) (by rw [qM]; exact jT [(⟨1,(aC st).1,⟨0,[],false⟩⟩:aO)]) (by rw [xM]; simp; omega) fun y3 H3 hy3 hk3=> ?_
     have hH3:H3 id=some (PO (aC st).2):=hk3 _ _ _ (ah ..);have hb3:H3 i6=some (.obj [.v (.int .i64 (⟨1,(aC st).1,⟨0,[],false⟩⟩:aO).op), .v (.int .i64 (⟨1,(aC st).1,⟨0,[],false⟩⟩:aO).val.kind), .v (.int .i64 (⟨1,(aC st).1,⟨0,[],false⟩⟩:aO).val.n), .s (⟨1,(aC st).1,⟨0,[],false⟩⟩:aO).val.s, .v (.int .i64 (⟨1,(aC st).1,⟨0,[],false⟩⟩:aO).attr.cat), .s (⟨1,(aC st).1,⟨0,[],false⟩⟩:aO).attr.name, .v (.bool (⟨1,(aC st).1,⟨0,[],false⟩⟩:aO).attr.must)] 226):=hk3 _ _ _ ((ag _ _ n6).trans (ah ..));simp only [go_sem,hy3.len,V4,V0,List.length_cons,List.length_nil,Nat.zero_add,hdec];refine (cK (aC st).2 _ hha.1).go hH3 ?_;simp only [go_sem,aj,n6,hb3];refine ⟨.of (by kernel_rfl), ?_⟩
     have efin:dV (f+1) st l=((l++ [(⟨1,(aC st).1,⟨0,[],false⟩⟩:aO)],(⟨1,(aC st).1,⟨0,[],false⟩⟩:aO).op==2),bE (aC st).2 (decide (32<l.length+1))):=by simp only [dV,en]
     exact .mk (.tup [y3, .v (.bool ((⟨1,(aC st).1,⟨0,[],false⟩⟩:aO).op==2))]) (.refl _) (.refl _) ⟨y3,by rw [efin],by rw [efin]; exact ah ..,by rw [efin,List.map_append]; exact hy3.put (ah ..) hH3 _⟩
   ·have k2:(aL st).s=ur:=by unfold ur; simpa using d2
    have en:iC (dV f) st l=((l,⟨1,(aC st).1,⟨0,[],false⟩⟩),(aC st).2):=by simp [iC,d0,k1,k2]
    simp only [go_sem,aj,n7,d1,d2,Bool.not_true];refine (si st hw).run ?_;rw [en] at eh;injection eh with eh1 eh2
    injection eh1 with eh3 eh4
    subst eh2;subst eh3;subst eh4;simp only [go_sem,c6,aj,n6,m67,aU];refine (hacX _ _ _).app (zs:= [cZ (⟨1,(aC st).1,⟨0,[],false⟩⟩:aO)]) (by rw [qM]; decide) (by rw [xM]; decide) (fun k hk=>hk) (by rw [qM]; exact jT _) (by rw [qM]; exact jT [(⟨1,(aC st).1,⟨0,[],false⟩⟩:aO)]) (by rw [xM]; simp; omega) fun y3 H3 hy3 hk3=> ?_
    have hH3:H3 id=some (PO (aC st).2):=hk3 _ _ _ (ah ..);have hb3:H3 i6=some (.obj [.v (.int .i64 (⟨1,(aC st).1,⟨0,[],false⟩⟩:aO).op), .v (.int .i64 (⟨1,(aC st).1,⟨0,[],false⟩⟩:aO).val.kind), .v (.int .i64 (⟨1,(aC st).1,⟨0,[],false⟩⟩:aO).val.n), .s (⟨1,(aC st).1,⟨0,[],false⟩⟩:aO).val.s, .v (.int .i64 (⟨1,(aC st).1,⟨0,[],false⟩⟩:aO).attr.cat), .s (⟨1,(aC st).1,⟨0,[],false⟩⟩:aO).attr.name, .v (.bool (⟨1,(aC st).1,⟨0,[],false⟩⟩:aO).attr.must)] 226):=hk3 _ _ _ ((ag _ _ n6).trans (ah ..));simp only [go_sem,hy3.len,V4,V0,List.length_cons,List.length_nil,Nat.zero_add,hdec];refine (cK (aC st).2 _ hha.1).go hH3 ?_;simp only [go_sem,aj,n6,hb3];refine ⟨.of (by kernel_rfl), ?_⟩
    have efin:dV (f+1) st l=((l++ [(⟨1,(aC st).1,⟨0,[],false⟩⟩:aO)],(⟨1,(aC st).1,⟨0,[],false⟩⟩:aO).op==2),bE (aC st).2 (decide (32<l.length+1))):=by simp only [dV,en]
    exact .mk (.tup [y3, .v (.bool ((⟨1,(aC st).1,⟨0,[],false⟩⟩:aO).op==2))]) (.refl _) (.refl _) ⟨y3,by rw [efin],by rw [efin]; exact ah ..,by rw [efin,List.map_append]; exact hy3.put (ah ..) hH3 _⟩
 ·have et:cp st [40]=(true,aY st):=by simp [cp,d0]
  have h1:=dN hw (cE d0);have hnp:(aY st).pos=st.pos+1:=rfl;have hnt:(aY st).ts=st.ts:=rfl;rw [et];simp only [go_sem];have ef:oA (dV f) (aY st) l=((lh,n),sth):=by rw [←eh]; simp [iC,d0]
  have hfx:=CP (ot f) ih (aY st) l h1.1 (by rw [hnt]; omega) (by omega)
  simp only [ef] at hfx;refine hfx.run (mw (hac7 _) _) fun y2 K2 hac2=> ?_
  have k6:=hac2.1 _ _ g6;rw [ag _ _ n6] at k6;simp only [go_sem,c6,aj,n6,k6,cZ];have hac3:=(qQ hsG hac2).put gi6 ((ag _ _ n6).trans k6) (some (.obj [.v (.int .i64 n.op), .v (.int .i64 n.val.kind), .v (.int .i64 n.val.n), .s n.val.s, .v (.int .i64 n.attr.cat), .s n.attr.name, .v (.bool n.attr.must)] 226));rw [c6] at hac3;refine (hac3).app (zs:= [cZ n]) (by rw [qM]; decide) (by rw [xM]; decide) (fun k hk=>hk) (by rw [qM]; exact jT _) (by rw [qM]; exact jT [n]) (by rw [xM]; simp; omega) fun y3 H3 hy3 hk3=> ?_
  have hH3:H3 id=some (PO sth):=hk3 _ _ _ (ah ..);have hb3:H3 i6=some (.obj [.v (.int .i64 n.op), .v (.int .i64 n.val.kind), .v (.int .i64 n.val.n), .s n.val.s, .v (.int .i64 n.attr.cat), .s n.attr.name, .v (.bool n.attr.must)] 226):=hk3 _ _ _ ((ag _ _ n6).trans (ah ..));simp only [go_sem,hy3.len,V4,V0,List.length_cons,List.length_nil,Nat.zero_add,hdec];refine (cK sth _ hha.1).go hH3 ?_;simp only [go_sem,aj,n6,hb3];refine ⟨.of (by kernel_rfl), ?_⟩
  have efin:dV (f+1) st l=((lh++ [n],n.op==2),bE sth (decide (32<lh.length+1))):=by simp only [dV,eh]
  exact .mk (.tup [y3, .v (.bool (n.op==2))]) (.refl _) (.refl _) ⟨y3,by rw [efin],by rw [efin]; exact ah ..,by rw [efin,List.map_append]; exact hy3.put (ah ..) hH3 _⟩
theorem Hp:∀f,EH (dV f) f
 |0=>fun st l hw hf _=>absurd hw.1 (by omega)
 |f+1=>Mg f (Hp f)
theorem CN {P:Program} {f:FuncId} {args:List AV} {h:Heap} {Q Q' :AV→Heap→Prop} (hf:ak P f args h Q) (hq:∀x h1,Q x h1→∃y h2,Weak x y∧Sub h2 h1∧Q' y h2):ak P f args h Q' :=
 fun c vs h1 h2 h3 h4=>(hf c vs h1 h2 h3 h4).mono fun u w' ⟨c',x,h',g1,g2,g3,g4,g5,g6⟩=>by
  obtain ⟨y,h'',k1,k2,k3⟩:=hq x h' g6;exact ⟨c',y,h'',g1,g2,g3,g4.weak k1,k2.trans g5,k3⟩
def flat:AV→AV
 | .sl xs _=> .sl xs .no
 |x=>x
theorem fO (xs:List AV):Weak (.agg xs) (.agg (xs.map flat)):= .agg _ _ (by simp) fun i h1 h2=>by
 rw [V1];cases xs[i]<;>first|exact .refl _|exact .sl _ _
theorem FK (st:PS) (hw:WfP st):PC 166 [.sl [] .full, .v (.bool false)] st (eV (gJ (dV st.ts.length) st [] false).1) (gJ (dV st.ts.length) st [] false).2:= .of fun G id=>by
 have hx:=yC (ot st.ts.length) (Hp st.ts.length) st [] false hw (by omega) (by simp)
 refine CN (hx G G id (.sl [] .full) (.full (base_start G id _))) fun r h1 ⟨y',e1,e2,e3⟩=>⟨_,upd G id (some (PO (gJ (dV st.ts.length) st [] false).2)), ?_,eU e3.1 e2,rfl,rfl⟩
 subst e1;exact e3.weak
set_option maxRecDepth 20000 in
theorem IE (deny:Bool) (st:PS) (hw:WfP st):PC 134 [.v (.bool deny)] st (aB (nP deny st).1) (nP deny st).2:= .of fun G id=>by
 have h1:=lM hw;have h2:=zv h1.1;have h3:=DK h2.1;have h4:=zq h3.1;have ht:=Lo _ h1.1;simp only [aT] at ht;refine ak.body hU hm Tryz.func134 rfl (by kernel_rfl) 23 rfl [.cell 4 164] rfl (VZ rfl) (fun hwf=> ?_)
 simp only [go_sem];intro i4 hi4;have n4:=aH hi4;have hG4:G i4=none:=by rw [ag _ _ n4] at hi4; exact hi4
 have c4:∀(f:Heap) (x y:Option Blk),upd (upd f id x) i4 y=upd (upd f i4 y) id x:=fun f x y=>cq f x y n4.symm
 simp only [go_sem,c4];refine (rQ st hw).run ?_;simp only [go_sem];refine ht.run ?_;simp only [go_sem];intro i5 hi5;have n5:=aH hi5;have hi5' :=hi5;rw [ag _ _ n5] at hi5';have n54:=aH hi5';have m54:¬i5=i4:=n54;have m45:¬i4=i5:=n54.symm;have hG5:G i5=none:=by rw [ag _ _ n54] at hi5'; exact hi5'
 have c5:∀(f:Heap) (x y:Option Blk),upd (upd f id x) i5 y=upd (upd f i5 y) id x:=fun f x y=>cq f x y n5.symm
 have c45:∀(f:Heap) (x y:Option Blk),upd (upd f i5 x) i4 y=upd (upd f i4 y) i5 x:=fun f x y=>cq f x y n54
 simp only [go_sem,c5,aj,n5];refine (js _ ifT h2.1).run ?_;cases d0:isD (gr (cm st).2).2 ifT
 ·have et:cp (gr (cm st).2).2 ifT=(false,(gr (cm st).2).2):=by simp [cp,d0]
  have ec:om (gr (cm st).2).2=([],(gr (cm st).2).2):=by simp [om,d0]
  have er:nP deny st=(⟨(cm st).1,deny,(gr (cm st).2).1,[],(fS (gr (cm st).2).2).1⟩,dM (fS (gr (cm st).2).2).2 [59]):=by simp only [nP,ec]
  rw [ec] at h4;have ho:=qW _ h2.1;simp only [au] at ho;rw [et];simp only [go_sem];refine ho.run ?_;simp only [go_sem,c5,aj,n5];refine (jP _ [59] h4.1).run ?_;simp only [go_sem,c4,c45,aj,n4,n5,m45];exact .mk (h' :=upd G id (some (PO (dM (fS (gr (cm st).2).2).2 [59])))) (aB ⟨(cm st).1,deny,(gr (cm st).2).1,[],(fS (gr (cm st).2).2).1⟩) (fO _) (Sub.both (by repeat (first|exact .refl _|refine Sub.put ?_ (by assumption) _)) _ _) ⟨by rw [er],by rw [er]⟩
 ·have et:cp (gr (cm st).2).2 ifT=(true,aY (gr (cm st).2).2):=by simp [cp,d0]
  obtain ⟨⟨cn,stc⟩,ec⟩:∃x,om (gr (cm st).2).2=x:=⟨_,rfl⟩;have er:nP deny st=(⟨(cm st).1,deny,(gr (cm st).2).1,cn,(fS stc).1⟩,dM (fS stc).2 [59]):=by simp only [nP,ec]
  have hcnd:=FK (aY (gr (cm st).2).2) (dN h2.1 (cE d0)).1;have ec2:gJ (dV (aY (gr (cm st).2).2).ts.length) (aY (gr (cm st).2).2) [] false=(cn,stc):=by rw [←ec]; simp only [om,d0,if_true]; rfl
  rw [ec2] at hcnd;simp only [eV] at hcnd;rw [ec] at h3 h4;have ho:=qW _ h3.1;simp only [au] at ho;rw [et];simp only [go_sem];refine hcnd.run ?_;simp only [go_sem,c5,aj,n5];refine ho.run ?_;simp only [go_sem,c5,aj,n5];refine (jP _ [59] h4.1).run ?_;simp only [go_sem,c4,c45,aj,n4,n5,m45];exact .mk (h' :=upd G id (some (PO (dM (fS stc).2 [59])))) (aB ⟨(cm st).1,deny,(gr (cm st).2).1,cn,(fS stc).1⟩) (fO _) (Sub.both (by repeat (first|exact .refl _|refine Sub.put ?_ (by assumption) _)) _ _) ⟨by rw [er],by rw [er]⟩
theorem Gj:(U 164).sz=5:=by simp only [go_sem]
theorem Kw:(U 164).bytes=96:=by simp only [go_sem]
theorem uW (l:List cO):Sized 5 (l.map aB):=fun z hz=>by
 obtain ⟨c,_,rfl⟩:=List.mem_map.1 hz; rfl
set_option maxRecDepth 20000 in
theorem MQ (st:PS) (hw:WfP st) (hr:st.rules≤64):PC 101 [] st (.sl ((jo 17 st []).1.map aB) .no) (jo 17 st []).2:= .of fun G id=>by
 obtain ⟨M,eM⟩:∃M,jo 17 st []=M:=⟨_,rfl⟩;rw [eM];refine ak.body hU hm Tryz.func101 rfl (by kernel_rfl) 51 rfl [.tmp 2] rfl (VZ rfl) (fun hwf=> ?_)
 simp only [go_sem];have hB:upd G id none id=none:=ah ..;refine .intro (fun m ρ H=>∃(f:Nat) (st' :PS) (l:List cO) (y:AV),H id=some (PO st')∧Acc U 164 (upd G id none) H y (l.map aB)∧Ah st st'∧st'.rules≤64∧jo f st' l=M∧f+l.length=17∧l.length≤16∧m=f∧lk ρ 0=some (.ptr id 0)∧lk ρ 3=some y) 17 ?_ ?_
 ·refine ⟨17,st,[], .sl ([].map aB) .full,ah .., .full (base_start G id _), .refl hw,hr,eM,by simp,by simp,rfl, ?_, ?_⟩<;>simp only [go_sem]<;>rfl
 ·rintro m ρ H ⟨f,st',l,y,hH,hy,ha,hru,hfin,hf,hll,rfl,r0,r3⟩
  have hlen:=ha.1.2.2;have hpos:=ha.1.1;obtain ⟨g,rfl⟩:∃g,m=g+1:=⟨m - 1,by omega⟩
  simp only [go_sem,r0];refine (rA st' nh ha.1).go hH ?_;rw [b7 hH];have fin:isD st' nh=false→isD st' ij=false→(l,st')=M:=fun d1 d2=>by
   rw [←hfin]; simp [jo,d1,d2]
  have rest:isD st' nh=true∨isD st' ij=true→True:=fun _=>trivial
  cases d1:isD st' nh
  ·simp only [go_sem,r0]
   refine (rA st' ij ha.1).go hH ?_;rw [b7 hH];cases d2:isD st' ij
   ·simp only [go_sem,r3]
    have e:=fin d1 d2;exact .mk (h' :=upd G id (some (PO M.2))) (.sl (M.1.map aB) .no) (by rw [←e]; exact hy.weak) (by rw [←e]; exact eU hy.1 hH) ⟨rfl,rfl⟩
   ·have hd:isD st' nh=true∨isD st' ij=true:=by first|exact .inl d1|exact .inr d2
    have eb:=(lq hd).1;have ek:=(lq hd).2;have db:(st'.bad !=0)=false:=by simp [eb]
    have gP:=hH;unfold PO at gP;have lim:l.length=16∨st'.rules=64→(l,bE st' true)=M:=fun h=>by
     rw [←hfin]; simp only [jo,if_pos hd,if_pos h]
    have hdl:bE st' true=bD st' 6 (aL st').pos:=rfl;have hlb:((bE st' true).bad !=0)=true:=by rw [hdl]; simp [bD,eb]
    cases dA:((l.length:Int)==16)
    ·cases dB:((st'.rules:Int)==64)
     ·have nA:l.length≠16:=fun e=>by rw [e] at dA; simp at dA
      have nB:st'.rules≠64:=fun e=>by rw [e] at dB; simp at dB
      have hno:¬(l.length=16∨st'.rules=64):=fun h=>h.elim nA nB
      simp only [jo,if_pos hd,if_neg hno] at hfin;simp only [go_sem,r0,r3,hy.len,V0,dA,gP,dB];refine (cK st' false ha.1).go hH ?_;rw [show bE st' false=st' from rfl,b7 hH]
      have w1:IntKind.i64.wrap ((st'.rules:Int)+1)=((st'.rules+1:Nat):Int):=by rw [bx _ (by omega)]; omega
      have w2:IntKind.i64.wrap ((st'.pos:Int)+1)=((st'.pos+1:Nat):Int):=by rw [bx _ (by omega)]; omega
      simp only [go_sem,r0,gP,db,w1];have hwr:WfP {st' with rules:=st'.rules+1}:=ha.1
      refine (rA {st' with rules:=st'.rules+1} ij hwr).go (ah ..) ?_
      rw [nE];have g2:upd H id (some (PO {st' with rules:=st'.rules+1})) id=some (.obj [.sl (st'.ts.map fm) .no, .v (.int .i64 st'.pos), .v (.int .i64 (st'.rules+1:Nat)), .v (.int .i64 st'.bad), .v (.int .i64 st'.place)] 134):=ah ..
      simp only [go_sem,r0,r3,g2,w2];have h2:Ah st' {aY st' with rules:=st'.rules+1}:=u7 ha.1 ek
      have h3:=zu (isD st' ij) h2.1;have hrp:=IE (isD st' ij) {aY st' with rules:=st'.rules+1} h2.1
      have hr3:=(pQ (wM (isD st' ij) {aY st' with rules:=st'.rules+1})).2.2
      obtain ⟨x,st2,e2⟩:∃x st2,nP (isD st' ij) {aY st' with rules:=st'.rules+1}=(x,st2):=⟨_,_,rfl⟩
      rw [e2] at hfin hrp h3 hr3;simp only [aB] at hrp hfin h3 hr3;refine hrp.go (ah ..) ?_;rw [nE];simp only [go_sem];refine (hy.put hB hH _).app (zs:= [aB x]) (by rw [Gj]; decide) (by rw [Kw]; decide) (fun k hk=>hk) (by rw [Gj]; exact uW l) (by rw [Gj]; exact uW [x]) (by rw [Kw]; simp; omega) fun y' H2 hy' hk2=> ?_
      have hH2:H2 id=some (PO st2):=hk2 _ _ _ (ah ..);simp only [go_sem];refine ⟨_, ?_,g,st2,l++ [x],y',hH2,by rw [List.map_append]; exact hy',(ha.trans h2).trans h3,by omega,hfin,by simp; omega,by simp; omega,rfl, ?_, ?_⟩
      ·omega
      all_goals simp only [go_sem,r0]
     ·have nB:st'.rules=64:=by have:(st'.rules:Int)=64:=(by simpa using dB); omega
      have e:=lim (.inr nB);simp only [go_sem,r0,r3,hy.len,V0,dA,gP,dB];refine (cK st' true ha.1).go hH ?_;have g3:upd H id (some (PO (bE st' true))) id=some (PO (bE st' true)):=ah ..;unfold PO at g3;simp only [go_sem,r0,r3,g3,hlb,PO];exact .mk (h' :=upd G id (some (PO M.2))) (.sl (M.1.map aB) .no) (by rw [←e]; exact hy.weak) (by rw [←e]; exact eU (hy.put hB hH _).1 (ah ..)) ⟨rfl,rfl⟩
    ·have nA:l.length=16:=by have:(l.length:Int)=16:=(by simpa using dA); omega
     have e:=lim (.inl nA);simp only [go_sem,r0,r3,hy.len,V0,dA];refine (cK st' true ha.1).go hH ?_;have g3:upd H id (some (PO (bE st' true))) id=some (PO (bE st' true)):=ah ..;unfold PO at g3;simp only [go_sem,r0,r3,g3,hlb,PO];exact .mk (h' :=upd G id (some (PO M.2))) (.sl (M.1.map aB) .no) (by rw [←e]; exact hy.weak) (by rw [←e]; exact eU (hy.put hB hH _).1 (ah ..)) ⟨rfl,rfl⟩
  ·have hd:isD st' nh=true∨isD st' ij=true:=by first|exact .inl d1|exact .inr d2
   have eb:=(lq hd).1;have ek:=(lq hd).2;have db:(st'.bad !=0)=false:=by simp [eb]
   have gP:=hH;unfold PO at gP;have lim:l.length=16∨st'.rules=64→(l,bE st' true)=M:=fun h=>by
    rw [←hfin]; simp only [jo,if_pos hd,if_pos h]
   have hdl:bE st' true=bD st' 6 (aL st').pos:=rfl;have hlb:((bE st' true).bad !=0)=true:=by rw [hdl]; simp [bD,eb]
   cases dA:((l.length:Int)==16)
   ·cases dB:((st'.rules:Int)==64)
    ·have nA:l.length≠16:=fun e=>by rw [e] at dA; simp at dA
     have nB:st'.rules≠64:=fun e=>by rw [e] at dB; simp at dB
     have hno:¬(l.length=16∨st'.rules=64):=fun h=>h.elim nA nB
     simp only [jo,if_pos hd,if_neg hno] at hfin;simp only [go_sem,r0,r3,hy.len,V0,dA,gP,dB];refine (cK st' false ha.1).go hH ?_;rw [show bE st' false=st' from rfl,b7 hH]
     have w1:IntKind.i64.wrap ((st'.rules:Int)+1)=((st'.rules+1:Nat):Int):=by rw [bx _ (by omega)]; omega
     have w2:IntKind.i64.wrap ((st'.pos:Int)+1)=((st'.pos+1:Nat):Int):=by rw [bx _ (by omega)]; omega
     simp only [go_sem,r0,gP,db,w1];have hwr:WfP {st' with rules:=st'.rules+1}:=ha.1
     refine (rA {st' with rules:=st'.rules+1} ij hwr).go (ah ..) ?_
     rw [nE];have g2:upd H id (some (PO {st' with rules:=st'.rules+1})) id=some (.obj [.sl (st'.ts.map fm) .no, .v (.int .i64 st'.pos), .v (.int .i64 (st'.rules+1:Nat)), .v (.int .i64 st'.bad), .v (.int .i64 st'.place)] 134):=ah ..
     simp only [go_sem,r0,r3,g2,w2];have h2:Ah st' {aY st' with rules:=st'.rules+1}:=u7 ha.1 ek
     have h3:=zu (isD st' ij) h2.1;have hrp:=IE (isD st' ij) {aY st' with rules:=st'.rules+1} h2.1
     have hr3:=(pQ (wM (isD st' ij) {aY st' with rules:=st'.rules+1})).2.2
     obtain ⟨x,st2,e2⟩:∃x st2,nP (isD st' ij) {aY st' with rules:=st'.rules+1}=(x,st2):=⟨_,_,rfl⟩
     rw [e2] at hfin hrp h3 hr3;simp only [aB] at hrp hfin h3 hr3;refine hrp.go (ah ..) ?_;rw [nE];simp only [go_sem];refine (hy.put hB hH _).app (zs:= [aB x]) (by rw [Gj]; decide) (by rw [Kw]; decide) (fun k hk=>hk) (by rw [Gj]; exact uW l) (by rw [Gj]; exact uW [x]) (by rw [Kw]; simp; omega) fun y' H2 hy' hk2=> ?_
     have hH2:H2 id=some (PO st2):=hk2 _ _ _ (ah ..);simp only [go_sem];refine ⟨_, ?_,g,st2,l++ [x],y',hH2,by rw [List.map_append]; exact hy',(ha.trans h2).trans h3,by omega,hfin,by simp; omega,by simp; omega,rfl, ?_, ?_⟩
     ·omega
     all_goals simp only [go_sem,r0]
    ·have nB:st'.rules=64:=by have:(st'.rules:Int)=64:=(by simpa using dB); omega
     have e:=lim (.inr nB);simp only [go_sem,r0,r3,hy.len,V0,dA,gP,dB];refine (cK st' true ha.1).go hH ?_;have g3:upd H id (some (PO (bE st' true))) id=some (PO (bE st' true)):=ah ..;unfold PO at g3;simp only [go_sem,r0,r3,g3,hlb,PO];exact .mk (h' :=upd G id (some (PO M.2))) (.sl (M.1.map aB) .no) (by rw [←e]; exact hy.weak) (by rw [←e]; exact eU (hy.put hB hH _).1 (ah ..)) ⟨rfl,rfl⟩
   ·have nA:l.length=16:=by have:(l.length:Int)=16:=(by simpa using dA); omega
    have e:=lim (.inl nA);simp only [go_sem,r0,r3,hy.len,V0,dA];refine (cK st' true ha.1).go hH ?_;have g3:upd H id (some (PO (bE st' true))) id=some (PO (bE st' true)):=ah ..;unfold PO at g3;simp only [go_sem,r0,r3,g3,hlb,PO];exact .mk (h' :=upd G id (some (PO M.2))) (.sl (M.1.map aB) .no) (by rw [←e]; exact hy.weak) (by rw [←e]; exact eU (hy.put hB hH _).1 (ah ..)) ⟨rfl,rfl⟩
theorem Gi:(U 37).sz=7:=by simp only [go_sem]
theorem Kv:(U 37).bytes=128:=by simp only [go_sem]
theorem uU (l:List bG):Sized 7 (l.map aK):=fun z hz=>by
 obtain ⟨c,_,rfl⟩:=List.mem_map.1 hz;cases c; rfl
set_option maxRecDepth 20000 in
theorem Mr (pol:PoF) (d:Nat) (hd5:d≤5) (hp:∀st,WfP st→st.rules≤64→d≤4→PC 59 [.v (.int .i64 d)] st (aK (pol st).1) (pol st).2) (hpa:∀st,WfP st→Ah st (pol st).2) (hpr:∀st,me st (pol st).2)
  (st:PS) (hw:WfP st) (hr:st.rules≤64):PC 100 [.v (.int .i64 d)] st (.sl ((jg pol (decide ((4:Int)<(d:Int))) 17 st []).1.map aK) .no) (jg pol (decide ((4:Int)<(d:Int))) 17 st []).2:= .of fun G id=>by
 obtain ⟨M,eM⟩:∃M,jg pol (decide ((4:Int)<(d:Int))) 17 st []=M:=⟨_,rfl⟩;rw [eM];refine ak.body hU hm Tryz.func100 rfl (by kernel_rfl) 33 rfl [.tmp 4] rfl (VZ rfl) (fun hwf=> ?_)
 simp only [go_sem];have hB:upd G id none id=none:=ah ..;refine .intro (fun m ρ H=>∃(f:Nat) (st' :PS) (l:List bG) (y:AV),H id=some (PO st')∧Acc U 37 (upd G id none) H y (l.map aK)∧Ah st st'∧st'.rules≤64∧jg pol (decide ((4:Int)<(d:Int))) f st' l=M∧f+l.length=17∧l.length≤16∧m=f∧lk ρ 0=some (.ptr id 0)∧lk ρ 1=some (.v (.int .i64 d))∧lk ρ 5=some y) 17 ?_ ?_
 ·refine ⟨17,st,[], .sl ([].map aK) .full,ah .., .full (base_start G id _), .refl hw,hr,eM,by simp,by simp,rfl, ?_, ?_, ?_⟩<;>simp only [go_sem]<;>rfl
 ·rintro m ρ H ⟨f,st',l,y,hH,hy,ha,hru,hfin,hf,hll,rfl,r0,r1,r5⟩
  have hlen:=ha.1.2.2;have hpos:=ha.1.1;obtain ⟨g,rfl⟩:∃g,m=g+1:=⟨m - 1,by omega⟩
  simp only [go_sem,r0];refine (rA st' ni ha.1).go hH ?_;rw [b7 hH];have fin:isD st' ni=false→isD st' Dm=false→(l,st')=M:=fun d1 d2=>by
   rw [←hfin]; simp [jg,d1,d2]
  cases d1:isD st' ni
  ·simp only [go_sem,r0]
   refine (rA st' Dm ha.1).go hH ?_;rw [b7 hH];cases d2:isD st' Dm
   ·simp only [go_sem,r5]
    have e:=fin d1 d2;exact .mk (h' :=upd G id (some (PO M.2))) (.sl (M.1.map aK) .no) (by rw [←e]; exact hy.weak) (by rw [←e]; exact eU hy.1 hH) ⟨rfl,rfl⟩
   ·have hd:isD st' ni=true∨isD st' Dm=true:=by first|exact .inl d1|exact .inr d2
    have eb:=(lq hd).1;have ek:=(lq hd).2;have db:(st'.bad !=0)=false:=by simp [eb]
    have gP:=hH;unfold PO at gP;have lim:l.length=16∨decide ((4:Int)<(d:Int))=true→(l,bE st' true)=M:=fun h=>by
     rw [←hfin]; simp only [jg,if_pos hd,if_pos h]
    have hdl:bE st' true=bD st' 6 (aL st').pos:=rfl;have hlb:((bE st' true).bad !=0)=true:=by rw [hdl]; simp [bD,eb]
    cases dA:((l.length:Int)==16)
    ·cases dB:decide ((4:Int)<(d:Int))
     ·have nA:l.length≠16:=fun e=>by rw [e] at dA; simp at dA
      have hno:¬(l.length=16∨decide ((4:Int)<(d:Int))=true):=fun h=>h.elim nA (fun e=>by rw [dB] at e; cases e)
      simp only [jg,if_pos hd,if_neg hno] at hfin;rw [dB] at hfin;have hd4:d≤4:=by have:=V3 dB; omega
      simp only [go_sem,r0,r1,r5,hy.len,V0,dA,dB];refine (cK st' false ha.1).go hH ?_;rw [show bE st' false=st' from rfl,b7 hH]
      have h3:=hpa st' ha.1;have hrp:=hp st' ha.1 hru hd4;have hr3:=sY (hpr st') hru;obtain ⟨x,st2,e2⟩:∃x st2,pol st' =(x,st2):=⟨_,_,rfl⟩;rw [e2] at hfin hrp h3 hr3;obtain ⟨pid,pset,palg,ptgt,prules,pkids,pobls⟩:=x;simp only [aK] at hrp hfin h3 hr3;simp only [go_sem,r0,r1,r5,gP,db];refine hrp.go hH ?_;simp only [go_sem];refine (hy.put hB hH _).app (zs:= [aK ⟨pid,pset,palg,ptgt,prules,pkids,pobls⟩]) (by rw [Gi]; decide) (by rw [Kv]; decide) (fun k hk=>hk) (by rw [Gi]; exact uU l) (by rw [Gi]; exact uU [⟨pid,pset,palg,ptgt,prules,pkids,pobls⟩]) (by rw [Kv]; simp; omega) fun y' H2 hy' hk2=> ?_
      have hH2:H2 id=some (PO st2):=hk2 _ _ _ (ah ..);simp only [go_sem];refine ⟨_, ?_,g,st2,l++ [⟨pid,pset,palg,ptgt,prules,pkids,pobls⟩],y',hH2,by rw [List.map_append]; exact hy',ha.trans h3,hr3,hfin,by simp; omega,by simp; omega,rfl, ?_, ?_, ?_⟩
      ·omega
      all_goals simp only [go_sem,r0,r1]
     ·have e:=lim (.inr dB)
      simp only [go_sem,r0,r1,r5,hy.len,V0,dA,dB];refine (cK st' true ha.1).go hH ?_;have g3:upd H id (some (PO (bE st' true))) id=some (PO (bE st' true)):=ah ..;unfold PO at g3;simp only [go_sem,r0,r5,g3,hlb,PO];exact .mk (h' :=upd G id (some (PO M.2))) (.sl (M.1.map aK) .no) (by rw [←e]; exact hy.weak) (by rw [←e]; exact eU (hy.put hB hH _).1 (ah ..)) ⟨rfl,rfl⟩
    ·have nA:l.length=16:=by have:(l.length:Int)=16:=(by simpa using dA); omega
     have e:=lim (.inl nA);simp only [go_sem,r0,r5,hy.len,V0,dA];refine (cK st' true ha.1).go hH ?_;have g3:upd H id (some (PO (bE st' true))) id=some (PO (bE st' true)):=ah ..;unfold PO at g3;simp only [go_sem,r0,r5,g3,hlb,PO];exact .mk (h' :=upd G id (some (PO M.2))) (.sl (M.1.map aK) .no) (by rw [←e]; exact hy.weak) (by rw [←e]; exact eU (hy.put hB hH _).1 (ah ..)) ⟨rfl,rfl⟩
  ·have hd:isD st' ni=true∨isD st' Dm=true:=by first|exact .inl d1|exact .inr d2
   have eb:=(lq hd).1;have ek:=(lq hd).2;have db:(st'.bad !=0)=false:=by simp [eb]
   have gP:=hH;unfold PO at gP;have lim:l.length=16∨decide ((4:Int)<(d:Int))=true→(l,bE st' true)=M:=fun h=>by
    rw [←hfin]; simp only [jg,if_pos hd,if_pos h]
   have hdl:bE st' true=bD st' 6 (aL st').pos:=rfl;have hlb:((bE st' true).bad !=0)=true:=by rw [hdl]; simp [bD,eb]
   cases dA:((l.length:Int)==16)
   ·cases dB:decide ((4:Int)<(d:Int))
    ·have nA:l.length≠16:=fun e=>by rw [e] at dA; simp at dA
     have hno:¬(l.length=16∨decide ((4:Int)<(d:Int))=true):=fun h=>h.elim nA (fun e=>by rw [dB] at e; cases e)
     simp only [jg,if_pos hd,if_neg hno] at hfin;rw [dB] at hfin;have hd4:d≤4:=by have:=V3 dB; omega
     simp only [go_sem,r0,r1,r5,hy.len,V0,dA,dB];refine (cK st' false ha.1).go hH ?_;rw [show bE st' false=st' from rfl,b7 hH]
     have h3:=hpa st' ha.1;have hrp:=hp st' ha.1 hru hd4;have hr3:=sY (hpr st') hru;obtain ⟨x,st2,e2⟩:∃x st2,pol st' =(x,st2):=⟨_,_,rfl⟩;rw [e2] at hfin hrp h3 hr3;obtain ⟨pid,pset,palg,ptgt,prules,pkids,pobls⟩:=x;simp only [aK] at hrp hfin h3 hr3;simp only [go_sem,r0,r1,r5,gP,db];refine hrp.go hH ?_;simp only [go_sem];refine (hy.put hB hH _).app (zs:= [aK ⟨pid,pset,palg,ptgt,prules,pkids,pobls⟩]) (by rw [Gi]; decide) (by rw [Kv]; decide) (fun k hk=>hk) (by rw [Gi]; exact uU l) (by rw [Gi]; exact uU [⟨pid,pset,palg,ptgt,prules,pkids,pobls⟩]) (by rw [Kv]; simp; omega) fun y' H2 hy' hk2=> ?_
     have hH2:H2 id=some (PO st2):=hk2 _ _ _ (ah ..);simp only [go_sem];refine ⟨_, ?_,g,st2,l++ [⟨pid,pset,palg,ptgt,prules,pkids,pobls⟩],y',hH2,by rw [List.map_append]; exact hy',ha.trans h3,hr3,hfin,by simp; omega,by simp; omega,rfl, ?_, ?_, ?_⟩
     ·omega
     all_goals simp only [go_sem,r0,r1]
    ·have e:=lim (.inr dB)
     simp only [go_sem,r0,r1,r5,hy.len,V0,dA,dB];refine (cK st' true ha.1).go hH ?_;have g3:upd H id (some (PO (bE st' true))) id=some (PO (bE st' true)):=ah ..;unfold PO at g3;simp only [go_sem,r0,r5,g3,hlb,PO];exact .mk (h' :=upd G id (some (PO M.2))) (.sl (M.1.map aK) .no) (by rw [←e]; exact hy.weak) (by rw [←e]; exact eU (hy.put hB hH _).1 (ah ..)) ⟨rfl,rfl⟩
   ·have nA:l.length=16:=by have:(l.length:Int)=16:=(by simpa using dA); omega
    have e:=lim (.inl nA);simp only [go_sem,r0,r5,hy.len,V0,dA];refine (cK st' true ha.1).go hH ?_;have g3:upd H id (some (PO (bE st' true))) id=some (PO (bE st' true)):=ah ..;unfold PO at g3;simp only [go_sem,r0,r5,g3,hlb,PO];exact .mk (h' :=upd G id (some (PO M.2))) (.sl (M.1.map aK) .no) (by rw [←e]; exact hy.weak) (by rw [←e]; exact eU (hy.put hB hH _).1 (ah ..)) ⟨rfl,rfl⟩
set_option maxRecDepth 20000 in
theorem BJ (r:Nat) (d:Nat) (hrd:r+d=4) (hp:∀st,WfP st→st.rules≤64→d+1≤4→PC 59 [.v (.int .i64 (d+1:Nat))] st (aK (ga r st).1) (ga r st).2) (st:PS) (hw:WfP st) (hr:st.rules≤64):
  PC 59 [.v (.int .i64 d)] st (aK (ga (r+1) st).1) (ga (r+1) st).2:= .of fun G id=>by
 have h1:=fY lB hw;have h2:=lM h1.1;have h3:=fY ve h2.1;have h4:=zv h3.1;have h5:Ah _ (cQ st).2:=iF [123] h4.1;have ht:=Lo _ h3.1;simp only [aT] at ht;have hrh:=sY (BO st).big hr;have hset:(cQ st).1.1=((aX st lB).1==2):=rfl;have w1:=V6 d (by omega)
 have hdp:(r==0)=decide ((4:Int)<((d+1:Nat):Int)):=by
  by_cases h:r=0
  ·rw [decide_eq_true (by omega),h]; rfl
  ·rw [decide_eq_false (by omega)]; simpa using h
 have hk:=Mr (ga r) (d+1) (by omega) hp (fun _ h=>u6 r _ h) (zW r) _ h5.1 hrh
 have hs:=MQ _ h5.1 hrh;refine ak.body hU hm Tryz.func59 rfl (by kernel_rfl) 39 rfl [.cell 4 37] rfl (VZ rfl) (fun hwf=> ?_)
 simp only [go_sem];intro i4 hi4;have n4:=aH hi4;have hG4:G i4=none:=by rw [ag _ _ n4] at hi4; exact hi4
 have c4:∀(f:Heap) (x y:Option Blk),upd (upd f id x) i4 y=upd (upd f i4 y) id x:=fun f x y=>cq f x y n4.symm
 simp only [go_sem,c4];intro i5 hi5;have n5:=aH hi5;have hi5' :=hi5;rw [ag _ _ n5] at hi5';have n54:=aH hi5';have m54:¬i5=i4:=n54;have m45:¬i4=i5:=n54.symm;have hG5:G i5=none:=by rw [ag _ _ n54] at hi5'; exact hi5'
 have c5:∀(f:Heap) (x y:Option Blk),upd (upd f id x) i5 y=upd (upd f i5 y) id x:=fun f x y=>cq f x y n5.symm
 have c45:∀(f:Heap) (x y:Option Blk),upd (upd f i5 x) i4 y=upd (upd f i4 y) i5 x:=fun f x y=>cq f x y n54
 simp only [go_sem,c5];refine (mz st lB .full (by decide) hw).run ?_
 simp only [go_sem,c5,aj,n5];refine (rQ _ h1.1).run ?_;simp only [go_sem,c5,aj,n5];refine (mz _ ve .full (by decide) h2.1).run ?_
 simp only [go_sem,c5,aj,n5];refine ht.run ?_;simp only [go_sem,c5,aj,n5];refine (jP _ [123] h4.1).run ?_;cases ds:((aX st lB).1==2)
 ·rw [ds] at hset
  simp only [go_sem,aj,n5];have eb:nJ (ga r) (r==0) (cQ st).1.1 (cQ st).2=(((jo 17 (cQ st).2 []).1,[]),(jo 17 (cQ st).2 []).2):=by simp [nJ,hset]
  have hb:=zp (fun _ h=>u6 r _ h) (r==0) (cQ st).1.1 h5.1
  obtain ⟨⟨rl,stb⟩,er⟩:∃x,jo 17 (cQ st).2 []=x:=⟨_,rfl⟩;rw [er] at eb hs;rw [eb] at hb;have ho:=qW _ (iF [125] hb.1).1;simp only [au] at ho hs;refine hs.run ?_;simp only [go_sem,c5,aj,n5];refine (jP _ [125] hb.1).run ?_;simp only [go_sem];refine ho.run ?_;simp only [go_sem,c4,c5,c45,aj,n4,n5,m45];have efin:ga (r+1) st=(.mk (cQ st).1.2.1 false (cQ st).1.2.2.1 (cQ st).1.2.2.2 rl [] (fS (dM stb [125])).1,(fS (dM stb [125])).2):=by simp only [ga,eb]; rw [hset]
  exact .mk (h' :=upd G id (some (PO (fS (dM stb [125])).2))) (aK (.mk (cQ st).1.2.1 false (cQ st).1.2.2.1 (cQ st).1.2.2.2 rl [] (fS (dM stb [125])).1)) (fO _) (Sub.both (by repeat (first|exact .refl _|refine Sub.put ?_ (by assumption) _)) _ _) ⟨by rw [efin],by rw [efin]⟩
 ·rw [ds] at hset
  simp only [go_sem,aj,n5,w1];have eb:nJ (ga r) (r==0) (cQ st).1.1 (cQ st).2=(([],(jg (ga r) (r==0) 17 (cQ st).2 []).1),(jg (ga r) (r==0) 17 (cQ st).2 []).2):=by simp [nJ,hset]
  have hb:=zp (fun _ h=>u6 r _ h) (r==0) (cQ st).1.1 h5.1
  rw [←hdp] at hk;obtain ⟨⟨kl,stb⟩,er⟩:∃x,jg (ga r) (r==0) 17 (cQ st).2 []=x:=⟨_,rfl⟩;rw [er] at eb hk;rw [eb] at hb;have ho:=qW _ (iF [125] hb.1).1;simp only [au] at ho hk;refine hk.run ?_;simp only [go_sem,c5,aj,n5];refine (jP _ [125] hb.1).run ?_;simp only [go_sem];refine ho.run ?_;simp only [go_sem,c4,c5,c45,aj,n4,n5,m45];have efin:ga (r+1) st=(.mk (cQ st).1.2.1 true (cQ st).1.2.2.1 (cQ st).1.2.2.2 [] kl (fS (dM stb [125])).1,(fS (dM stb [125])).2):=by simp only [ga,eb]; rw [hset]
  exact .mk (h' :=upd G id (some (PO (fS (dM stb [125])).2))) (aK (.mk (cQ st).1.2.1 true (cQ st).1.2.2.1 (cQ st).1.2.2.2 [] kl (fS (dM stb [125])).1)) (by simp only [aK,aV]; exact fO _) (Sub.both (by repeat (first|exact .refl _|refine Sub.put ?_ (by assumption) _)) _ _) ⟨by rw [efin],by rw [efin]⟩
theorem BI:∀(r d:Nat),r+d=4→∀st,WfP st→st.rules≤64→PC 59 [.v (.int .i64 d)] st (aK (ga (r+1) st).1) (ga (r+1) st).2
 |0,d,hrd=>fun st hw hr=>BJ 0 d hrd (fun _ _ _ h=>absurd h (by omega)) st hw hr
 |r+1,d,hrd=>fun st hw hr=>BJ (r+1) d hrd (fun st hw hr _=>BI r (d+1) (by omega) st hw hr) st hw hr
theorem GK (l:List (List bN)) (h:Heap):ak Tryz.prog 172 [cH l] h fun r h' =>r= .v (.int .i64 (uz l))∧h' =h:=by
 refine ak.body hU hm Tryz.func172 rfl (by kernel_rfl) 25 rfl [.tmp 2] rfl (VZ rfl) (fun hwf=> ?_)
 simp only [go_sem,cH,V0];refine (Ea _ _).pthen ?_;cases d1:(jx l.length !=0)
 case true=>
  have e1:jx l.length≠0:=by simpa using d1
  simp only [go_sem,d1];exact .same (.refl _) ⟨by simp [uz,e1,ax],rfl⟩
 have e1:jx l.length=0:=by simpa using d1
 have hlen:=Bn e1;simp only [go_sem,d1,V0];refine .intro (fun m ρ h' =>Ab.Sub h h'∧∃i:Nat,i≤l.length∧m=l.length - i∧gD ux (l.take i)=0∧lk ρ 13=some (cH l)∧lk ρ 14=some (.v (.int .i64 l.length))∧lk ρ 15=some (.v (.int .i64 i))) l.length ?_ ?_
 ·refine ⟨.refl _,0,by omega,rfl,rfl, ?_, ?_, ?_⟩<;>simp only [go_sem,cH]
 ·rintro m ρ h' ⟨hs,i,hi,rfl,hc,r12,r13,r14⟩
  simp only [go_sem,r13,r14];refine .intro (fun e=> ?_) (fun e=> ?_)
  ·have hlt:i<l.length:=V7 e
   have w1:=V6 i (by omega)
   simp only [go_sem,r12,r14,cH];refine .at i (by simpa using hlt) (by rw [V1]; rfl) ?_
   simp only [go_sem,V1,gR];refine (GJ l[i] _).pthen ?_;cases d2:(ux l[i] !=0)
   ·have e2:ux l[i]=0:=by simpa using d2
    simp only [go_sem,r14,d2,w1];refine ⟨_, ?_,hs,i+1,by omega,rfl,tO hlt hc e2, ?_, ?_, ?_⟩
    ·omega
    all_goals simp only [go_sem,r12,r13,cH]
   ·have e2:ux l[i]≠0:=by simpa using d2
    simp only [go_sem,d2];refine .mk _ (.refl _) hs ⟨?_,rfl⟩;simp [uz,e1,yh hlt hc e2,ax]
  ·have hge:i=l.length:=by have:=V3 e; omega
   subst hge;rw [List.take_length] at hc;simp only [go_sem];exact .mk _ (.refl _) hs ⟨by simp [uz,e1,hc,ax],rfl⟩
theorem s7 (l:fP) (h:Heap):ak Tryz.prog 146 [aT l] h fun r h' =>r= .v (.int .i64 (j9 l))∧h' =h:=by
 refine ak.body hU hm Tryz.func146 rfl (by kernel_rfl) 21 rfl [.tmp 2] rfl (VZ rfl) (fun hwf=> ?_)
 cases d1:decide (8<(l.length:Int))
 case true=>
  have e1:8<l.length:=by have:=V2 d1; omega
  simp only [go_sem,aT,V0,d1];exact .same (.refl _) ⟨by simp [j9,e1,ax],rfl⟩
 have e1:¬8<l.length:=by have:=V3 d1; omega
 simp only [go_sem,d1,aT,V0];refine .intro (fun m ρ h' =>Ab.Sub h h'∧∃i:Nat,i≤l.length∧m=l.length - i∧gD uz (l.take i)=0∧lk ρ 9=some (aT l)∧lk ρ 10=some (.v (.int .i64 l.length))∧lk ρ 11=some (.v (.int .i64 i))) l.length ?_ ?_
 ·refine ⟨.refl _,0,by omega,rfl,rfl, ?_, ?_, ?_⟩<;>simp only [go_sem,aT]
 ·rintro m ρ h' ⟨hs,i,hi,rfl,hc,r12,r13,r14⟩
  simp only [go_sem,r13,r14];refine .intro (fun e=> ?_) (fun e=> ?_)
  ·have hlt:i<l.length:=V7 e
   have w1:=V6 i (by omega)
   simp only [go_sem,r12,r14,aT];refine .at i (by simpa using hlt) (by rw [V1]; rfl) ?_
   simp only [go_sem,V1,cH];refine (GK l[i] _).pthen ?_;cases d2:(uz l[i] !=0)
   ·have e2:uz l[i]=0:=by simpa using d2
    simp only [go_sem,r14,d2,w1];refine ⟨_, ?_,hs,i+1,by omega,rfl,tO hlt hc e2, ?_, ?_, ?_⟩
    ·omega
    all_goals simp only [go_sem,r12,r13,aT]
   ·have e2:uz l[i]≠0:=by simpa using d2
    simp only [go_sem,d2];refine .mk _ (.refl _) hs ⟨?_,rfl⟩;simp [j9,e1,yh hlt hc e2,ax]
  ·have hge:i=l.length:=by have:=V3 e; omega
   subst hge;rw [List.take_length] at hc;simp only [go_sem];exact .mk _ (.refl _) hs ⟨by simp [j9,e1,hc,ax],rfl⟩
theorem zS (l:List cw) (h:Heap):ak Tryz.prog 147 [au l] h fun r h' =>r= .v (.int .i64 (gH l))∧h' =h:=by
 refine ak.body hU hm Tryz.func147 rfl (by kernel_rfl) 39 rfl [.tmp 2] rfl (VZ rfl) (fun hwf=> ?_)
 cases d1:decide (8<(l.length:Int))
 case true=>
  have e1:8<l.length:=by have:=V2 d1; omega
  simp only [go_sem,au,V0,d1];exact .same (.refl _) ⟨by simp [gH,e1,ax],rfl⟩
 have e1:¬8<l.length:=by have:=V3 d1; omega
 simp only [go_sem,d1,au,V0];refine .intro (fun m ρ h' =>Ab.Sub h h'∧∃i:Nat,i≤l.length∧m=l.length - i∧(l.take i).all oT=true∧lk ρ 8=some (au l)∧lk ρ 9=some (.v (.int .i64 l.length))∧lk ρ 10=some (.v (.int .i64 i))) l.length ?_ ?_
 ·refine ⟨.refl _,0,by omega,rfl,rfl, ?_, ?_, ?_⟩<;>simp only [go_sem,au]
 ·rintro m ρ h' ⟨hs,i,hi,rfl,hc,r12,r13,r14⟩
  simp only [go_sem,r13,r14];refine .intro (fun e=> ?_) (fun e=> ?_)
  ·have hlt:i<l.length:=V7 e
   have w1:=V6 i (by omega)
   simp only [go_sem,r12,r14,au];refine .at i (by simpa using hlt) (by rw [V1]; rfl) ?_
   simp only [go_sem,V1,bf];intro id hid;have bad:oT l[i]=false→gH l=1:=fun hb=>by
    have:l.all oT=false:=List.all_eq_false.2 ⟨_,V5 hlt,by simp [hb]⟩
    simp [gH,e1,this]
   cases c1:decide (l[i].on<1)
   case true=>
    simp only [go_sem,c1];exact .mk _ (.refl _) (hs.new hid _) ⟨by rw [bad (by have:=V2 c1; simp [oT]; omega)]; rfl,rfl⟩
   cases c2:decide (2<l[i].on)
   case true=>
    simp only [go_sem,c1,c2];exact .mk _ (.refl _) (hs.new hid _) ⟨by rw [bad (by have:=V2 c2; simp [oT]; omega)]; rfl,rfl⟩
   cases c3:decide (l[i].kind<1)
   case true=>
    simp only [go_sem,c1,c2,c3];exact .mk _ (.refl _) (hs.new hid _) ⟨by rw [bad (by have:=V2 c3; simp [oT]; omega)]; rfl,rfl⟩
   cases c4:decide (4<l[i].kind)
   case true=>
    simp only [go_sem,c1,c2,c3,c4];exact .mk _ (.refl _) (hs.new hid _) ⟨by rw [bad (by have:=V2 c4; simp [oT]; omega)]; rfl,rfl⟩
   simp only [go_sem,c1,c2,c3,c4];refine (mW _ _).pthen ?_;cases d2:bu l[i].arg
   ·simp only [go_sem]
    exact .mk _ (.refl _) (hs.new hid _) ⟨by rw [bad (by simp [oT,d2])]; rfl,rfl⟩
   ·simp only [go_sem,r14,w1]
    refine ⟨_, ?_,hs.new hid _,i+1,by omega,rfl, ?_, ?_, ?_, ?_⟩
    ·omega
    ·have f1:=V3 c1
     have f2:=V3 c2;have f3:=V3 c3;have f4:=V3 c4;rw [List.take_succ_eq_append_getElem hlt,List.all_append,hc]; simp [oT,d2]; omega
    all_goals simp only [go_sem,r12,r13,au]
  ·have hge:i=l.length:=by have:=V3 e; omega
   subst hge;rw [List.take_length] at hc;simp only [go_sem];exact .mk _ (.refl _) hs ⟨by simp [gH,e1,hc,ax],rfl⟩
theorem Ja (op:Int) (h:Heap):ak Tryz.prog 196 [.v (.int .i64 op)] h fun r h' =>r=(match gO op with
  |none=> .tup [.sl [] .no, .v (.bool false)]
  |some w=> .tup [.sl (w.map iX) .no, .v (.bool true)])∧h' =h:=by
 refine ak.body hU hm Tryz.func196 rfl (by kernel_rfl) 35 rfl [.tmp 2, .tmp 3] rfl (VZ rfl) (fun hwf=> ?_)
 cases k1:(op==1)
 case true=>
  have e1:op=1:=by simpa using k1
  simp only [go_sem,k1];exact .mk _ (eY _) (.refl _) ⟨by simp [gO,e1,ax,strip,fl],rfl⟩
 have n1:op≠1:=by simpa using k1
 cases k2:(op==2)
 case true=>
  have e1:op=2:=by simpa using k2
  simp only [go_sem,k1,k2];exact .mk _ (eY _) (.refl _) ⟨by simp [gO,e1,ax,strip,fl],rfl⟩
 have n2:op≠2:=by simpa using k2
 cases k3:(op==3)
 case true=>
  have e1:op=3:=by simpa using k3
  simp only [go_sem,k1,k2,k3];exact .mk _ (eY _) (.refl _) ⟨by simp [gO,e1,ax,strip,fl,iX],rfl⟩
 have n3:op≠3:=by simpa using k3
 cases k4:(op==4)
 case true=>
  have e1:op=4:=by simpa using k4
  simp only [go_sem,k1,k2,k3,k4];exact .mk _ (eY _) (.refl _) ⟨by simp [gO,e1,ax,strip,fl,iX],rfl⟩
 have n4:op≠4:=by simpa using k4
 cases k5:(op==5)
 case true=>
  have e1:op=5:=by simpa using k5
  simp only [go_sem,k1,k2,k3,k4,k5];exact .mk _ (eY _) (.refl _) ⟨by simp [gO,e1,ax,strip,fl,iX],rfl⟩
 have n5:op≠5:=by simpa using k5
 cases k11:(op==11)
 case true=>
  have e1:op=11:=by simpa using k11
  simp only [go_sem,k1,k2,k3,k4,k5,k11];exact .mk _ (eY _) (.refl _) ⟨by simp [gO,e1,ax,strip,fl,iX],rfl⟩
 have n11:op≠11:=by simpa using k11
 cases k6:decide (6≤op)
 ·have n6:=V3 k6
  simp only [go_sem,k1,k2,k3,k4,k5,k11,k6];exact .mk _ (eY _) (.refl _) ⟨by simp [gO,n1,n2,n3,n4,n5,n11,n6,ax,strip,fl],rfl⟩
 cases k13:decide (op≤13)
 ·have n13:=V3 k13
  simp only [go_sem,k1,k2,k3,k4,k5,k11,k6,k13];exact .mk _ (eY _) (.refl _) ⟨by simp [gO,n1,n2,n3,n4,n5,n11,n13,ax,strip,fl],rfl⟩
 have n6:=V2 k6;have n13:=V2 k13;simp only [go_sem,k1,k2,k3,k4,k5,k11,k6,k13];exact .mk _ (eY _) (.refl _) ⟨by simp [gO,n1,n2,n3,n4,n5,n11,n6,n13,ax,strip,fl,iX],rfl⟩
theorem E4 (n:aO) (h:Heap):ak Tryz.prog 197 [cZ n] h fun r h' =>r= .v (.bool (je n))∧h' =h:=by
 refine ak.body hU hm Tryz.func197 rfl (by kernel_rfl) 37 rfl [.tmp 2] rfl (VZ rfl) (fun hwf=> ?_)
 simp only [go_sem,cZ];intro id hid;have fa:∀x y z:Bool,(x && (y && (z && true)))=(x && (y && (z && true))):=fun _ _ _=>rfl
 cases k1:(n.op==1)
 case true=>
  have e1:n.op=1:=by simpa using k1
  simp only [go_sem,k1];refine (iT n.val _).pthen ?_;cases d0:cc n.val
  ·simp only [go_sem]
   exact .mk _ (.refl _) (.ai hid) ⟨by simp [je,e1,d0,ax],rfl⟩
  ·simp only [go_sem]
   exact .mk _ (.refl _) (.ai hid) ⟨by simp [je,e1,d0,ax,zeroAt],rfl⟩
 have n1:n.op≠1:=by simpa using k1
 cases k2:(n.op==2)
 case true=>
  have e1:n.op=2:=by simpa using k2
  simp only [go_sem,k1,k2];refine (DP n.attr _).pthen ?_;cases d0:nY n.attr
  ·simp only [go_sem]
   exact .mk _ (.refl _) (.ai hid) ⟨by simp [je,e1,d0,ax],rfl⟩
  ·simp only [go_sem]
   exact .mk _ (.refl _) (.ai hid) ⟨by simp [je,e1,d0,ax,zeroV],rfl⟩
 have n2:n.op≠2:=by simpa using k2
 cases d0:zeroV n.val
 ·have d1:=d0
  unfold zeroV at d1;simp only [go_sem,k1,k2,d1];exact .mk _ (.refl _) (.ai hid) ⟨by simp [je,n1,n2,d0,ax],rfl⟩
 ·have d1:=d0
  unfold zeroV at d1;simp only [go_sem,k1,k2,d1];exact .mk _ (.refl _) (.ai hid) ⟨by simp [je,n1,n2,d0,ax,zeroAt],rfl⟩
theorem u4:(U 4).sz=1:=by simp only [go_sem]
theorem u4a:(U 4).k.agg=false:=by simp only [go_sem]
theorem u4b:(U 4).bytes=1:=by simp only [go_sem]
theorem u4f:fit (U 4).zero 1:=by simp only [go_sem]
theorem u4n:bA (U 4).zero=false:=by simp only [go_sem]
theorem DR (l:List Bool):One (l.map iX):=One.map (fun _=>rfl) l
theorem Ko (y:AV) (st:List Bool) (n:aO) (h0 h:Heap) (hy:WrA 4 h0 h y (st.map iX)) (hl:st.length≤1000000):
  ak Tryz.prog 173 [y,cZ n] h fun r h' =>∃z,r= .tup [z, .v (.bool (gN st n).isSome)]∧match gN st n with
   |none=>Ab.Sub h0 h'
   |some st' =>WrA 4 h0 h' z (st'.map iX):=by
 refine ak.body hU hm Tryz.func173 rfl (by kernel_rfl) 60 rfl [.tmp 4, .tmp 5] rfl (VZ rfl) (fun hwf=> ?_)
 simp only [go_sem,cZ];intro id hid;simp only [go_sem];have hyb:=hy.base hid (some (.obj [.v (.int .i64 n.op), .v (.int .i64 n.val.kind), .v (.int .i64 n.val.n), .s n.val.s, .v (.int .i64 n.attr.cat), .s n.attr.name, .v (.bool n.attr.must)] 226));have hw:=Ja n.op (upd h id (some (.obj [.v (.int .i64 n.op), .v (.int .i64 n.val.kind), .v (.int .i64 n.val.n), .s n.val.s, .v (.int .i64 n.attr.cat), .s n.attr.name, .v (.bool n.attr.must)] 226)));cases hwd:gO n.op with
 |none=>
  rw [hwd] at hw;have hst:gN st n=none:=by simp [gN,hwd]
  refine hw.pthen ?_;simp only [go_sem];exact .mk _ (.refl _) (.ai hid) ⟨_,by rw [hst]; rfl,by rw [hst]; exact hy.1⟩
 |some w=>
  rw [hwd] at hw;have hwl:w.length≤2:=by
   unfold gO at hwd
   repeat' split at hwd
   all_goals first|(cases hwd; simp; done)|(cases hwd)
  refine hw.pthen ?_;simp only [go_sem];refine (E4 n _).pthen ?_;cases d1:je n
  ·have hst:gN st n=none:=by simp [gN,hwd,d1]
   simp only [go_sem];exact .mk _ (.refl _) (.ai hid) ⟨_,by rw [hst]; rfl,by rw [hst]; exact hy.1⟩
  cases d2:decide ((st.length:Int)<(w.length:Int))
  case true=>
   have e2:¬w.length≤st.length:=by have:=V2 d2; omega
   have hst:gN st n=none:=by simp [gN,hwd,d1,e2]
   simp only [go_sem,hyb.len,V0,d2];exact .mk _ (.refl _) (.ai hid) ⟨_,by rw [hst]; rfl,by rw [hst]; exact hy.1⟩
  have e2:w.length≤st.length:=by have:=V3 d2; omega
  have w1:IntKind.i64.wrap ((st.length:Int) - (w.length:Int))=((st.length - w.length:Nat):Int):=by rw [bx _ (by omega)]; omega
  obtain ⟨hb,ehb⟩:∃hb,upd h id (some (.obj [.v (.int .i64 n.op), .v (.int .i64 n.val.kind), .v (.int .i64 n.val.n), .s n.val.s, .v (.int .i64 n.attr.cat), .s n.attr.name, .v (.bool n.attr.must)] 226))=hb:=⟨_,rfl⟩;have hbid:hb id=some (.obj [.v (.int .i64 n.op), .v (.int .i64 n.val.kind), .v (.int .i64 n.val.n), .s n.val.s, .v (.int .i64 n.attr.cat), .s n.attr.name, .v (.bool n.attr.must)] 226):=by rw [←ehb]; exact ah ..
  have hsub:Ab.Sub h hb:=by rw [←ehb]; exact .ai hid
  rw [ehb] at hyb⊢;simp only [go_sem,hyb.len,V0,d2,w1];refine .intro (fun m ρ h' =>h' =hb∧∃i:Nat,i≤w.length∧m=w.length - i∧(∀j,j<i→st[st.length - w.length+j]? =w[j]?)∧lk ρ 0=some y∧lk ρ 3=some (.ptr id 0)∧lk ρ 8=some (.v (.int .i64 ((st.length - w.length:Nat):Int)))∧lk ρ 36=some (.sl (w.map iX) .no)∧lk ρ 37=some (.v (.int .i64 w.length))∧lk ρ 38=some (.v (.int .i64 i))) w.length ?_ ?_
  ·refine ⟨rfl,0,by omega,rfl,fun j hj=>(by omega), ?_, ?_, ?_, ?_, ?_, ?_⟩<;>simp only [go_sem]
  ·rintro m ρ h' ⟨rfl,i,hi,rfl,hc,r0,r3,r8,r36,r37,r38⟩
   simp only [go_sem,r37,r38];refine .intro (fun e=> ?_) (fun e=> ?_)
   ·have hlt:i<w.length:=V7 e
    have w2:=V6 i (by omega)
    have w3:IntKind.i64.wrap (((st.length - w.length:Nat):Int)+(i:Int))=((st.length - w.length+i:Nat):Int):=by rw [bx _ (by omega)]; omega
    have hlt2:st.length - w.length+i<st.length:=by omega
    simp only [go_sem,r36,r38];refine .at i (by simpa using hlt) (by rw [V1]; rfl) ?_
    simp only [go_sem,r0,r8,V1,iX,w3];refine hyb.idx (DR st) (st.length - w.length+i) rfl (by simpa using hlt2) u4 u4a fun p hp=> ?_
    simp only [go_sem,hp _,V1,iX];cases d3:(st[st.length - w.length+i]==w[i])
    ·have hst:gN st n=none:=by
      have:st.drop (st.length - w.length)≠w:=fun hh=>by
       have:=congrArg (fun q=>q[i]?) hh
       simp only [List.getElem?_drop,List.getElem?_eq_getElem hlt,List.getElem?_eq_getElem hlt2,Option.some.injEq] at this;rw [this] at d3; simp at d3
      simp [gN,hwd,this]
     simp only [go_sem];exact .mk _ (.refl _) hsub ⟨_,by rw [hst]; rfl,by rw [hst]; exact hy.1⟩
    ·simp only [go_sem,r38,w2]
     refine ⟨_, ?_,rfl,i+1,by omega,rfl,fun j hj=> ?_, ?_, ?_, ?_, ?_, ?_, ?_⟩
     ·omega
     ·by_cases hji:j=i
      ·subst hji
       rw [List.getElem?_eq_getElem hlt2,List.getElem?_eq_getElem hlt];simpa using d3
      ·exact hc j (by omega)
     all_goals simp only [go_sem,r0,r3,r8,r36,r37]
   ·have hge:i=w.length:=by have:=V3 e; omega
    subst hge;have hdrop:st.drop (st.length - w.length)=w:=by
     apply List.ext_getElem?;intro j;rw [List.getElem?_drop]
     by_cases hj:j<w.length
     ·exact hc j hj
     ·rw [List.getElem?_eq_none (by omega),List.getElem?_eq_none (by omega)]
    have hst:gN st n=some (st.take (st.length - w.length)++ [n.op==2]):=by
     simp [gN,hwd,d1,e2,hdrop]
    simp only [go_sem];refine .calls (hm1 id _) [0,1,2,3,4,5,6,7,8,9] (.hm1 hbid) (by kernel_rfl) rfl ?_
    simp only [go_sem,r0,r8];refine hyb.cut (x:= .i64) (st.length - w.length) (by simp only [go_sem]) rfl (by simp) u4 fun z hz=> ?_
    rw [←List.map_take] at hz;simp only [go_sem,r3,fJ];refine hz.app (zs:= [.v (.bool (n.op==2))]) (DR _) (DR [n.op==2]) u4 (by rw [u4b]; decide) u4f u4n (fun k hk=>hk) (by rw [u4b]; simp; omega) fun z' h2 hz' => ?_
    refine ⟨fun j b hj=>((Sub.hm1 (ah ..)).trans hz'.1) j b hj, ?_⟩
    simp only [go_sem];have hz2:=hz'.less (Sub.ai (hy.1.none hid));refine .same (.refl _) ⟨z',by rw [hst]; rfl, ?_⟩
    rw [hst];simp only [List.map_append];exact hz2
theorem Cw {l:List aO} (h:l.length≤32) (hs:fk [] l=none):jw l=1:=by
 simp [jw,hs,Nat.not_lt.2 h]
theorem jr (st:List Bool):∀(l:List aO) (i:Nat),fk st l=(match fk st (l.take i) with
  |none=>none
  |some st' =>fk st' (l.drop i))
 | [],i=>by simp [fk]
 |n::r,0=>by simp [fk]
 |n::r,i+1=>by
  simp only [List.take_succ_cons,List.drop_succ_cons,fk];cases gN st n with
  |none=>rfl
  |some st' =>simp only; exact jr st' r i
theorem qn (st st' :List Bool) (l:List aO) (h:fk st l=some st'):st'.length≤st.length+l.length:=by
 induction l generalizing st with
 |nil=>simp only [fk,Option.some.injEq] at h; subst h; simp
 |cons n r ih=>
  simp only [fk] at h;cases hs:gN st n with
  |none=>rw [hs] at h; cases h
  |some s2=>
   rw [hs] at h;have:=ih s2 h;unfold gN at hs;split at hs
   ·cases hs
   ·split at hs
    ·cases hs
     simp at this⊢;omega
    ·cases hs
theorem DX (l:List aO) (h:Heap):ak Tryz.prog 148 [eV l] h fun r h' =>r= .v (.int .i64 (jw l))∧h' =h:=by
 refine ak.body hU hm Tryz.func148 rfl (by kernel_rfl) 38 rfl [.tmp 2] rfl (VZ rfl) (fun hwf=> ?_)
 cases d1:decide (32<(l.length:Int))
 case true=>
  have e1:32<l.length:=by have:=V2 d1; omega
  simp only [go_sem,eV,V0,d1];exact .same (.refl _) ⟨by simp [jw,e1,ax],rfl⟩
 have e1:l.length≤32:=by have:=V3 d1; omega
 simp only [go_sem,eV,V0,d1];refine .intro (fun m ρ h' =>∃(i:Nat) (y:AV) (st:List Bool),WrA 4 h h' y (st.map iX)∧fk [] (l.take i)=some st∧i≤l.length∧m=l.length - i∧
  lk ρ 0=some (eV l)∧lk ρ 3=some y∧lk ρ 10=some (eV l)∧lk ρ 11=some (.v (.int .i64 l.length))∧lk ρ 12=some (.v (.int .i64 i))) l.length ?_ ?_
 ·refine ⟨0,_,[], .nil (.refl _),rfl,by omega,rfl, ?_, ?_, ?_, ?_, ?_⟩<;>simp only [go_sem,eV]
 ·rintro m ρ h' ⟨i,y,st,hy,hst,hi,rfl,r0,r3,r10,r11,r12⟩
  have hsl:=qn _ _ _ hst;have hsl:st.length≤i:=by simpa [Nat.min_eq_left hi] using hsl
  simp only [go_sem,r11,r12];refine .intro (fun e=> ?_) (fun e=> ?_)
  ·have hlt:i<l.length:=V7 e
   have w1:=V6 i (by omega)
   have hnx:fk [] (l.take (i+1))=gN st l[i]:=by
    rw [jr [] _ i,List.take_take,Nat.min_eq_left (by omega),hst,List.take_succ_eq_append_getElem hlt,List.drop_append_of_le_length (by simp; omega),List.drop_of_length_le (by simp; omega)]
    simp only [List.nil_append,fk];cases gN st l[i]<;>rfl
   simp only [go_sem,r10,r12,eV];refine .at i (by simpa using hlt) (by rw [V1]; rfl) ?_
   simp only [go_sem,V1,cZ];intro id hid;simp only [go_sem,r3];have hyb:=hy.sub (Sub.ai (k:=some (.obj [.v (.int .i64 l[i].op), .v (.int .i64 l[i].val.kind), .v (.int .i64 l[i].val.n), .s l[i].val.s, .v (.int .i64 l[i].attr.cat), .s l[i].attr.name, .v (.bool l[i].attr.must)] 226)) hid);refine (Ko y st l[i] h _ hyb (by omega)).mono fun r h2 ⟨z,e2,hz⟩=> ?_
   subst e2;cases hsd:gN st l[i] with
   |none=>
    rw [hsd] at hz;simp only [go_sem,Option.isSome_none];refine .mk _ (.refl _) hz ⟨?_,rfl⟩;rw [Cw e1 (by rw [jr [] l (i+1),hnx,hsd])]; rfl
   |some st' =>
    rw [hsd] at hz hnx;simp only [go_sem,r12,Option.isSome_some,w1];refine ⟨_, ?_,i+1,z,st',hz,hnx,by omega,rfl, ?_, ?_, ?_, ?_, ?_⟩
    ·omega
    all_goals simp only [go_sem,r0,r10,r11,eV]
  ·have hge:i=l.length:=by have:=V3 e; omega
   subst hge;rw [List.take_length] at hst;have he:jw l=if l= []∨st= [false] then 0 else 1:=by
    simp only [jw,hst];rw [if_neg (by omega)]
   cases d2:decide (0<(l.length:Int))
   ·have e2:l= []:=by have:=V3 d2; exact List.length_eq_zero_iff.1 (by omega)
    simp only [go_sem,r0,eV,V0,d2];exact .mk _ (.refl _) hy.1 ⟨by rw [he,if_pos (.inl e2)]; rfl,rfl⟩
   have e2:l≠ []:=by rintro rfl; simp at d2
   cases d3:((st.length:Int) !=1)
   case true=>
    have e3:st≠ [false]:=by rintro rfl; simp at d3
    simp only [go_sem,r0,r3,eV,V0,d2,hy.len,d3];exact .mk _ (.refl _) hy.1 ⟨by rw [he,if_neg (by simp [e2,e3])]; rfl,rfl⟩
   have e3:st.length=1:=by
    have:(st.length:Int)=1:=by simpa using d3
    omega
   obtain ⟨b,rfl⟩:=List.length_eq_one_iff.1 e3;simp only [go_sem,r0,r3,eV,V0,d2,hy.len];refine hy.idx (DR [b]) 0 rfl (by simp) u4 u4a fun p hp=> ?_
   simp only [go_sem,hp _,iX,List.getElem_cons_zero];cases b
   ·simp only [go_sem]
    exact .mk _ (.refl _) hy.1 ⟨by rw [he,if_pos (.inr rfl)]; rfl,rfl⟩
   ·simp only [go_sem]
    exact .mk _ (.refl _) hy.1 ⟨by rw [he,if_neg (by simp [e2])]; rfl,rfl⟩
def Keeps (S:List Nat) (h h' :Heap):Prop:=∀j k,j∉S→h j=some k→h' j=some k
theorem Keeps.trans {S:List Nat} {a b c:Heap} (x:Keeps S a b) (y:Keeps S b c):Keeps S a c:=fun j k hj e=>y j k hj (x j k hj e)
theorem Keeps.of {S:List Nat} {a b:Heap} (x:Ab.Sub a b):Keeps S a b:=fun j k _ e=>x j k e
theorem Keeps.upd {S:List Nat} {a:Heap} {i:Nat} {b:Option Blk} (hi:i∈S):Keeps S a (Ab.upd a i b):=fun j k hj e=>by
 rw [ag _ _ (fun e=>hj (by rw [e]; exact hi))]; exact e
def gp (h:Heap) (idw mid:Nat) (m:dQ):Prop:=h idw=some (.obj [.mp mid, .v (.int .i64 m.rules)] 158)∧h mid=some (.mp (xG m.met))∧(∀l∈m.met,l.length≤16)∧m.rules≤64
theorem gp.ne {h:Heap} {idw mid:Nat} {m:dQ} (hw:gp h idw mid m):idw≠mid:=fun e=>by
 have h1:=hw.1; have h2:=hw.2.1
 rw [e,h2] at h1; cases h1
theorem gp.keep {h h' :Heap} {idw mid:Nat} {m:dQ} (hw:gp h idw mid m) (hs:Ab.Sub h h'):gp h' idw mid m:=⟨hs _ _ hw.1,hs _ _ hw.2.1,hw.2.2⟩
theorem RS:(U 256).sz=0:=by simp only [go_sem]
theorem C6 {s:Txt} (h:bu s=true):s.length≤16:=by
 simp [bu] at h; exact h.2
theorem wh {m:dQ} {s:Txt} (h:s∈m.met∨bu s=false):iE m s=none:=by
 unfold iE;rw [if_neg]
 rintro ⟨h1,h2⟩
 rcases h with h|h
 ·exact h1 h
 ·rw [h] at h2; cases h2
theorem Cg (idw mid:Nat) (m:dQ) (s:Txt) (h:Heap) (hw:gp h idw mid m):ak Tryz.prog 145 [.ptr idw 0, .s s] h fun r h' =>match iE m s with
  |none=>r= .v (.bool false)∧Ab.Sub h h'
  |some m' =>r= .v (.bool true)∧Keeps [idw,mid] h h'∧gp h' idw mid m' :=by
 refine ak.body hU hm Tryz.func145 rfl (by kernel_rfl) 28 rfl [.tmp 4] rfl (VZ rfl) (fun hwf=> ?_)
 obtain ⟨w1,w2,w3,w4⟩:=hw;have hlen:s.length≤maxLen:=by
  have:=hwf (.s s) (by simp)
  simp only [wfA,wf1,lim] at this;unfold maxLen; omega
 have hkeys:xT .str (xG m.met):=FC fun l hl=>by have:=w3 l hl; unfold maxLen; omega
 simp only [go_sem,w1,w2];refine ⟨hlen, .inr (by simp only [go_sem]),hkeys, ?_⟩
 rw [FE _ _ RS];simp only [go_sem];intro idv hidv;simp only [go_sem];cases d1:decide (s∈m.met)
 case true=>
  have hm:=wh (.inl (V2 d1));simp only [go_sem];rw [hm];exact .mk _ (.refl _) (.ai hidv) ⟨rfl, .refl _⟩
 have e1:=V3 d1;simp only [go_sem];refine (mW _ _).pthen ?_;cases d2:bu s
 ·have hm:=wh (m:=m) (.inr d2)
  simp only [go_sem];rw [hm];exact .mk _ (.refl _) (.ai hidv) ⟨rfl, .refl _⟩
 have hm:iE m s=some ⟨m.met++ [s],m.rules⟩:=by simp [iE,e1,d2]
 have hne:=gp.ne ⟨w1,w2,w3,w4⟩;have n1:idw≠idv:=fun e=>by rw [e,hidv] at w1; cases w1
 have n2:mid≠idv:=fun e=>by rw [e,hidv] at w2; cases w2
 have w1' :upd h idv (some (.obj [] 256)) idw=some (.obj [.mp mid, .v (.int .i64 m.rules)] 158):=by rw [ag _ _ n1]; exact w1
 have w2' :upd h idv (some (.obj [] 256)) mid=some (.mp (xG m.met)):=by rw [ag _ _ n2]; exact w2
 simp only [go_sem,w1',w2'];refine ⟨hlen,hkeys, ?_⟩;rw [IQ e1];rw [hm];refine .same (.refl _) ⟨rfl,(Keeps.of (.ai hidv)).trans (.upd (by simp)), ?_, ?_, ?_,w4⟩
 ·rw [ag _ _ hne]; exact w1'
 ·rw [ah]
 ·intro l hl
  rcases List.mem_append.1 hl with hl|hl
  ·exact w3 l hl
  ·rw [List.mem_singleton.1 hl]; exact C6 d2
theorem Je (idw mid:Nat) (m:dQ) (r:cO) (h:Heap) (hw:gp h idw mid m):ak Tryz.prog 113 [.ptr idw 0,aB r] h fun x h' =>x= .v (.int .i64 (fT m r).err)∧Keeps [idw,mid] h h'∧∀m',fT m r= .ok m'→gp h' idw mid m' :=by
 refine ak.body hU hm Tryz.func113 rfl (by kernel_rfl) 39 rfl [.tmp 4] rfl (VZ rfl) (fun hwf=> ?_)
 simp only [go_sem,aB,aT,eV,au];intro id hid;have n1:idw≠id:=fun e=>by have:=hw.1; rw [e,hid] at this; cases this
 have n2:mid≠id:=fun e=>by have:=hw.2.1; rw [e,hid] at this; cases this
 have hwb:=hw.keep (Sub.ai (k:=some (.obj [.s r.id, .v (.bool r.deny), .sl (r.tgt.map cH) .no, .sl (r.cond.map cZ) .no, .sl (r.obls.map bf) .no] 164)) hid);have hk0:Keeps [idw,mid] h (upd h id (some (.obj [.s r.id, .v (.bool r.deny), .sl (r.tgt.map cH) .no, .sl (r.cond.map cZ) .no, .sl (r.obls.map bf) .no] 164))):= .of (.ai hid);simp only [go_sem];obtain ⟨hb,ehb⟩:∃hb,upd h id (some (.obj [.s r.id, .v (.bool r.deny), .sl (r.tgt.map cH) .no, .sl (r.cond.map cZ) .no, .sl (r.obls.map bf) .no] 164))=hb:=⟨_,rfl⟩;have hbid:hb id=some (.obj [.s r.id, .v (.bool r.deny), .sl (r.tgt.map cH) .no, .sl (r.cond.map cZ) .no, .sl (r.obls.map bf) .no] 164):=by rw [←ehb]; exact ah ..
 rw [ehb] at hwb hk0⊢;refine (Cg idw mid m r.id hb hwb).mono fun x h2 hx=> ?_
 cases hm:iE m r.id with
 |none=>
  rw [hm] at hx;obtain ⟨rfl,hs⟩:=hx;have hr:fT m r= .bad 1:=by simp [fT,hm]
  simp only [go_sem];exact .same (.refl _) ⟨by rw [hr]; rfl,hk0.trans (.of hs),fun m' h' =>by rw [hr] at h'; cases h'⟩
 |some m1=>
  rw [hm] at hx;obtain ⟨rfl,hk,hw2⟩:=hx;have g2:=hw2.1;have hle:=hw2.2.2.2;have hid2:h2 id=some (.obj [.s r.id, .v (.bool r.deny), .sl (r.tgt.map cH) .no, .sl (r.cond.map cZ) .no, .sl (r.obls.map bf) .no] 164):=hk id _ (by simp [n1.symm,n2.symm]) hbid
  have w1:IntKind.i64.wrap ((m1.rules:Int)+1)=((m1.rules+1:Nat):Int):=by rw [bx _ (by omega)]; omega
  have hk3:Keeps [idw,mid] h (upd h2 idw (some (.obj [.mp mid, .v (.int .i64 ((m1.rules+1:Nat):Int))] 158))):=(hk0.trans hk).trans (.upd (by simp))
  have hid3:upd h2 idw (some (.obj [.mp mid, .v (.int .i64 ((m1.rules+1:Nat):Int))] 158)) id=some (.obj [.s r.id, .v (.bool r.deny), .sl (r.tgt.map cH) .no, .sl (r.cond.map cZ) .no, .sl (r.obls.map bf) .no] 164):=by
   rw [ag _ _ n1.symm]; exact hid2
  cases d1:decide (64<((m1.rules+1:Nat):Int))
  case true=>
   have e1:m1.rules+1>64:=by have:=V2 d1; omega
   have hr:fT m r= .bad 6:=by simp [fT,hm,e1]
   simp only [go_sem,g2,w1,d1];exact .same (.refl _) ⟨by rw [hr]; rfl,hk3,fun m' h' =>by rw [hr] at h'; cases h'⟩
  have e1:¬m1.rules+1>64:=by have:=V3 d1; omega
  have hr:fT m r=need (j9 r.tgt) (need (jw r.cond) (need (gH r.obls) (.ok ⟨m1.met,m1.rules+1⟩))):=by simp [fT,hm,e1]
  simp only [go_sem,g2,w1,d1,hid3];refine (s7 r.tgt _).pthen ?_;cases d2:(j9 r.tgt !=0)
  case true=>
   have e2:j9 r.tgt≠0:=by simpa using d2
   have hr:fT m r= .bad (j9 r.tgt):=by rw [hr]; simp [need,e2]
   simp only [go_sem,d2];exact .same (.refl _) ⟨by rw [hr]; rfl,hk3,fun m' h' =>by rw [hr] at h'; cases h'⟩
  have e2:j9 r.tgt=0:=by simpa using d2
  rw [need,if_pos e2] at hr;simp only [go_sem,d2,hid3];refine (DX r.cond _).pthen ?_;cases d3:(jw r.cond !=0)
  case true=>
   have e3:jw r.cond≠0:=by simpa using d3
   have hr:fT m r= .bad (jw r.cond):=by rw [hr]; simp [need,e3]
   simp only [go_sem,d3];exact .same (.refl _) ⟨by rw [hr]; rfl,hk3,fun m' h' =>by rw [hr] at h'; cases h'⟩
  have e3:jw r.cond=0:=by simpa using d3
  rw [need,if_pos e3] at hr;simp only [go_sem,d3,hid3];refine (zS r.obls _).pthen ?_;simp only [go_sem]
  by_cases e4:gH r.obls=0
  ·rw [need,if_pos e4] at hr
   refine .same (.refl _) ⟨by rw [hr,e4]; rfl,hk3,fun m' h' => ?_⟩
   rw [hr] at h';cases h';refine ⟨ah .., ?_,hw2.2.2.1,by show m1.rules+1≤64; omega⟩
   rw [ag _ _ hw2.ne.symm]; exact hw2.2.1
  ·rw [need,if_neg e4] at hr
   exact .same (.refl _) ⟨by rw [hr]; rfl,hk3,fun m' h' =>by rw [hr] at h'; cases h'⟩
theorem vN {m:dQ} {id:Txt} {set:Bool} {alg:Int} {tgt:fP} {nr nk:Nat} {obls:List cw} (h:iE m id=none):eO m id set alg tgt nr nk obls= .bad 1:=by
 simp [eO,h]
theorem Jc (idw mid:Nat) (m:dQ) (id:Txt) (set:Bool) (alg:Int) (tgt:fP) (rules:List cO) (kids:List bG) (obls:List cw) (h:Heap) (hw:gp h idw mid m):
  ak Tryz.prog 112 [.ptr idw 0,aK (.mk id set alg tgt rules kids obls)] h fun x h' =>x= .v (.int .i64 (eO m id set alg tgt rules.length kids.length obls).err)∧Keeps [idw,mid] h h'∧∀m',eO m id set alg tgt rules.length kids.length obls= .ok m'→gp h' idw mid m' :=by
 refine ak.body hU hm Tryz.func112 rfl (by kernel_rfl) 68 rfl [.tmp 4] rfl (VZ rfl) (fun hwf=> ?_)
 simp -implicitDefEqProofs only [go_sem,aK,aT,au];intro ip hip;have n1:idw≠ip:=fun e=>by have:=hw.1; rw [e,hip] at this; cases this
 have n2:mid≠ip:=fun e=>by have:=hw.2.1; rw [e,hip] at this; cases this
 have hwb:=hw.keep (Sub.ai (k:=some (.obj [.s id, .v (.bool set), .v (.int .i64 alg), .sl (tgt.map cH) .no, .sl (rules.map aB) .no, .sl (fh kids) .no, .sl (obls.map bf) .no] 37)) hip);have hk0:Keeps [idw,mid] h (upd h ip (some (.obj [.s id, .v (.bool set), .v (.int .i64 alg), .sl (tgt.map cH) .no, .sl (rules.map aB) .no, .sl (fh kids) .no, .sl (obls.map bf) .no] 37))):= .of (.ai hip);simp -implicitDefEqProofs only [go_sem];obtain ⟨hb,ehb⟩:∃hb,upd h ip (some (.obj [.s id, .v (.bool set), .v (.int .i64 alg), .sl (tgt.map cH) .no, .sl (rules.map aB) .no, .sl (fh kids) .no, .sl (obls.map bf) .no] 37))=hb:=⟨_,rfl⟩;have hbip:hb ip=some (.obj [.s id, .v (.bool set), .v (.int .i64 alg), .sl (tgt.map cH) .no, .sl (rules.map aB) .no, .sl (fh kids) .no, .sl (obls.map bf) .no] 37):=by rw [←ehb]; exact ah ..
 rw [ehb] at hwb hk0⊢;refine (Cg idw mid m id hb hwb).mono fun x h2 hx=> ?_
 cases hm:iE m id with
 |none=>
  rw [hm] at hx;obtain ⟨rfl,hs⟩:=hx;simp -implicitDefEqProofs only [go_sem];exact .same (.refl _) ⟨by rw [vN hm]; rfl,hk0.trans (.of hs),fun m' h' =>by rw [vN hm] at h'; cases h'⟩
 |some m1=>
  rw [hm] at hx;obtain ⟨rfl,hk,hw2⟩:=hx;have hip2:h2 ip=some (.obj [.s id, .v (.bool set), .v (.int .i64 alg), .sl (tgt.map cH) .no, .sl (rules.map aB) .no, .sl (fh kids) .no, .sl (obls.map bf) .no] 37):=hk ip _ (by simp [n1.symm,n2.symm]) hbip
  have hkk:=hk0.trans hk;have bad:∀e,eO m id set alg tgt rules.length kids.length obls= .bad e→(.v (.int .i64 e):AV)= .v (.int .i64 (eO m id set alg tgt rules.length kids.length obls).err)∧Keeps [idw,mid] h h2∧∀m',eO m id set alg tgt rules.length kids.length obls= .ok m'→gp h2 idw mid m' :=
   fun e he=>⟨by rw [he]; rfl,hkk,fun m' h' =>by rw [he] at h'; cases h'⟩
  cases d1:decide (alg<1)
  case true=>
   have e1:=V2 d1;simp -implicitDefEqProofs only [go_sem,d1,hip2];exact .same (.refl _) (bad 1 (by simp [eO,hm,e1]))
  cases d2:decide (6<alg)
  case true=>
   have e2:=V2 d2;simp -implicitDefEqProofs only [go_sem,d1,d2,hip2];exact .same (.refl _) (bad 1 (by simp [eO,hm,e2]))
  have e1:¬(alg<1∨alg>6):=by have:=V3 d1; have:=V3 d2; omega
  have tail:∀(z:Unit),¬(set=true∧rules.length>0∨set=false∧(kids.length>0∨alg=4))→eO m id set alg tgt rules.length kids.length obls=need (j9 tgt) (need (gH obls) (if rules.length>16∨kids.length>16 then .bad 6 else .ok m1)):=fun _ hh=>by
   simp only [eO,hm];rw [if_neg e1,if_neg hh]
  cases set
  ·cases d4:decide (0<(kids.length:Int))
   case true=>
    have f4:0<kids.length:=by have:=V2 d4; omega
    simp -implicitDefEqProofs only [go_sem,d1,d2,hip2,aV,V0,d4];exact .same (.refl _) (bad 1 (by simp [eO,hm,e1,f4]))
   have g4:¬0<kids.length:=by have:=V3 d4; omega
   cases d5:(alg==4)
   case true=>
    have f5:alg=4:=by simpa using d5
    simp -implicitDefEqProofs only [go_sem,d1,d2,hip2,aV,V0,d4,d5];exact .same (.refl _) (bad 1 (by simp [eO,hm,f5]))
   have g5:alg≠4:=by simpa using d5
   simp -implicitDefEqProofs only [go_sem,d1,d2,hip2,aV,V0,d4,d5];have e3:=tail () (by simp [g4,g5])
   refine (s7 tgt _).pthen ?_;cases t1:(j9 tgt !=0)
   case true=>
    have f1:j9 tgt≠0:=by simpa using t1
    simp -implicitDefEqProofs only [go_sem,t1];exact .same (.refl _) (bad _ (by rw [e3]; simp [need,f1]))
   have f1:j9 tgt=0:=by simpa using t1
   simp -implicitDefEqProofs only [go_sem,t1,hip2];refine (zS obls _).pthen ?_;cases t2:(gH obls !=0)
   case true=>
    have f2:gH obls≠0:=by simpa using t2
    simp -implicitDefEqProofs only [go_sem,t2];exact .same (.refl _) (bad _ (by rw [e3]; simp [need,f1,f2]))
   have f2:gH obls=0:=by simpa using t2
   cases t3:decide (16<(rules.length:Int))
   case true=>
    have f3:16<rules.length:=by have:=V2 t3; omega
    simp -implicitDefEqProofs only [go_sem,t2,hip2,V0,t3];exact .same (.refl _) (bad _ (by rw [e3]; simp [need,f1,f2,f3]))
   have f3:¬16<rules.length:=by have:=V3 t3; omega
   cases t4:decide (16<(kids.length:Int))
   case true=>
    have f4:16<kids.length:=by have:=V2 t4; omega
    simp -implicitDefEqProofs only [go_sem,t2,hip2,V0,t3,aV,t4];exact .same (.refl _) (bad _ (by rw [e3]; simp [need,f1,f2,f4]))
   have f4:¬16<kids.length:=by have:=V3 t4; omega
   simp -implicitDefEqProofs only [go_sem,t2,hip2,V0,t3,aV,t4];have e4:eO m id false alg tgt rules.length kids.length obls= .ok m1:=by rw [e3]; simp [need,f1,f2,f3,f4]
   exact .same (.refl _) ⟨by rw [e4]; rfl,hkk,fun m' h' =>by rw [e4] at h'; cases h'; exact hw2⟩
  ·cases d3:decide (0<(rules.length:Int))
   case true=>
    have f3:0<rules.length:=by have:=V2 d3; omega
    simp -implicitDefEqProofs only [go_sem,d1,d2,hip2,V0,d3];exact .same (.refl _) (bad 1 (by simp [eO,hm,e1,f3]))
   have g3:¬0<rules.length:=by have:=V3 d3; omega
   simp -implicitDefEqProofs only [go_sem,d1,d2,hip2,V0,d3];have e3:=tail () (by simp [g3])
   refine (s7 tgt _).pthen ?_;cases t1:(j9 tgt !=0)
   case true=>
    have f1:j9 tgt≠0:=by simpa using t1
    simp -implicitDefEqProofs only [go_sem,t1];exact .same (.refl _) (bad _ (by rw [e3]; simp [need,f1]))
   have f1:j9 tgt=0:=by simpa using t1
   simp -implicitDefEqProofs only [go_sem,t1,hip2];refine (zS obls _).pthen ?_;cases t2:(gH obls !=0)
   case true=>
    have f2:gH obls≠0:=by simpa using t2
    simp -implicitDefEqProofs only [go_sem,t2];exact .same (.refl _) (bad _ (by rw [e3]; simp [need,f1,f2]))
   have f2:gH obls=0:=by simpa using t2
   cases t3:decide (16<(rules.length:Int))
   case true=>
    have f3:16<rules.length:=by have:=V2 t3; omega
    simp -implicitDefEqProofs only [go_sem,t2,hip2,V0,t3];exact .same (.refl _) (bad _ (by rw [e3]; simp [need,f1,f2,f3]))
   have f3:¬16<rules.length:=by have:=V3 t3; omega
   cases t4:decide (16<(kids.length:Int))
   case true=>
    have f4:16<kids.length:=by have:=V2 t4; omega
    simp -implicitDefEqProofs only [go_sem,t2,hip2,V0,t3,aV,t4];exact .same (.refl _) (bad _ (by rw [e3]; simp [need,f1,f2,f4]))
   have f4:¬16<kids.length:=by have:=V3 t4; omega
   simp -implicitDefEqProofs only [go_sem,t2,hip2,V0,t3,aV,t4];have e4:eO m id true alg tgt rules.length kids.length obls= .ok m1:=by rw [e3]; simp [need,f1,f2,f3,f4]
   exact .same (.refl _) ⟨by rw [e4]; rfl,hkk,fun m' h' =>by rw [e4] at h'; cases h'; exact hw2⟩
theorem It (k:bG):(aK k).cells.length=7:=by
 cases k; simp [aK,AV.cells]
theorem pN {m:dQ} {d:Nat} {p:bG} (h:4<d):jI m d p= .bad 6:=by
 cases p; simp [jI,h]
theorem sV {m:dQ} {d:Nat} {id:Txt} {set:Bool} {alg:Int} {tgt:fP} {rules:List cO} {kids:List bG} {obls:List cw} {e:Int} (h:¬4<d)
  (hh:eO m id set alg tgt rules.length kids.length obls= .bad e):jI m d (.mk id set alg tgt rules kids obls)= .bad e:=by
 simp [jI,h,hh]
theorem wJ {m m1:dQ} {d:Nat} {id:Txt} {set:Bool} {alg:Int} {tgt:fP} {rules:List cO} {kids:List bG} {obls:List cw} {e:Int} (h:¬4<d)
  (hh:eO m id set alg tgt rules.length kids.length obls= .ok m1) (hr:eD m1 rules= .bad e):jI m d (.mk id set alg tgt rules kids obls)= .bad e:=by
 simp [jI,h,hh,hr]
theorem yH {m m1 m2:dQ} {d:Nat} {id:Txt} {set:Bool} {alg:Int} {tgt:fP} {rules:List cO} {kids:List bG} {obls:List cw} (h:¬4<d)
  (hh:eO m id set alg tgt rules.length kids.length obls= .ok m1) (hr:eD m1 rules= .ok m2):jI m d (.mk id set alg tgt rules kids obls)=gG m2 (d+1) kids:=by
 simp [jI,h,hh,hr]
theorem rR:∀(n d:Nat) (m:dQ) (p:bG) (e:Int),d+n=5→jI m d p= .bad e→e≠0
 |0,d,m,p,e,hd,h=>by rw [pN (by omega)] at h; cases h; decide
 |n+1,d,m, .mk id set alg tgt rules kids obls,e,hd,h=>by
  by_cases h4:4<d
  ·rw [pN h4] at h; cases h; decide
  cases hh:eO m id set alg tgt rules.length kids.length obls with
  |bad e' =>rw [sV h4 hh] at h; cases h; exact yl hh
  |ok m1=>
   cases hr:eD m1 rules with
   |bad e' =>
    rw [wJ h4 hh hr] at h; cases h
    clear hh hd
    induction rules generalizing m1 with
    |nil=>cases hr
    |cons r l ih=>
     simp only [eD] at hr;cases hx:fT m1 r with
     |bad x=>rw [hx] at hr; cases hr; exact yP hx
     |ok m2=>rw [hx] at hr; exact ih m2 hr
   |ok m2=>
    rw [yH h4 hh hr] at h;have ih:=fun m p e=>rR n (d+1) m p e (by omega)
    clear hh hr
    induction kids generalizing m2 with
    |nil=>cases h
    |cons k l ihk=>
     simp only [gG] at h;cases hx:jI m2 (d+1) k with
     |bad x=>rw [hx] at h; cases h; exact ih _ _ _ hx
     |ok m3=>rw [hx] at h; exact ihk m3 h
theorem Ef {e:Int} {w:Went} {m:dQ} (h:need e w= .ok m):e=0∧w= .ok m:=by
 unfold need at h;split at h
 ·exact ⟨by assumption,h⟩
 ·cases h
theorem Hw {m m1:dQ} {id:Txt} {set:Bool} {alg:Int} {tgt:fP} {nr nk:Nat} {obls:List cw} (h:eO m id set alg tgt nr nk obls= .ok m1):
  iE m id=some m1∧1≤alg∧alg≤6∧(set=true→nr=0)∧(set=false→nk=0∧alg≠4)∧j9 tgt=0∧gH obls=0∧nr≤16∧nk≤16:=by
 unfold eO at h;split at h
 ·cases h
 rename_i m2 hm
 split at h
 ·cases h
 split at h
 ·cases h
 rename_i h1 h2
 obtain ⟨h3,h⟩:=Ef h;obtain ⟨h4,h⟩:=Ef h;split at h
 ·cases h
 cases h;have h5:(set=true→nr=0)∧(set=false→nk=0∧alg≠4):=by
  cases set<;>simp at h2⊢<;>omega
 exact ⟨hm,by omega,by omega,h5.1,h5.2,h3,h4,by omega,by omega⟩
theorem EB:∀(n d:Nat),d+n=5→∀(idw mid:Nat) (m:dQ) (p:bG) (h:Heap),gp h idw mid m→
  ak Tryz.prog 79 [.ptr idw 0,aK p, .v (.int .i64 d)] h fun x h' =>x= .v (.int .i64 (jI m d p).err)∧Keeps [idw,mid] h h'∧∀m',jI m d p= .ok m'→gp h' idw mid m'
 |n,d,hd,idw,mid,m, .mk id set alg tgt rules kids obls,h,hw=>by
  refine ak.body hU hm Tryz.func79 rfl (by kernel_rfl) 52 rfl [.tmp 6] rfl (VZ rfl) (fun hwf=> ?_)
  simp only [go_sem,aK,aT,au];intro ip hip;have n1:idw≠ip:=fun e=>by have:=hw.1; rw [e,hip] at this; cases this
  have n2:mid≠ip:=fun e=>by have:=hw.2.1; rw [e,hip] at this; cases this
  have hwb:=hw.keep (Sub.ai (k:=some (.obj [.s id, .v (.bool set), .v (.int .i64 alg), .sl (tgt.map cH) .no, .sl (rules.map aB) .no, .sl (fh kids) .no, .sl (obls.map bf) .no] 37)) hip);have hk0:Keeps [idw,mid] h (upd h ip (some (.obj [.s id, .v (.bool set), .v (.int .i64 alg), .sl (tgt.map cH) .no, .sl (rules.map aB) .no, .sl (fh kids) .no, .sl (obls.map bf) .no] 37))):= .of (.ai hip);obtain ⟨hb,ehb⟩:∃hb,upd h ip (some (.obj [.s id, .v (.bool set), .v (.int .i64 alg), .sl (tgt.map cH) .no, .sl (rules.map aB) .no, .sl (fh kids) .no, .sl (obls.map bf) .no] 37))=hb:=⟨_,rfl⟩;have hbip:hb ip=some (.obj [.s id, .v (.bool set), .v (.int .i64 alg), .sl (tgt.map cH) .no, .sl (rules.map aB) .no, .sl (fh kids) .no, .sl (obls.map bf) .no] 37):=by rw [←ehb]; exact ah ..
  rw [ehb] at hwb hk0⊢;cases d0:decide (4<(d:Int))
  case true=>
   have e0:4<d:=by have:=V2 d0; omega
   simp only [go_sem,d0];exact .same (.refl _) ⟨by rw [pN e0]; rfl,hk0,fun m' h' =>by rw [pN e0] at h'; cases h'⟩
  have e0:¬4<d:=by have:=V3 d0; omega
  simp only [go_sem,d0,hbip];have hhead:=Jc idw mid m id set alg tgt rules kids obls hb hwb;simp only [aK,aT,au] at hhead;refine hhead.mono fun x h2 ⟨ex,hk,hw2⟩=> ?_
  subst ex;have hk2:=hk0.trans hk;cases hh:eO m id set alg tgt rules.length kids.length obls with
  |bad e=>
   have hne:=yl hh;have t1:(e !=0)=true:=by simpa using hne
   simp only [go_sem,Went.err,t1];exact .same (.refl _) ⟨by rw [sV e0 hh]; rfl,hk2,fun m' h' =>by rw [sV e0 hh] at h'; cases h'⟩
  |ok m1=>
   have hw2:=hw2 _ hh;have hle:=(Hw hh).2.2.2.2.2.2.2;have hip2:=hk ip _ (by simp [n1.symm,n2.symm]) hbip
   simp only [go_sem,Went.err,hip2,V0];refine .intro (fun k ρ h' =>∃(i:Nat) (mi:dQ),i≤rules.length∧k=rules.length - i∧eD m1 (rules.take i)= .ok mi∧Keeps [idw,mid] h h'∧gp h' idw mid mi∧
    h' ip=some (.obj [.s id, .v (.bool set), .v (.int .i64 alg), .sl (tgt.map cH) .no, .sl (rules.map aB) .no, .sl (fh kids) .no, .sl (obls.map bf) .no] 37)∧
    lk ρ 0=some (.ptr idw 0)∧lk ρ 2=some (.v (.int .i64 d))∧lk ρ 4=some (.ptr ip 0)∧lk ρ 23=some (.sl (rules.map aB) .no)∧lk ρ 24=some (.v (.int .i64 rules.length))∧lk ρ 25=some (.v (.int .i64 i))) rules.length ?_ ?_
   ·refine ⟨0,m1,by omega,rfl,rfl,hk2,hw2,hip2, ?_, ?_, ?_, ?_, ?_, ?_⟩<;>simp only [go_sem]
   ·rintro k ρ h' ⟨i,mi,hi,rfl,hri,hki,hwi,hipi,r0,r2,r4,r23,r24,r25⟩
    simp only [go_sem,r24,r25];refine .intro (fun e=> ?_) (fun e=> ?_)
    ·have hlt:i<rules.length:=V7 e
     have w1:=V6 i (by omega)
     simp only [go_sem,r23,r25];refine .at i (by simpa using hlt) (by rw [V1]; rfl) ?_
     simp only [go_sem,V1,aB];intro ir hir;have hrl:=Je idw mid mi rules[i] _ (hwi.keep (Sub.ai (k:=some (.obj [.s rules[i].id, .v (.bool rules[i].deny),aT rules[i].tgt,eV rules[i].cond,au rules[i].obls] 164)) hir));simp only [aB] at hrl;simp only [go_sem,r0];refine hrl.mono fun x h3 ⟨ex,hk3,hw3⟩=> ?_
     subst ex;have hk4:=(hki.trans (.of (Sub.ai hir))).trans hk3;have hip3:=hk3 ip _ (by simp [n1.symm,n2.symm]) ((Sub.ai hir) _ _ hipi)
     cases hx:fT mi rules[i] with
     |bad x=>
      have t1:(x !=0)=true:=by simpa using yP hx
      simp only [go_sem,Went.err,t1];have hp:=wJ (d:=d) (kids:=kids) e0 hh (BW hlt hri hx);exact .same (.refl _) ⟨by rw [hp]; rfl,hk4,fun m' h' =>by rw [hp] at h'; cases h'⟩
     |ok m3=>
      simp only [go_sem,r25,Went.err,w1];refine ⟨_, ?_,i+1,m3,by omega,rfl,by rw [uf hlt hri,hx],hk4,hw3 _ hx,hip3, ?_, ?_, ?_, ?_, ?_, ?_⟩
      ·omega
      all_goals simp only [go_sem,r0,r2,r4,r23,r24]
    ·have hge:i=rules.length:=by have:=V3 e; omega
     subst hge;rw [List.take_length] at hri;have hpk:=yH (d:=d) (kids:=kids) e0 hh hri;simp only [go_sem,r4,hipi,aV,V0];refine .intro (fun k ρ h' =>∃(i:Nat) (mj:dQ),i≤kids.length∧k=kids.length - i∧gG mi (d+1) (kids.take i)= .ok mj∧Keeps [idw,mid] h h'∧gp h' idw mid mj∧
      lk ρ 0=some (.ptr idw 0)∧lk ρ 2=some (.v (.int .i64 d))∧lk ρ 37=some (.sl (kids.map aK) .no)∧lk ρ 38=some (.v (.int .i64 kids.length))∧lk ρ 39=some (.v (.int .i64 i))) kids.length ?_ ?_
     ·refine ⟨0,mi,by omega,rfl,rfl,hki,hwi, ?_, ?_, ?_, ?_, ?_⟩<;>simp only [go_sem,r0,r2]
     ·rintro k ρ h' ⟨i,mj,hi,rfl,hkj,hki,hwi,r0,r2,r37,r38,r39⟩
      simp only [go_sem,r38,r39];refine .intro (fun e=> ?_) (fun e=> ?_)
      ·have hlt:i<kids.length:=V7 e
       have w1:=V6 i (by omega)
       have w2:=V6 d (by omega)
       obtain ⟨n',rfl⟩:∃n',n=n' +1:=⟨n - 1,by omega⟩
       have hrec:=EB n' (d+1) (by omega) idw mid mj kids[i]
       cases hki' :kids[i] with
       |mk kid kset kalg ktgt krules kkids kobls=>
       rw [hki'] at hrec;simp only [aK,aT,au] at hrec;simp only [go_sem,r37,r39];refine .at i (by simpa using hlt) (by rw [V1]; exact It _) ?_
       simp only [go_sem,V1,hki',aK,aT,au];intro ir hir;simp only [go_sem,r0,r2,w2];refine (hrec _ (hwi.keep (Sub.ai hir))).mono fun x h3 ⟨ex,hk3,hw3⟩=> ?_
       subst ex;have hk4:=(hki.trans (.of (Sub.ai hir))).trans hk3;cases hx:jI mj (d+1) (.mk kid kset kalg ktgt krules kkids kobls) with
       |bad x=>
        have t1:(x !=0)=true:=by simpa using rR n' (d+1) _ _ _ (by omega) hx
        simp only [go_sem,Went.err,t1];have hp:=C1 hlt hkj (by rw [hki']; exact hx)
        exact .same (.refl _) ⟨by rw [hpk,hp]; rfl,hk4,fun m' h' =>by rw [hpk,hp] at h'; cases h'⟩
       |ok m3=>
        simp only [go_sem,r39,Went.err,w1];refine ⟨_, ?_,i+1,m3,by omega,rfl,by rw [vS hlt hkj,hki',hx],hk4,hw3 _ hx, ?_, ?_, ?_, ?_, ?_⟩
        ·omega
        all_goals simp only [go_sem,r0,r2,r37,r38]
      ·have hge:i=kids.length:=by have:=V3 e; omega
       subst hge;rw [List.take_length] at hkj;simp only [go_sem];exact .same (.refl _) ⟨by rw [hpk,hkj]; rfl,hki,fun m' h' =>by rw [hpk,hkj] at h'; cases h'; exact hwi⟩
theorem C7 {h:Heap} {i j:Nat} {b:Blk} (e:upd h i (some b) j=none):j≠i:=fun hh=>by
 subst hh; rw [ah] at e; cases e
theorem rV (p:bG) (h:Heap):ak Tryz.prog 44 [aK p] h fun r h' =>r= .v (.int .i64 (fW p))∧h' =h:=by
 cases p with
 |mk id set alg tgt rules kids obls=>
 refine ak.body hU hm Tryz.func44 rfl (by kernel_rfl) 10 rfl [.tmp 2] rfl (VZ rfl) (fun hwf=> ?_)
 simp only [go_sem,aK,aT,au];intro ip hip;simp only [go_sem];intro im him;simp only [go_sem];intro iw hiw;have n1:=C7 him;have n2:=C7 hiw;have hiw1:=hiw;rw [ag _ _ n2] at hiw1;have n3:=C7 hiw1;have s1:Ab.Sub h (upd (upd (upd h ip (some (.obj [.s id, .v (.bool set), .v (.int .i64 alg), .sl (tgt.map cH) .no, .sl (rules.map aB) .no, .sl (fh kids) .no, .sl (obls.map bf) .no] 37))) im (some (.mp []))) iw (some (.obj [.mp im, .v (.int .i64 0)] 158))):=
  ((Sub.ai hip).trans (.ai him)).trans (.ai hiw)
 obtain ⟨h3,e3⟩:∃h3,upd (upd (upd h ip (some (.obj [.s id, .v (.bool set), .v (.int .i64 alg), .sl (tgt.map cH) .no, .sl (rules.map aB) .no, .sl (fh kids) .no, .sl (obls.map bf) .no] 37))) im (some (.mp []))) iw (some (.obj [.mp im, .v (.int .i64 0)] 158))=h3:=⟨_,rfl⟩;have g1:h3 ip=some (.obj [.s id, .v (.bool set), .v (.int .i64 alg), .sl (tgt.map cH) .no, .sl (rules.map aB) .no, .sl (fh kids) .no, .sl (obls.map bf) .no] 37):=by
  rw [←e3,ag _ _ n3.symm,ag _ _ n1.symm,ah]
 have g2:gp h3 iw im ⟨[],0⟩:=by
  refine ⟨by rw [←e3,ah]; rfl,by rw [←e3,ag _ _ n2.symm,ah]; rfl,fun l hl=>(by cases hl),by decide⟩
 have hi0:h im=none:=by rw [ag _ _ n1] at him; exact him
 have hw0:h iw=none:=by rw [ag _ _ n3] at hiw1; exact hiw1
 simp only [go_sem];rw [e3] at s1⊢;simp only [go_sem,g1];have hp:=EB 4 1 rfl iw im ⟨[],0⟩ (.mk id set alg tgt rules kids obls) h3 g2;simp only [aK,aT,au,Int.cast_ofNat_Int] at hp;refine hp.mono fun x h4 ⟨ex,hk,_⟩=> ?_
 subst ex;simp only [go_sem];refine .mk _ (.refl _) (fun j k hj=> ?_) ⟨rfl,rfl⟩
 refine hk j k ?_ (s1 _ _ hj);simp only [List.mem_cons,List.not_mem_nil,or_false,not_or];exact ⟨fun e=>(by rw [e,hw0] at hj; cases hj),fun e=>(by rw [e,hi0] at hj; cases hj)⟩
def ji (x:bG×Int×Int):AV:= .tup [aK x.1, .v (.int .i64 x.2.1), .v (.int .i64 x.2.2)]
theorem iP (a b c:AV) (h:Weak a b) (d:AV):Weak (.tup [a,c,d]) (.tup [b,c,d]):= .tup _ _ rfl fun i h1 h2=>by
 rcases i with _|_|_|i
 ·exact h
 ·exact .refl _
 ·exact .refl _
 ·simp at h1; omega
set_option maxRecDepth 20000 in
theorem wE (s:Txt) (h:Heap) (he:qq h):ak Tryz.prog 32 [.s s] h fun r h' =>r=ji (aR s)∧h' =h:=by
 refine ak.body hU hm Tryz.func32 rfl (by kernel_rfl) 61 rfl [.cell 2 37, .tmp 3, .tmp 4] rfl (VZ rfl) (fun hwf=> ?_)
 simp only [go_sem];intro i2 hi2;simp only [go_sem];refine (Cm s _ (he.sub (.ai hi2))).pthen ?_;cases el:qE s with
 |bad e a=>
  have e1:=vW el;have d1:(e !=0)=true:=by
   have:e≠0:=by rcases e1.1 with h|h<;>rw [h]<;>decide
   simpa using this
  have efin:aR s=(mM,e,a):=by simp only [aR,el]
  simp only [go_sem,J6,d1];rw [efin];exact .mk (h' :=h) (ji (mM,e,a)) (iP _ _ _ (fO _) _) (.ai hi2) ⟨rfl,rfl⟩
 |ok ts=>
  have efin:aR s=wD s ts:=by simp only [aR,el]
  have hw:=Gl el 0 0 0;have hpol:=BI 3 1 rfl ⟨ts,0,0,0,0⟩ hw (Nat.zero_le _);have hap:=u6 4 ⟨ts,0,0,0,0⟩ hw;obtain ⟨⟨⟨pid,pset,palg,ptgt,prules,pkids,pobls⟩,st1⟩,ep⟩:∃x,ga 4 ⟨ts,0,0,0,0⟩=x:=⟨_,rfl⟩;rw [show 3+1=4 from rfl,ep] at hpol
  rw [ep] at hap;simp only [aK] at hpol hap;simp only [wD,ep] at efin;simp only [go_sem,J6];intro i8 hi8;have n8:=aH hi8;have m82:¬i8=i2:=n8;have m28:¬i2=i8:=fun e=>n8 e.symm
  have hh8:h i8=none:=by rw [ag _ _ n8] at hi8; exact hi8
  simp only [go_sem];refine hpol.go (ah ..) ?_;rw [nE];simp only [go_sem];intro i9 hi9;have n9:=aH hi9;have hi9' :=hi9;rw [ag _ _ n9] at hi9';have n92:=aH hi9';have m92:¬i9=i2:=n92;have m29:¬i2=i9:=fun e=>n92 e.symm
  have m98:¬i9=i8:=n9;have m89:¬i8=i9:=fun e=>n9 e.symm
  have hh9:h i9=none:=by rw [ag _ _ n92] at hi9'; exact hi9'
  have c9:∀(f:Heap) (x y:Option Blk),upd (upd f i8 x) i9 y=upd (upd f i9 y) i8 x:=fun f x y=>cq f x y n9.symm
  simp only [go_sem,c9,aj,m98];refine (kJ st1 hap.1).run ?_;have subs:∀x y z,Sub h (upd (upd (upd h i2 x) i9 y) i8 z):=fun x y z=>((Sub.ai hi2).put hh9 _).put hh8 _
  cases d1:((aL st1).kind !=7)
  ·have k1:(aL st1).kind=7:=by simpa using d1
   have e2:(if (aL st1).kind=7 then st1 else bg st1)=st1:=if_pos k1
   simp only [go_sem,fm,d1];cases db:((st1).bad==0)
   ·have eb:(st1).bad≠0:=by simpa using db
    simp only [go_sem,PO,db];have eend:nT s (.mk pid pset palg ptgt prules pkids pobls,st1)=st1:=by
     unfold nT; simp only [e2]; rw [if_neg (fun h=>eb h.1)]
    have hbb:(st1).bad≠0:=eb;have dn:((st1).bad !=0)=true:=by simpa using hbb
    simp only [go_sem,dn];refine .calls (hm1 i8 (PO (st1))) [0,1,2,3,4,5,6,7,8,9,10,11] (.hm1 (ah ..)) (by kernel_rfl) rfl ?_
    simp only [go_sem,aj,m28,m29,PO,fJ];refine ⟨.hm1 ((ag _ _ n8).trans (ah ..)), ?_⟩;have efin2:aR s=(mM,(st1).bad,(st1).place):=by rw [efin,if_neg (by rw [eend]; exact hbb),eend]
    rw [efin2];exact .mk (h' :=h) (ji (mM,(st1).bad,(st1).place)) (iP _ _ _ (fO _) _) (Sub.put (subs _ _ _) hi2 _) ⟨rfl,rfl⟩
   ·have eb:(st1).bad=0:=by simpa using db
    simp only [go_sem,aj,m98,PO,db];refine (rV (.mk pid pset palg ptgt prules pkids pobls) _).pthen ?_;cases dr:(fW (.mk pid pset palg ptgt prules pkids pobls) !=0)
    ·have er:fW (.mk pid pset palg ptgt prules pkids pobls)=0:=by simpa using dr
     have dn:((st1).bad !=0)=false:=by simpa using eb
     simp only [go_sem,aj,m28,m29,m98,dr,dn];have eend:nT s (.mk pid pset palg ptgt prules pkids pobls,st1)=st1:=by
      unfold nT; simp only [e2]; rw [if_neg (fun h=>h.2 er)]
     have efin2:aR s=(.mk pid pset palg ptgt prules pkids pobls,0,0):=by rw [efin,if_pos (by rw [eend]; exact eb)]
     rw [efin2];exact .mk (h' :=h) (ji (.mk pid pset palg ptgt prules pkids pobls,0,0)) (iP _ _ _ (fO _) _) (Sub.put (subs _ _ _) hi2 _) ⟨rfl,rfl⟩
    ·have er:fW (.mk pid pset palg ptgt prules pkids pobls)≠0:=by simpa using dr
     simp only [go_sem,dr];refine (pF (st1) 5 s.length).run ?_;have eend:nT s (.mk pid pset palg ptgt prules pkids pobls,st1)=bD (st1) 5 s.length:=by
      unfold nT; simp only [e2]; rw [if_pos ⟨eb,er⟩]
     have hwb:bD (st1) 5 s.length= {(st1) with bad:=5,place:=s.length}:=by rw [bD,if_pos eb]
     have hbb:(bD (st1) 5 s.length).bad≠0:=by rw [hwb]; show (5:Int)≠0; decide
     have dn:((bD (st1) 5 s.length).bad !=0)=true:=by simpa using hbb
     simp only [go_sem,PO,dn];refine .calls (hm1 i8 (PO (bD (st1) 5 s.length))) [0,1,2,3,4,5,6,7,8,9,10,11] (.hm1 (ah ..)) (by kernel_rfl) rfl ?_
     simp only [go_sem,aj,m28,m29,PO,fJ];refine ⟨.hm1 ((ag _ _ n8).trans (ah ..)), ?_⟩;have efin2:aR s=(mM,(bD (st1) 5 s.length).bad,(bD (st1) 5 s.length).place):=by rw [efin,if_neg (by rw [eend]; exact hbb),eend]
     rw [efin2];exact .mk (h' :=h) (ji (mM,(bD (st1) 5 s.length).bad,(bD (st1) 5 s.length).place)) (iP _ _ _ (fO _) _) (Sub.put (subs _ _ _) hi2 _) ⟨rfl,rfl⟩
  ·have k1:(aL st1).kind≠7:=by simpa using d1
   have e2:(if (aL st1).kind=7 then st1 else bg st1)=bg st1:=if_neg k1
   simp only [go_sem,fm,d1];refine (j8 st1 hap.1).run ?_;simp only [go_sem];cases db:((bg st1).bad==0)
   ·have eb:(bg st1).bad≠0:=by simpa using db
    simp only [go_sem,PO,db];have eend:nT s (.mk pid pset palg ptgt prules pkids pobls,st1)=bg st1:=by
     unfold nT; simp only [e2]; rw [if_neg (fun h=>eb h.1)]
    have hbb:(bg st1).bad≠0:=eb;have dn:((bg st1).bad !=0)=true:=by simpa using hbb
    simp only [go_sem,dn];refine .calls (hm1 i8 (PO (bg st1))) [0,1,2,3,4,5,6,7,8,9,10,11] (.hm1 (ah ..)) (by kernel_rfl) rfl ?_
    simp only [go_sem,aj,m28,m29,PO,fJ];refine ⟨.hm1 ((ag _ _ n8).trans (ah ..)), ?_⟩;have efin2:aR s=(mM,(bg st1).bad,(bg st1).place):=by rw [efin,if_neg (by rw [eend]; exact hbb),eend]
    rw [efin2];exact .mk (h' :=h) (ji (mM,(bg st1).bad,(bg st1).place)) (iP _ _ _ (fO _) _) (Sub.put (subs _ _ _) hi2 _) ⟨rfl,rfl⟩
   ·have eb:(bg st1).bad=0:=by simpa using db
    simp only [go_sem,aj,m98,PO,db];refine (rV (.mk pid pset palg ptgt prules pkids pobls) _).pthen ?_;cases dr:(fW (.mk pid pset palg ptgt prules pkids pobls) !=0)
    ·have er:fW (.mk pid pset palg ptgt prules pkids pobls)=0:=by simpa using dr
     have dn:((bg st1).bad !=0)=false:=by simpa using eb
     simp only [go_sem,aj,m28,m29,m98,dr,dn];have eend:nT s (.mk pid pset palg ptgt prules pkids pobls,st1)=bg st1:=by
      unfold nT; simp only [e2]; rw [if_neg (fun h=>h.2 er)]
     have efin2:aR s=(.mk pid pset palg ptgt prules pkids pobls,0,0):=by rw [efin,if_pos (by rw [eend]; exact eb)]
     rw [efin2];exact .mk (h' :=h) (ji (.mk pid pset palg ptgt prules pkids pobls,0,0)) (iP _ _ _ (fO _) _) (Sub.put (subs _ _ _) hi2 _) ⟨rfl,rfl⟩
    ·have er:fW (.mk pid pset palg ptgt prules pkids pobls)≠0:=by simpa using dr
     simp only [go_sem,dr];refine (pF (bg st1) 5 s.length).run ?_;have eend:nT s (.mk pid pset palg ptgt prules pkids pobls,st1)=bD (bg st1) 5 s.length:=by
      unfold nT; simp only [e2]; rw [if_pos ⟨eb,er⟩]
     have hwb:bD (bg st1) 5 s.length= {(bg st1) with bad:=5,place:=s.length}:=by rw [bD,if_pos eb]
     have hbb:(bD (bg st1) 5 s.length).bad≠0:=by rw [hwb]; show (5:Int)≠0; decide
     have dn:((bD (bg st1) 5 s.length).bad !=0)=true:=by simpa using hbb
     simp only [go_sem,PO,dn];refine .calls (hm1 i8 (PO (bD (bg st1) 5 s.length))) [0,1,2,3,4,5,6,7,8,9,10,11] (.hm1 (ah ..)) (by kernel_rfl) rfl ?_
     simp only [go_sem,aj,m28,m29,PO,fJ];refine ⟨.hm1 ((ag _ _ n8).trans (ah ..)), ?_⟩;have efin2:aR s=(mM,(bD (bg st1) 5 s.length).bad,(bD (bg st1) 5 s.length).place):=by rw [efin,if_neg (by rw [eend]; exact hbb),eend]
     rw [efin2];exact .mk (h' :=h) (ji (mM,(bD (bg st1) 5 s.length).bad,(bD (bg st1) 5 s.length).place)) (iP _ _ _ (fO _) _) (Sub.put (subs _ _ _) hi2 _) ⟨rfl,rfl⟩
end Go.Proofs.YtnlbeamjpefpfaaGreatDoor
namespace Go.Ab
open Go
theorem OwE.keepb {tb:TypeId} {h0 h h' :Heap} {sz:Nat} {y:AV} {xs:List AV} (hw:OwE tb h0 h sz y xs) (hk:∀id,h0 id=Option.none→h id≠Option.none→h' id=h id):OwE tb h0 h' sz y xs:=
 hw.keep fun id e=>hk id (hw.nid e).1 (hw.nid e).2.1
end Go.Ab
namespace Go.Proofs.YtnlbeamjpefpfaaGreatDoor
open Go Go.Ab Go.Bf
theorem eT.keepb {h0 h h' :Heap} {ys:List AV} {x:AV} {c:aJ} (hm:eT h0 h ys x c) (hk:∀id,h0 id=none→h id≠none→h' id=h id):eT h0 h' ys x c:=by
 obtain ⟨f,l,e,a,b,c,d⟩:=hm;exact ⟨f,l,e,a.keepb hk,b.keepb hk,c,d⟩
theorem kE.keepb {h0 h h' :Heap} {ys:List AV} {y:AV} {cs:List aJ} {i0:Nat} (ho:kE h0 h ys y cs i0) (hk:∀id,h0 id=none→h id≠none→h' id=h id):kE h0 h' ys y cs i0:=by
 obtain ⟨xs,a,b,c,d⟩:=ho;exact ⟨xs,a.keepb hk,b,c,fun h1 h2=>(d h1 h2).keepb hk⟩
theorem qP.keepb {h0 h h' :Heap} {x:AV} {s:an} {i0:Nat} (ho:qP h0 h x s i0) (hk:∀id,h0 id=none→h id≠none→h' id=h id):qP h0 h' x s i0:=by
 obtain ⟨y1,y2,y3,y4,e,a,b,c,d,r⟩:=ho;exact ⟨y1,y2,y3,y4,e,a.keepb hk,b.keepb hk,c.keepb hk,d.keepb hk,r⟩
theorem kE.keepx {h0 h h' :Heap} {ys:List AV} {y z:AV} {cs:List aJ} {i0:Nat} (ho:kE h0 h ys y cs i0) (hz:z∈ys) (hy:apart y z) (hk:∀id,h0 id=none→h id≠none→nid z≠some id→h' id=h id):kE h0 h' ys y cs i0:=by
 obtain ⟨xs,a,b,c,d⟩:=ho;refine ⟨xs,a.keep fun id e=>hk id (a.nid e).1 (a.nid e).2.1 (hy id e),b,c,fun h1 h2=> ?_⟩
 obtain ⟨f,l,e,of,ol,hap,hys⟩:=d h1 h2;exact ⟨f,l,e,of.keep fun id e=>hk id (of.nid e).1 (of.nid e).2.1 ((hys z hz).1 id e),ol.keep fun id e=>hk id (ol.nid e).1 (ol.nid e).2.1 ((hys z hz).2 id e),hap,hys⟩
theorem eT.frz {g h0 h:Heap} {ys:List AV} {x:AV} {c:aJ} (hm:eT h0 h ys x c) (hg:Ab.Sub g h0):Frz g h x (bJ c):=by
 obtain ⟨f,l,rfl,a,b,_⟩:=hm;refine .agg _ _ rfl fun j h1 h2=> ?_
 rcases j with _|_|_|_|_|j
 ·exact .pure rfl
 ·exact .pure rfl
 ·exact .pure rfl
 ·exact (a.less hg).frz (bn (fun _=>rfl) _)
 ·exact (b.less hg).frz (bn (fun _=>rfl) _)
 ·simp at h1; omega
theorem Fe {g h0 h:Heap} {y:AV} {xs:List AV} {cs:List aJ} (hw:OwE 78 h0 h 5 y xs) (hg:Ab.Sub g h0) (hn:xs.length=cs.length) (hx:∀j (h1:j<xs.length) (h2:j<cs.length),Frz g h xs[j] (bJ cs[j])):Frz g h y (iY cs):=by
 rcases hw with ⟨rfl,rfl⟩|⟨id,h1,hw⟩
 ·have:cs= []:=List.length_eq_zero_iff.1 hn.symm
  subst this;exact .sl [] [] .full rfl (fun i h1=>by cases h1) (fun i h1=>by cases h1)
 ·have hsz:∀i (h1:i<xs.length),xs[i].cells.length=5:=fun i h1=>hw.rd.1 _ (V5 h1)
  refine hw.frz (hg.none h1) (by simpa using hn) (fun i h1 h2=>by rw [hsz i h1,V1]; rfl) fun i h1 h2 j h3 h4=> ?_
  have h2' :i<cs.length:=by simpa using h2
  have hf:=hx i h1 h2';have key:∀x y:AV,Frz g h x y→bA y=true→cC y=true→∀j (h3:j<x.cells.length) (h4:j<y.cells.length),Frz g h x.cells[j] y.cells[j]:=by
   intro x y hf ha hp j h3 h4;cases hf with
   |keep x hx=>exact .pure (lX hp _ (V5 h4))
   |agg xs ys hn hr=>exact hr j h3 h4
   |_=>cases ha
  have e:(cs.map bJ)[i]'h2=bJ cs[i]:=V1 ..;simp only [e] at h4⊢;exact key _ _ hf rfl (by simp only [bJ,kZ,cC,gy,fG,pX,Bool.and_true,Bool.true_and,Bool.and_eq_true]; exact ⟨bn (fun _=>rfl) _,bn (fun _=>rfl) _⟩) j h3 h4
theorem kE.frz {g h0 h:Heap} {ys:List AV} {y:AV} {cs:List aJ} {i0:Nat} (ho:kE h0 h ys y cs i0) (hg:Ab.Sub g h0):Frz g h y (iY cs):=by
 obtain ⟨xs,a,b,c,d⟩:=ho;refine Fe a hg b fun j h1 h2=> ?_
 by_cases e:j=i0
 ·subst e; exact (d h1 h2).frz hg
 ·rw [c j h1 h2 e]; exact AY _
theorem Iu {g h:Heap} (p:bG):∀x∈fB p,Frz g h x x:=fun x hx=>by
 refine .pure (lX (x:=aK p) (BK p) x ?_);rw [Kh];exact hx
theorem AZ {g h:Heap} {xs:List AV} (hx:∀x∈xs,Frz g h x x):∀i (h1:i<xs.length) (h2:i<xs.length),Frz g h xs[i] xs[i]:=fun i h1 _=>hx _ (V5 h1)
theorem D2 {g h:Heap} {ps bs cs ds:List AV} (n1:ps.length=bs.length) (n2:cs.length=ds.length) (h1:∀i (a:i<ps.length) (b:i<bs.length),Frz g h ps[i] bs[i]) (h2:∀i (a:i<cs.length) (b:i<ds.length),Frz g h cs[i] ds[i]):
  ∀i (a:i<(ps++cs).length) (b:i<(bs++ds).length),Frz g h (ps++cs)[i] (bs++ds)[i]:=fun i a b=>by
 by_cases e:i<ps.length
 ·rw [List.getElem_append_left e,List.getElem_append_left (by omega)]; exact h1 i e (by omega)
 ·rw [List.getElem_append_right (by omega),List.getElem_append_right (by omega)]
  simp only [V4] at a b;have:=h2 (i - ps.length) (by omega) (by omega)
  simp only [n1] at this⊢;exact this
theorem sD {g h:Heap} {s:an} {y1 y2 y3 y4:AV} (a:Frz g h y1 (iY s.cases)) (b:Frz g h y2 (qi s.reviews)) (c:Frz g h y3 (rF s.notices)) (d:Frz g h y4 (dF s.roles)):
  Frz g h (.agg ([.v (.int .i64 s.tick),y1,y2,y3,y4]++fB s.policy++ [.v (.int .i64 s.version)])) (cU s):=by
 refine .agg _ _ (by simp) (D2 (by simp) rfl (D2 rfl rfl (fun i h1 h2=> ?_) (AZ (Iu _))) (AZ fun x hx=>by rw [List.mem_singleton.1 hx]; exact .pure rfl))
 rcases i with _|_|_|_|_|i
 ·exact .pure rfl
 ·exact a
 ·exact b
 ·exact c
 ·exact d
 ·simp at h1; omega
theorem kE.rd {h0 h:Heap} {ys:List AV} {y:AV} {cs:List aJ} {i0:Nat} (ho:kE h0 h ys y cs i0):xo h y cs:=by
 obtain ⟨xs,a,b,c,d⟩:=ho;refine ⟨xs,a.rd,b,fun j h1 h2=> ?_⟩
 by_cases e:j=i0
 ·subst e
  obtain ⟨f,l,e,a,b,_⟩:=d h1 h2;exact ⟨f,l,e,a.rd,b.rd⟩
 ·rw [c j h1 h2 e]; exact rdC _ _
theorem qP.rd {h0 h:Heap} {x:AV} {s:an} {i0:Nat} (ho:qP h0 h x s i0):RdS h x s:=by
 obtain ⟨y1,y2,y3,y4,rfl,a,b,c,d,r⟩:=ho;exact ⟨y1,y2,y3,y4,rfl,a.rd,b.rd,c.rd,d.rd⟩
end Go.Proofs.YtnlbeamjpefpfaaGreatDoor
