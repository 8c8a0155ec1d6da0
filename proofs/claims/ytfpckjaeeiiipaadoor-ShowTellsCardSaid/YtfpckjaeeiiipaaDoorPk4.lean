/- The law ShowTells: pack 4 of its texts. -/
import Derived.Laws.Externs
import Derived.Lib.Overlaps
import Derived.Shelf.Strings.BuilderK
import Derived.Test.YtfpckjaeeiiipaaDoorProg
import Derived.KernelRfl
import Derived.Test.YtfpckjaeeiiipaaDoorChecked
import Derived.WalkKit
import Derived.BigCall
import Derived.StillTailTactics
import Derived.Test.YtfpckjaeeiiipaaDoorPk1
import Derived.Test.YtfpckjaeeiiipaaDoorPk2
import Derived.Test.YtfpckjaeeiiipaaDoorPk3
set_option linter.unusedSimpArgs false
set_option linter.unusedVariables false
namespace Go.Ab
open Go
section
variable {P : Program} {U : TypeId → TI} {ρ : Env} {h h' : Heap} {sz : Nat} {y : AV} {xs : List AV} {e : TypeId}
def Rd (h:Heap) (sz:Nat) (y:AV) (xs:List AV):Prop:=
 Sized sz xs∧((∃q,y= .sl xs q)∨∃id off cap cs t,y= .ob id off xs.length cap sz∧h id=some (.obj cs t)∧off+xs.length*sz≤cs.length∧(cs.drop off).take (xs.length*sz)=bx xs)
theorem Rd.sl (hs:Sized sz xs) (q:Perm):Rd h sz (.sl xs q) xs:=⟨hs, .inl ⟨q,rfl⟩⟩
theorem Rd.cells (hb:Rd h sz y xs):y.cells= [y]:=by
 obtain ⟨_,⟨q,rfl⟩|⟨id,off,cap,cs,t,rfl,_⟩⟩:=hb<;>rfl
theorem Rd.fit (hb:Rd h sz y xs) (m:Nat):fit y m=(m=1):=by
 obtain ⟨_,⟨q,rfl⟩|⟨id,off,cap,cs,t,rfl,_⟩⟩:=hb<;>rfl
theorem Rd.src (hb:Rd h sz y xs) (hz:(U e).sz=sz) {f:List AV→Prop} (hf:f xs):eD U e h y f:=by
 obtain ⟨_,⟨q,rfl⟩|⟨id,off,cap,cs,t,rfl,h2,h3,h4⟩⟩:=hb
 ·exact hf
 ·rw [xV,h2]
  exact ⟨hz.symm,xs,rfl,h3,h4.symm,hf⟩
def Ow (tb:TypeId) (h:Heap) (sz id:Nat) (y:AV) (xs:List AV):Prop:=
 ∃cap rest,y= .ob id 0 xs.length cap sz∧h id=some (.obj (bx xs++rest) tb)∧rest.length=(cap - xs.length)*sz∧xs.length≤cap∧Sized sz xs
variable {tb : TypeId} {id : Nat}
theorem Ow.rd (hw:Ow tb h sz id y xs):Rd h sz y xs:=by
 obtain ⟨cap,rest,rfl,h1,h2,h3,h4⟩:=hw;have hl:=de h4;exact ⟨h4, .inr ⟨id,0,cap,_,tb,rfl,h1,by grind,by grind⟩⟩
theorem Ow.sub (hw:Ow tb h sz id y xs) (hs:Sub h h'):Ow tb h' sz id y xs:=by
 obtain ⟨cap,rest,e1,h1,h2⟩:=hw;exact ⟨cap,rest,e1,hs _ _ h1,h2⟩
theorem Ow.same (hw:Ow tb h sz id y xs) (hs:h' id=h id):Ow tb h' sz id y xs:=by
 obtain ⟨cap,rest,e1,h1,h2⟩:=hw;exact ⟨cap,rest,e1,hs.trans h1,h2⟩
theorem Ow.make {cs:List AV} {cap:Nat} {rest:List AV} (hs:Sized sz xs) (hcs:cs=bx xs) {n:Nat} (hn:n=xs.length) (hc:n≤cap) (hr:rest.length=(cap - n)*sz):Ow tb (upd h id (some (.obj (cs++rest) tb))) sz id (.ob id 0 n cap sz) xs:=by
 subst hcs; subst hn
 exact ⟨cap,rest,rfl,ag ..,hr,hc,hs⟩
theorem fG.ow {cs:List AV} {n:Nat} {Q:AV→Heap→Prop} (hs:Sized sz xs) (hcs:cs=bx xs) (hn:n=xs.length) (hk:∀id y h',h id=Option.none→Ow tb h' sz id y xs→(∀j,j≠id→h' j=h j)→Q y h'):fG h cs n sz tb Q:=
 fun id cap rest hid hc hr=>hk id _ _ hid (Ow.make hs hcs hn hc hr) fun j hj=>af _ _ hj
def OwE (tb:TypeId) (h0 h:Heap) (sz:Nat) (y:AV) (xs:List AV):Prop:=(xs= []∧y= .sl [] .full)∨∃id,h0 id=Option.none∧Ow tb h sz id y xs
variable {h0 : Heap}
theorem OwE.rd (hw:OwE tb h0 h sz y xs):Rd h sz y xs:=by
 rcases hw with ⟨rfl,rfl⟩|⟨id,_,hw⟩
 ·exact .sl (fun z hz=>by grind) _
 ·exact hw.rd
theorem OwE.sub (hw:OwE tb h0 h sz y xs) (hs:Sub h h'):OwE tb h0 h' sz y xs:=by
 rcases hw with hw|⟨id,h1,hw⟩
 ·exact .inl hw
 ·exact .inr ⟨id,h1,hw.sub hs⟩
theorem OwE.app {v:AV} {zs:List AV} {Q:AV→Heap→Prop} (hw:OwE tb h0 h sz y xs) (hs0:Sub h0 h) (hb:Rd h sz v zs) (hz:(U tb).sz=sz) (h1:sz≠0) (hby:(U tb).bytes≠0) (hf:Ab.fit (U tb).zero sz) (hne:zs≠ []) (hlen:(xs.length+zs.length)*(U tb).bytes≤140737488355328)
  (hk:∀id y' h',h0 id=Option.none→(h id=Option.none∨∃l c,y= .ob id 0 l c sz)→Ow tb h' sz id y' (xs++zs)→(∀j,j≠id→h' j=h j)→Q y' h'):apK U h y v Q (.slice tb):=by
 subst hz;rcases hw with ⟨rfl,rfl⟩|⟨id,h2,cap,rest,rfl,h3,h4,h5,h6⟩
 ·refine (mh ..).mpr ⟨h1,hby,hb.src rfl ⟨by simp [Sized],hb.1,by omega,fun hn=>(hne hn).elim,fun _=> ?_⟩⟩
  refine .ob hf (fG.ow (by simpa using hb.1) (by rfl) (by simp) fun id y' h' hid hw ho=> ?_)
  exact hk id _ _ (hs0.none hid) (.inl hid) (by grind) ho
 ·have hl:=de h6
  refine ⟨h1,hby,rfl,hb.src rfl ⟨hb.1,hlen, ?_⟩⟩;rw [h3];have hsz:Sized (U tb).sz (xs++zs):=fun z hz=>(List.mem_append.1 hz).elim (h6 z) (hb.1 z)
  refine ⟨by grind,hf,fun hle=> ?_,fun hgt=> ?_⟩
  ·have hlz:=de hb.1
   have hmul:(cap - xs.length)*(U tb).sz=zs.length*(U tb).sz+(cap - (xs.length+zs.length))*(U tb).sz:=by rw [←Nat.add_mul]; grind
   refine hk id _ _ h2 (.inr ⟨_,_,rfl⟩) ⟨cap,rest.drop (zs.length*(U tb).sz),by simp, ?_, ?_,by grind,hsz⟩ fun j hj=>af _ _ hj
   ·simp_all [ag,ov,Nat.zero_add,Ab.over,List.take_left,List.drop_append,List.drop_of_length_le]
   grind
  ·refine fG.ow hsz ?_ (by simp) fun id' y' h' hid hw ho=> ?_
   ·grind [ov,List.take_left]
   ·exact hk id' _ _ (hs0.none hid) (.inl hid) hw ho
end
mutual
def cg:AV→Bool
 | .v _=>true
 | .s _=>true
 | .agg xs=>fj xs
 | .tup xs=>fj xs
 | .sl xs (.own _)=>false
 | .sl xs _=>fj xs
 | .pe x _=>cg x
 | .ifc _ x=>cg x
 |_=>false
def fj:List AV→Bool
 | []=>true
 |x::r=>cg x && fj r
end
mutual
theorem jM {F:Nat→Prop}:∀x:AV,cg x=true→Av F x
 | .v x,_=> .v x
 | .s l,_=> .s l
 | .agg xs,h=> .agg xs (gX xs (by simpa [cg] using h))
 | .tup xs,h=> .tup xs (gX xs (by simpa [cg] using h))
 | .sl xs .no,h=> .sl xs .no (gX xs (by simpa [cg] using h)) fun _ e=>by cases e
 | .sl xs .full,h=> .sl xs .full (gX xs (by simpa [cg] using h)) fun _ e=>by cases e
 | .sl xs (.own _),h=>by simp [cg] at h
 | .pe x o,h=> .pe x o (jM x (by simpa [cg] using h))
 | .ptr i o,h=>by simp [cg] at h
 | .oa i o l,h=>by simp [cg] at h
 | .ifc t x,h=> .ifc t x (jM x (by simpa [cg] using h))
 | .fn f c,h=>by simp [cg] at h
 | .mp i,h=>by simp [cg] at h
 | .ob i o l c z,h=>by simp [cg] at h
theorem gX {F:Nat→Prop}:∀xs:List AV,fj xs=true→∀x∈xs,Av F x
 | [],_,x,hx=>by cases hx
 |y::r,h,x,hx=>by
  simp only [fj,Bool.and_eq_true] at h;rcases List.mem_cons.1 hx with e|e
  ·rw [e]; exact jM y h.1
  ·exact gX r h.2 x e
end
theorem cG {α:Type} {f:α→AV} (hf:∀a,cg (f a)=true):∀l:List α,fj (l.map f)=true
 | []=>rfl
 |a::r=>by simp [fj,hf a,cG hf r]
theorem fW {xs} (h:fj xs=true):∀x∈xs,cg x=true:=by
 induction xs with
 |nil=>simp
 |cons y r ih=>
  simp_all [fj,Bool.and_eq_true,List.mem_cons]
theorem fJ {x} (h:cg x=true):∀c∈x.cells,cg c=true:=by
 cases x with
 |agg cs=>exact fW (show fj cs=true by grind [cg])
 |_=>intro c hc; rw [List.mem_singleton.1 hc]; exact h
theorem Frz.pure {g h} {x} (hx:cg x=true):Frz g h x x:= .keep x (jM x hx)
theorem Ow.frz {g h:Heap} {tb:TypeId} {sz id:Nat} {y:AV} {xs ys:List AV} (hw:Ow tb h sz id y xs) (hg:g id=Option.none) (hn:xs.length=ys.length) (hz:∀i (h1:i<xs.length) (h2:i<ys.length),xs[i].cells.length=ys[i].cells.length)
  (hr:∀i (h1:i<xs.length) (h2:i<ys.length) j (h3:j<xs[i].cells.length) (h4:j<ys[i].cells.length),Frz g h xs[i].cells[j] ys[i].cells[j]):Frz g h y (.sl ys .no):=by
 obtain ⟨cap,rest,rfl,h1,h2,h3,h4⟩:=hw;have hl:=de h4;refine .ob id 0 _ cap sz _ tb ys hg h1 (by grind) hn.symm (fun i hi=>by rw [←hz i (by omega) hi]; exact h4 _ (by simp)) fun i hi j hj hb=> ?_
 have hj' :j<sz:=by rw [←h4 xs[i] (by simp),hz i (by omega) hi]; omega
 have hbd:i*sz+j<xs.length*sz:=by
  have:(i+1)*sz≤xs.length*sz:=Nat.mul_le_mul_right _ (by omega)
  rw [Nat.add_mul,Nat.one_mul] at this;omega
 have hjx:j<xs[i].cells.length:=by grind
 have e:(bx xs++rest)[0+(i*sz+j)]? =some (xs[i].cells[j]):=by
  rw [Nat.zero_add,List.getElem?_append_left (by omega),j8 h4 (by omega) hj',List.getElem?_eq_getElem hjx]
 rw [List.getElem?_eq_getElem hb,Option.some.injEq] at e;rw [e];exact hr i (by omega) hi j hjx hj
def nid:AV→Option Nat
 | .ob id _ _ _ _=>some id
 |_=>none
end Go.Ab
namespace Go.Proofs.YtfpckjaeeiiipaaDoor
open Go Go.Ab Go.Bf
theorem gD.join {P:Program} {U:TypeId→TI} {n:Nat} {c:Code} {K:Exit→Env→Heap→Prop} {ρ:Env} {h:Heap} (ex:Exit) (I:Env→Heap→Prop) (hK:∀ρ' H',I ρ' H'→K ex ρ' H') (hc:∀K' :Exit→Env→Heap→Prop,(∀ρ' H',I ρ' H'→K' ex ρ' H')→gD P U n c ρ h K'):gD P U n c ρ h K:=hc K hK
theorem rL {h:Heap} {i j:Nat} {b} (e:upd h i (some b) j=none):h j=none:=by grind [af,pg]
theorem fX {α:Type} {f:α→AV} {n} (hf:∀a,(f a).cells.length=n) (l:List α):Sized n (l.map f):=fun z hz=>by
 grind
theorem Cs:(U 49).sz=1:=by rfl
theorem Ct:(U 50).sz=1:=by rfl
theorem jN (t):cg (aC t)=true:=by
 refine cG (fun a=> ?_) t
 refine cG (fun b=> ?_) a
 exact cG (fun _=>rfl) b
theorem uA (l):cg (aH l)=true:=by simp only [aH,cg]; exact cG (fun _=>rfl) l
theorem oJ (l):cg (ay l)=true:=by simp only [ay,cg]; exact cG (fun _=>rfl) l
theorem uB (r):cg (aB r)=true:=by simp [aB,cg,fj,jN,uA,oJ]
mutual
theorem qT:∀p:aR,cg (aE p)=true
 | .mk id set alg tgt rules kids obls=>by simp [aE,cg,fj,jN,oJ,cG uB rules,oI kids]
theorem oI:∀l:List aR,fj (aZ l)=true
 | []=>rfl
 |k::r=>by simp [aZ,fj,qT k,oI r]
end
theorem sI (p):(aE p).cells.length=7:=by cases p; rfl
theorem yF {tb} {h} {sz id i} {y} {xs cs} {t} (hw:Ow tb h sz id y xs) (hi:h i=some (.obj cs t)) (ht:t≠tb):id≠i:=by
 obtain ⟨cap,rest,rfl,h1,_⟩:=hw
 grind
theorem jJ (id) (set) (alg) (tgt) (rules) (kids) (obls):aE (.mk id set alg tgt rules kids obls)= .agg [.s id, .v (.bool set), .v (.int .i64 alg),aC tgt, .sl (rules.map aB) .no, .sl (kids.map aE) .no,ay obls]:=by simp [aE,aG]
end Go.Proofs.YtfpckjaeeiiipaaDoor
namespace Go.Ab
open Go
def WkL (xs ys:List AV):Prop:=xs.length=ys.length∧∀i (h1:i<xs.length) (h2:i<ys.length),xs[i].cells.length=ys[i].cells.length∧∀j (h3:j<xs[i].cells.length) (h4:j<ys[i].cells.length),Weak xs[i].cells[j] ys[i].cells[j]
theorem WkL.nil:WkL [] []:=⟨rfl,fun i h1=>by cases h1⟩
theorem WkL.weak {xs ys:List AV} (h:WkL xs ys) (q:Perm):Weak (.sl xs q) (.sl ys .no):= .deep xs ys q h.1 (fun i h1 h2=>(h.2 i h1 h2).1) fun i h1 h2 j h3 h4=>(h.2 i h1 h2).2 j h3 h4
theorem WkL.snoc {xs ys:List AV} (h:WkL xs ys) {x y:AV} (hx:x.cells.length=y.cells.length) (hw:∀j (h3:j<x.cells.length) (h4:j<y.cells.length),Weak x.cells[j] y.cells[j]):WkL (xs++ [x]) (ys++ [y]):=by
 have hl:=h.1;refine ⟨by simp [hl],fun i h1 h2=> ?_⟩
 by_cases hi:i<xs.length
 ·have e1:(xs++ [x])[i]=xs[i]:=List.getElem_append_left hi
  have e2:(ys++ [y])[i]=ys[i]'(by omega):=List.getElem_append_left (by omega)
  simp only [e1,e2];exact h.2 i hi (by omega)
 ·obtain rfl:i=xs.length:=by simp at h1; omega
  have e1:(xs++ [x])[xs.length]=x:=by simp
  have e2:(ys++ [y])[xs.length]=y:=by rw [List.getElem_append_right (by omega)]; simp [hl]
  simp only [e1,e2];exact ⟨hx,hw⟩
theorem WkL.one {xs ys:List AV} (h:WkL xs ys) {x y:AV} (hx:x.cells= [x]) (hy:y.cells= [y]) (hw:Weak x y):WkL (xs++ [x]) (ys++ [y]):=by
 refine h.snoc (by rw [hx,hy]; rfl) fun j h3 h4=> ?_
 obtain rfl:j=0:=by rw [hx] at h3; simpa using h3
 simp only [hx,hy,List.getElem_cons_zero];exact hw
theorem WkL.wH {xs:List AV} {α:Type} {f:α→AV} {l:List α} (h:WkL xs (l.map f)) (hf:∀a,(f a).cells.length=1:=by intro a; rfl):Sized 1 xs:=fun z hz=>by
 obtain ⟨i,hi,rfl⟩:=List.mem_iff_getElem.1 hz;have hl:=h.1;rw [(h.2 i hi (by omega)).1,Gr,hf]
end Go.Ab
namespace Go.Proofs.YtfpckjaeeiiipaaDoor
open Go Go.Ab Go.Bf
theorem kK (p:aR):∃a b c d e f g,p=aR.mk a b c d e f g:=by
 cases p;exact ⟨_,_,_,_,_,_,_,rfl⟩
def yf (v:AV) (r:cJ):Prop:=∃q1 q2,v= .agg [.s r.id, .v (.bool r.deny),aC r.tgt, .sl (r.cond.map aW) q1, .sl (r.obls.map aN) q2]
def iS (vs:List AV) (rs:List cJ):Prop:=vs.length=rs.length∧∀i (h1:i<vs.length) (h2:i<rs.length),yf vs[i] rs[i]
theorem iS.snoc {vs:List AV} {rs:List cJ} (h:iS vs rs) {v:AV} {r:cJ} (hv:yf v r):iS (vs++ [v]) (rs++ [r]):=by
 have hl:=h.1;refine ⟨by simp [hl],fun i h1 h2=> ?_⟩
 by_cases hi:i<vs.length
 ·have e1:(vs++ [v])[i]=vs[i]:=List.getElem_append_left hi
  have e2:(rs++ [r])[i]=rs[i]'(by omega):=List.getElem_append_left (by omega)
  rw [e1,e2];exact h.2 i hi (by omega)
 ·obtain rfl:i=vs.length:=by simp at h1; omega
  have e1:(vs++ [v])[vs.length]=v:=by simp
  have e2:(rs++ [r])[vs.length]=r:=by rw [List.getElem_append_right (by omega)]; simp [hl]
  rw [e1,e2];exact hv
theorem uh {g h:Heap} {z:AV} {vs:List AV} {rs:List cJ} (hw:OwE 54 g h 5 z vs) (hr:iS vs rs):Frz g h z (.sl (rs.map aB) .no):=by
 have hl:=hr.1;rcases hw with ⟨rfl,rfl⟩|⟨id,h1,hw⟩
 ·have:rs= []:=by grind
  subst this;exact .sl [] [] .full rfl (by omega) (by simp)
 ·refine hw.frz h1 (by simp [hl]) (fun i h1 h2=> ?_) fun i h1 h2 j h3 h4=> ?_
  ·obtain ⟨q1,q2,e⟩:=hr.2 i h1 (by omega)
   rw [e,Gr];rfl
  ·obtain ⟨q1,q2,e⟩:=hr.2 i h1 (by omega)
   have e2:(rs.map aB)[i]'h2= .agg [.s (rs[i]'(by omega)).id, .v (.bool (rs[i]'(by omega)).deny),aC (rs[i]'(by omega)).tgt,aH (rs[i]'(by omega)).cond,ay (rs[i]'(by omega)).obls]:=by rw [Gr]; rfl
   simp only [e,e2,AV.cells] at h3 h4⊢;rcases j with _|_|_|_|_|j
   ·exact .pure rfl
   ·exact .pure rfl
   ·exact .pure (jN _)
   ·exact .sl _ _ _ rfl (fun _ _ _=>rfl) fun i h1 h2 j h3 h4=> .pure (fJ (fW (cG (fun _=>rfl) _) _ (Gv h1)) _ (by simp))
   ·exact .sl _ _ _ rfl (fun _ _ _=>rfl) fun i h1 h2 j h3 h4=> .pure (fJ (fW (cG (fun _=>rfl) _) _ (Gv h1)) _ (by simp))
   ·simp at h3; omega
def zg (h0 h:Heap) (x:AV) (p:aR):Prop:=match p with
 | .mk id set alg tgt rules kids obls=>∃z vs qk qo,x= .agg [.s id, .v (.bool set), .v (.int .i64 alg),aC tgt,z, .sl (kids.map aE) qk, .sl (obls.map aN) qo]∧OwE 54 h0 h 5 z vs∧iS vs rules
theorem zg.frz {g h0 h:Heap} {x:AV} {p:aR} (hx:zg h0 h x p) (hg:∀ {z vs},OwE 54 h0 h 5 z vs→OwE 54 g h 5 z vs):Frz g h x (aE p):=by
 obtain ⟨id,set,alg,tgt,rules,kids,obls⟩:=p;obtain ⟨z,vs,qk,qo,rfl,hw,hr⟩:=hx;rw [jJ];refine .agg _ _ rfl fun j h1 h2=> ?_
 rcases j with _|_|_|_|_|_|_|j
 ·exact .pure rfl
 ·exact .pure rfl
 ·exact .pure rfl
 ·exact .pure (jN _)
 ·exact uh (hg hw) hr
 ·exact .sl _ _ _ rfl (fun _ _ _=>rfl) fun i h1 h2 j h3 h4=> .pure (fJ (fW (cG qT _) _ (Gv h1)) _ (by simp))
 ·exact .sl _ _ _ rfl (fun _ _ _=>rfl) fun i h1 h2 j h3 h4=> .pure (fJ (fW (cG (fun _=>rfl) _) _ (Gv h1)) _ (by simp))
 ·simp at h1; omega
def qe (b:Bool):Txt:=if b then [32,100,101,110,121,32] else [32,112,101,114,109,105,116,32]
def gP (c:List bf):Txt:=if c= [] then [] else [32,105,102,32]++gG c
theorem wq (r:cJ):cZ r=qe r.deny++r.id++dH r.tgt++gP r.cond++(dI r.obls++ [59]):=by
 unfold cZ qe gP;cases r.deny<;>simp
set_option maxRecDepth 100000 in
set_option maxHeartbeats 2000000 in
theorem wG:∀(n d:Nat) (p:aR) (h:Heap),d+n=5→jK d p→inP p→aj Tryd.prog 26 [aE p] h fun x h' =>x= .s (gI p)∧h' =h
 |0,d, .mk pid set alg tgt rules kids obls,h,hd,he,hi=>by simp only [jK] at he; omega
 |n+1,d, .mk pid set alg tgt rules kids obls,h,hd,he,hi=>by
  simp only [jK] at he;simp only [inP] at hi;obtain ⟨_,g1,a1,a6,_,_,g2,g3,g4,g5,g6,g7⟩:=he;obtain ⟨i1,i2,i3⟩:=hi;rw [jF] at g7;rw [mO] at i3;have hlim:lim=9223372036854775808:=rfl;have b1:=cw g1;have b2:=iC g2 i1;have b3:=lV alg;have b4:=fS g3;have b5:=qx (set:=set) (alg:=alg) b1 b2;have b8:fN n≤1000000000000:=by
   have hm:∀k,fN k≤fN (k+1):=by
    intro k; induction k with
    |zero=>decide
    |succ k ih=>simp only [fN] at ih⊢; omega
   have:∀j k,fN j≤fN (j+k):=fun j k=>by
    induction k with
    |zero=>exact Nat.le_refl _
    |succ k ih=>exact Nat.le_trans ih (hm _)
   have h4:n≤4:=by omega
   have:=this n (4 - n);rw [show n+(4 - n)=4 by omega] at this
   exact Nat.le_trans this tI
  have hrl:∀i,((rules.take i).map cZ).flatten.length≤1952000:=fun i=>cB _ 16 122000 (by simp; omega) fun x hx=>by
   obtain ⟨r,hr,rfl⟩:=List.mem_map.1 hx;have hr:=List.mem_of_mem_take hr;exact gZ (g6 r hr) (i2 r hr)
  have hkl:∀k∈kids,(gI k).length≤fN n:=fun k hk=>pz n (d+1) k (by omega) (g7 k hk) (i3 k hk)
  have hkf:∀i,((kids.take i).map iJ).flatten.length≤16*(1+fN n):=fun i=>cB _ 16 _ (by simp; omega) fun x hx=>by
   obtain ⟨k,hk,rfl⟩:=List.mem_map.1 hx;have:=hkl k (List.mem_of_mem_take hk);simp only [iJ,Gu,List.length_cons,List.length_nil]; omega
  have rec' :=fun (k:aR) (hk:k∈kids) (h:Heap)=>wG n (d+1) k h (by omega) (g7 k hk) (i3 k hk)
  refine aj.body hU hm Tryd.func26 rfl (by kernel_rfl) 80 rfl [.tmp 2] rfl (Gp rfl) (fun hwf=> ?_)
  simp -implicitDefEqProofs only [go_sem,aE,aC,ay];intro ip hip;have hs0:Ab.Sub h (upd h ip (some (.obj [.s pid, .v (.bool set), .v (.int .i64 alg), .sl (tgt.map aD) .no, .sl (rules.map aB) .no, .sl (aZ kids) .no, .sl (obls.map aN) .no] 28))):= .ah hip;obtain ⟨hb,ehb⟩:∃hb,upd h ip (some (.obj [.s pid, .v (.bool set), .v (.int .i64 alg), .sl (tgt.map aD) .no, .sl (rules.map aB) .no, .sl (aZ kids) .no, .sl (obls.map aN) .no] 28))=hb:=⟨_,rfl⟩;have hbip:hb ip=some (.obj [.s pid, .v (.bool set), .v (.int .i64 alg), .sl (tgt.map aD) .no, .sl (rules.map aB) .no, .sl (aZ kids) .no, .sl (obls.map aN) .no] 28):=by rw [←ehb]; exact ag ..
  rw [ehb] at hs0⊢;clear ehb;simp -implicitDefEqProofs only [go_sem,hbip];refine .via (fun ρ H=>H=hb∧lk ρ 1=some (.ptr ip 0)∧lk ρ 3=some (.s (if set then [115,101,116,32] else [112,111,108,105,99,121,32]))) (fun K hK=> ?_) ?_
  ·cases set
   ·simp -implicitDefEqProofs only [go_sem]
    refine hK _ _ ⟨rfl, ?_, ?_⟩<;>simp -implicitDefEqProofs only [go_sem]
   ·simp -implicitDefEqProofs only [go_sem]
    refine hK _ _ ⟨rfl, ?_, ?_⟩<;>simp -implicitDefEqProofs only [go_sem]
  rintro ρ H ⟨rfl,r1,r3⟩
  have hx1:=oP tgt g2 i1 H;simp only [aC] at hx1;have ek:(if set then ([115,101,116,32]:Txt) else [112,111,108,105,99,121,32]).length≤7:=by cases set<;>simp
  have hhead:fF pid set alg tgt=(if set then ([115,101,116,32]:Txt) else [112,111,108,105,99,121,32])++(pid++ [32]++lO alg++dH tgt++ [32,123]):=rfl
  generalize (if set then ([115,101,116,32]:Txt) else [112,111,108,105,99,121,32])=K0 at hhead ek r3
  have c1:K0.length+pid.length<lim:=by omega
  have c2:(K0++pid).length+(0+1)<lim:=by simp only [Gu]; omega
  have c3:(K0++pid++ [32]).length+(lO alg).length<lim:=by simp only [Gu,List.length_cons,List.length_nil]; omega
  have c4:(K0++pid++ [32]++lO alg).length+(dH tgt).length<lim:=by simp only [Gu,List.length_cons,List.length_nil]; omega
  have c5:(K0++pid++ [32]++lO alg++dH tgt).length+(0+1+1)<lim:=by simp only [Gu,List.length_cons,List.length_nil]; omega
  simp -implicitDefEqProofs only [go_sem,r1,r3];refine .quiet (by kernel_rfl) ?_
  simp -implicitDefEqProofs only [go_sem,r1,r3,hbip,c1,c2];refine ⟨_,Bx alg H, ?_⟩;simp -implicitDefEqProofs only [go_sem,r1,r3,hbip,c3];refine ⟨_,hx1, ?_⟩;simp -implicitDefEqProofs only [go_sem,c4,c5,r1,hbip,Gq];have b5:=b5;have eS0:K0++pid++ [32]++lO alg++dH tgt++ [32,123]=fF pid set alg tgt:=by rw [hhead]; simp only [List.append_assoc]
  generalize hS0:fF pid set alg tgt=S0 at b5 eS0;refine .intro (fun m ρ h' =>Ab.Sub H h'∧∃i:Nat,i≤rules.length∧m=rules.length - i∧lk ρ 1=some (.ptr ip 0)∧lk ρ 3=some (.s (S0++((rules.take i).map cZ).flatten))∧lk ρ 26=some (.sl (rules.map aB) .no)∧lk ρ 27=some (.v (.int .i64 rules.length))∧lk ρ 28=some (.v (.int .i64 i))) rules.length ?_ ?_
  ·refine ⟨.refl _,0,by omega,rfl, ?_, ?_, ?_, ?_, ?_⟩<;>simp -implicitDefEqProofs only [go_sem,r1]
   simp only [List.take_zero,List.map_nil,List.flatten_nil,List.append_nil,←eS0]
  clear r1 r3
  rintro m ρ h1 ⟨hs,i,hi',rfl,r1,r3,r26,r27,r28⟩
  simp -implicitDefEqProofs only [go_sem,r27,r28];refine .intro (fun e=> ?_) (fun e=> ?_)
  ·have hlt:i<rules.length:=Gx e
   have w1:IntKind.i64.wrap ((i:Int)+1)=((i+1:Nat):Int):=by grind [aY]
   have hR1:=g6 _ (Gv hlt);have hR2:=i2 _ (Gv hlt);have hst:((rules.take (i+1)).map cZ).flatten=((rules.take i).map cZ).flatten++cZ rules[i]:=by
    rw [List.take_succ_eq_append_getElem hlt,List.map_append,List.flatten_append];simp
   have hll:=hrl i;generalize ((rules.take i).map cZ).flatten=T0 at hst hll r3;generalize hR:rules[i]=R at hR1 hR2 hst;obtain ⟨d1,d2,d3,d4⟩:=hR1;have l1:=cw d1;have l2:=iC d2 hR2.1;have l3:=mJ d3 hR2.2;have l4:=fS d4;simp -implicitDefEqProofs only [go_sem,r26,r28];refine .at i (by grind) (by rw [Gr]; rfl) ?_
   simp -implicitDefEqProofs only [go_sem,Gr,hR,aB,aC,aH,ay];intro ir hir;have hs2:Ab.Sub H (upd h1 ir (some (.obj [.s R.id, .v (.bool R.deny), .sl (R.tgt.map aD) .no, .sl (R.cond.map aW) .no, .sl (R.obls.map aN) .no] 54))):=hs.trans (.ah hir);have hc:upd h1 ir (some (.obj [.s R.id, .v (.bool R.deny), .sl (R.tgt.map aD) .no, .sl (R.cond.map aW) .no, .sl (R.obls.map aN) .no] 54)) ir=some (.obj [.s R.id, .v (.bool R.deny), .sl (R.tgt.map aD) .no, .sl (R.cond.map aW) .no, .sl (R.obls.map aN) .no] 54):=ag ..;simp -implicitDefEqProofs only [go_sem];generalize upd h1 ir _=h2 at hs2 hc⊢;clear hs hir;refine .via (fun ρ H=>H=h2∧lk ρ 1=some (.ptr ip 0)∧lk ρ 3=some (.s (S0++T0))∧lk ρ 5=some (.ptr ir 0)∧lk ρ 6=some (.s (qe R.deny))∧lk ρ 26=some (.sl (rules.map aB) .no)∧lk ρ 27=some (.v (.int .i64 rules.length))∧lk ρ 28=some (.v (.int .i64 i))) (fun K hK=> ?_) ?_
   ·cases hde:R.deny
    ·simp -implicitDefEqProofs only [go_sem]
     refine hK _ _ ⟨rfl, ?_, ?_, ?_, ?_, ?_, ?_, ?_⟩<;>simp -implicitDefEqProofs only [go_sem,r1,r3,r26,r27,r28,hde,qe]
    ·simp -implicitDefEqProofs only [go_sem]
     refine hK _ _ ⟨rfl, ?_, ?_, ?_, ?_, ?_, ?_, ?_⟩<;>simp -implicitDefEqProofs only [go_sem,r1,r3,r26,r27,r28,hde,qe]
   clear r1 r3 r26 r27 r28
   rintro ρ h3 ⟨rfl,r1,r3,r5,r6,r26,r27,r28⟩
   have le:(qe R.deny).length≤8:=by unfold qe; split<;>simp
   have hat:=wq R;generalize qe R.deny=E at le hat r6;have hy1:=oP R.tgt d2 hR2.1 h3;simp only [aC] at hy1;have c1:(S0++T0).length+E.length<lim:=by simp only [Gu]; omega
   have c2:(S0++T0++E).length+R.id.length<lim:=by simp only [Gu]; omega
   have c3:(S0++T0++E++R.id).length+(dH R.tgt).length<lim:=by simp only [Gu]; omega
   simp -implicitDefEqProofs only [go_sem,r3,r5,r6];refine .quiet (by kernel_rfl) ?_
   simp -implicitDefEqProofs only [go_sem,r3,r5,r6,hc,c1,c2];refine ⟨_,hy1, ?_⟩;simp -implicitDefEqProofs only [go_sem,c3,r5,hc,Gq];have hsz:(S0++T0++E++R.id++dH R.tgt).length≤3000000:=by simp only [Gu]; omega
   have hat2:S0++(T0++cZ R)=S0++T0++E++R.id++dH R.tgt++gP R.cond++(dI R.obls++ [59]):=by rw [hat]; simp only [List.append_assoc]
   generalize S0++T0++E++R.id++dH R.tgt=S1 at hsz hat2⊢;refine .via (fun ρ H=>H=h3∧lk ρ 1=some (.ptr ip 0)∧lk ρ 3=some (.s (S1++gP R.cond))∧lk ρ 5=some (.ptr ir 0)∧lk ρ 26=some (.sl (rules.map aB) .no)∧lk ρ 27=some (.v (.int .i64 rules.length))∧lk ρ 28=some (.v (.int .i64 i))) (fun K hK=> ?_) ?_
   ·cases hcl:decide (0<(R.cond.length:Int))
    ·have hcn:R.cond= []:=List.length_eq_zero_iff.1 (by have:=Gt hcl; omega)
     simp -implicitDefEqProofs only [go_sem,hcl];refine hK _ _ ⟨rfl, ?_, ?_, ?_, ?_, ?_, ?_⟩
     ·simp -implicitDefEqProofs only [go_sem,r1]
     ·rw [gP,if_pos hcn,List.append_nil]
      simp -implicitDefEqProofs only [go_sem]
     all_goals simp -implicitDefEqProofs only [go_sem,r5,r26,r27,r28]
    ·have hcn:R.cond≠ []:=fun e=>by rw [e] at hcl; cases hcl
     have hy2:=tO R.cond hcn d3 hR2.2 h3;simp only [aH] at hy2;have c5:S1.length+(0+1+1+1+1)<lim:=by omega
     have c6:(S1++ [32,105,102,32]).length+(gG R.cond).length<lim:=by simp only [Gu,List.length_cons,List.length_nil]; omega
     simp -implicitDefEqProofs only [go_sem,hcl,r5,hc,c5];refine hy2.pthen ?_;simp -implicitDefEqProofs only [go_sem,c6];refine hK _ _ ⟨rfl, ?_, ?_, ?_, ?_, ?_, ?_⟩
     ·simp -implicitDefEqProofs only [go_sem,r1]
     ·rw [gP,if_neg hcn,←List.append_assoc]
      simp -implicitDefEqProofs only [go_sem]
     all_goals simp -implicitDefEqProofs only [go_sem,r5,r26,r27,r28]
   clear r1 r3 r5 r6 r26 r27 r28
   rintro ρ h4 ⟨rfl,r1,r3,r5,r26,r27,r28⟩
   have hcp:(gP R.cond).length≤6300:=by unfold gP; split<;>simp<;>omega
   have hy3:=tP R.obls d4 h4;simp only [ay] at hy3;have c7:(S1++gP R.cond).length+(dI R.obls).length<lim:=by simp only [Gu]; omega
   have c8:(S1++gP R.cond++dI R.obls).length+(0+1)<lim:=by simp only [Gu]; omega
   simp -implicitDefEqProofs only [go_sem,r3,r5,hc];refine hy3.pthen ?_;simp -implicitDefEqProofs only [go_sem,c7,c8,r28,w1];refine ⟨rules.length - (i+1),by omega,hs2,i+1,by omega,rfl, ?_, ?_, ?_, ?_, ?_⟩
   ·simp -implicitDefEqProofs only [go_sem,r1]
   ·rw [hst,hat2,←List.append_assoc]
    simp -implicitDefEqProofs only [go_sem]
   all_goals simp -implicitDefEqProofs only [go_sem,r26,r27]
  have hge:i=rules.length:=by grind
  subst hge;rw [List.take_length] at r3;have hll:=hrl rules.length;rw [List.take_length] at hll;have hip1:=hs _ _ hbip;have eT:gI (.mk pid set alg tgt rules kids obls)=S0++(rules.map cZ).flatten++(kids.map iJ).flatten++ [32,125]++dI obls:=by
   rw [←hS0,←ku];simp only [gI,fF]
  generalize hS2:S0++(rules.map cZ).flatten=S2 at r3 eT;have hS2l:S2.length≤3000000:=by rw [←hS2,Gu]; omega
  simp -implicitDefEqProofs only [go_sem,r1,hip1,aG,Gq];refine .intro (fun m ρ h' =>Ab.Sub H h'∧∃i:Nat,i≤kids.length∧m=kids.length - i∧lk ρ 1=some (.ptr ip 0)∧lk ρ 3=some (.s (S2++((kids.take i).map iJ).flatten))∧lk ρ 62=some (.sl (kids.map aE) .no)∧lk ρ 63=some (.v (.int .i64 kids.length))∧lk ρ 64=some (.v (.int .i64 i))) kids.length ?_ ?_
  ·refine ⟨hs,0,by omega,rfl, ?_, ?_, ?_, ?_, ?_⟩<;>simp -implicitDefEqProofs only [go_sem,r1,r3]
   simp
  clear r1 r3 r26 r27 r28 hs hip1
  rintro m ρ h1 ⟨hs,i,hi',rfl,r1,r3,r62,r63,r64⟩
  have hkfi:=hkf i;simp -implicitDefEqProofs only [go_sem,r63,r64];refine .intro (fun e=> ?_) (fun e=> ?_)
  ·have hlt:i<kids.length:=Gx e
   have w1:IntKind.i64.wrap ((i:Int)+1)=((i+1:Nat):Int):=by grind [aY]
   have hst:((kids.take (i+1)).map iJ).flatten=((kids.take i).map iJ).flatten++([32]++gI kids[i]):=by
    rw [List.take_succ_eq_append_getElem hlt,List.map_append,List.flatten_append];simp [iJ]
   have hrec:=fun hh=>rec' _ (Gv hlt) hh
   have hkl' :=hkl _ (Gv hlt);generalize ((kids.take i).map iJ).flatten=T0 at hst hkfi r3;have c1:(S2++T0).length+(0+1)<lim:=by simp only [Gu]; omega
   have c2:(S2++T0++ [32]).length+(gI kids[i]).length<lim:=by simp only [Gu,List.length_cons,List.length_nil]; omega
   generalize hT1:gI kids[i]=T1 at hst hkl' c2 hrec;cases hki' :kids[i] with
   |mk kid kset kalg ktgt krules kkids kobls=>
   rw [hki'] at hrec;simp only [aE,aC,ay] at hrec;simp -implicitDefEqProofs only [go_sem,r62,r64];refine .at i (by grind) (by grind [er]) ?_
   simp -implicitDefEqProofs only [go_sem,Gr,hki',aE,aC,ay];intro ir hir;simp -implicitDefEqProofs only [go_sem,r3,c1];refine (hrec _).pthen ?_;simp -implicitDefEqProofs only [go_sem,c2,r64,w1];refine ⟨kids.length - (i+1),by omega,hs.trans (.ah hir),i+1,by omega,rfl, ?_, ?_, ?_, ?_, ?_⟩
   ·simp -implicitDefEqProofs only [go_sem,r1]
   ·rw [hst,←List.append_assoc,←List.append_assoc]
    simp -implicitDefEqProofs only [go_sem]
   all_goals simp -implicitDefEqProofs only [go_sem,r62,r63]
  ·have hge:i=kids.length:=by grind
   subst hge;rw [List.take_length] at r3 hkfi;have hip1:=hs _ _ hbip;generalize (kids.map iJ).flatten=T0 at eT hkfi r3;have hy3:=tP obls g3 h1;simp only [ay] at hy3;have c1:(S2++T0).length+(0+1+1)<lim:=by simp only [Gu]; omega
   have c2:(S2++T0++ [32,125]).length+(dI obls).length<lim:=by simp only [Gu,List.length_cons,List.length_nil]; omega
   simp -implicitDefEqProofs only [go_sem,r1,r3,hip1,c1];refine hy3.pthen ?_;simp -implicitDefEqProofs only [go_sem,c2];exact .mk _ (.refl _) (hs0.trans hs) ⟨by rw [eT]; rfl,rfl⟩
theorem xT (p:aR) (hi:inP p) (h:Heap):aj Tryd.prog 12 [aE p] h fun r h' =>r= .s (nu p)∧h' =h:=by
 have hr:=fun hh=>Af p hh
 have hs:=fun e hh=>wG 4 1 p hh rfl e hi
 obtain ⟨pid,pset,palg,ptgt,prules,pkids,pobls,ep⟩:=kK p;have ea:aE p= .agg [.s pid, .v (.bool pset), .v (.int .i64 palg),aC ptgt, .sl (prules.map aB) .no, .sl (pkids.map aE) .no,ay pobls]:=by rw [ep,jJ]
 simp only [ea] at hr hs⊢;refine aj.body hU hm Tryd.func12 rfl (by kernel_rfl) 8 rfl [.tmp 2] rfl (Gp rfl) (fun hwf=> ?_)
 simp -implicitDefEqProofs only [go_sem];intro ip hip;simp -implicitDefEqProofs only [go_sem];refine aj.pthen (show aj Tryd.prog 25 [_] _ _ from hr _) ?_
 cases d1:(eC p !=(0:Int))
 case true=>
  have e1:eC p≠0:=by simpa using d1
  simp -implicitDefEqProofs only [go_sem,d1];exact .mk _ (.refl _) (.ah hip) ⟨by rw [nu,if_neg e1]; rfl,rfl⟩
 have e1:eC p=0:=by simpa using d1
 simp -implicitDefEqProofs only [go_sem,d1];refine aj.pthen (show aj Tryd.prog 26 [_] _ _ from hs (sK e1).1 _) ?_
 simp -implicitDefEqProofs only [go_sem];exact .mk _ (.refl _) (.ah hip) ⟨by rw [nu,if_pos e1]; rfl,rfl⟩
def LO (n:Int):Blk:= .obj [.v (.int .i64 n)] 44
theorem uu {h:Heap} {id:Nat} (b:Option Blk):Keeps [id] h (upd h id b):=fun j k hj hb=>by
 rw [af _ _ (by simpa using hj)]; exact hb
theorem gA {i:Nat} {n:Nat} (h:i<n) (hn:n<9223372036854775808):IntKind.i64.wrap ((i:Int)+1)=((i+1:Nat):Int):=by rw [aY _ (by omega)]; omega
def RO (r:cJ):Blk:= .obj [.s r.id, .v (.bool r.deny), .sl (r.tgt.map aD) .no, .sl (r.cond.map aW) .no, .sl (r.obls.map aN) .no] 54
def NO (n:bf):Blk:= .obj [.v (.int .i64 n.op), .v (.int .i64 n.val.kind), .v (.int .i64 n.val.n), .s n.val.s, .v (.int .i64 n.attr.cat), .s n.attr.name, .v (.bool n.attr.must)] 52
theorem mE {x:AV} (h:Dat U 31 x):∃a:eU,x=dZ a:=by
 obtain ⟨ys,rfl,hys⟩:=h.eR (show (U 31).k= .strct [(0,3),(1,9),(2,4)] by simp only [go_sem])
 simp only [List.map_cons,List.map_nil,fZ] at hys;obtain ⟨y0,_,rfl,d0,y1,_,rfl,d1,y2,_,rfl,d2,rfl⟩:=hys;obtain ⟨n,rfl,_⟩:=d0.i64 (by simp only [go_sem])
 obtain ⟨s,rfl,_⟩:=d1.jR (by simp only [go_sem])
 obtain ⟨b,rfl⟩:=d2.mu (by simp only [go_sem])
 exact ⟨⟨n,s,b⟩,by simp [dZ,iA,AV.cells]⟩
theorem tj {x:AV} (h:Dat U 46 x):∃v:iG,x=iL v∧inV v:=by
 obtain ⟨ys,rfl,hys⟩:=h.eR (show (U 46).k= .strct [(0,3),(1,3),(2,9)] by simp only [go_sem])
 simp only [List.map_cons,List.map_nil,fZ] at hys;obtain ⟨y0,_,rfl,d0,y1,_,rfl,d1,y2,_,rfl,d2,rfl⟩:=hys;obtain ⟨n,rfl,_⟩:=d0.i64 (by simp only [go_sem])
 obtain ⟨m,rfl,hm⟩:=d1.i64 (by simp only [go_sem])
 obtain ⟨s,rfl,_⟩:=d2.jR (by simp only [go_sem])
 exact ⟨⟨n,m,s⟩,by simp [iL,iA,AV.cells],hm⟩
theorem ua {x:AV} (h:Dat U 48 x):∃m:bl,x=cE m∧inV m.val:=by
 obtain ⟨ys,rfl,hys⟩:=h.eR (show (U 48).k= .strct [(0,31),(3,3),(4,46)] by simp only [go_sem])
 simp only [List.map_cons,List.map_nil,fZ] at hys;obtain ⟨y0,_,rfl,d0,y1,_,rfl,d1,y2,_,rfl,d2,rfl⟩:=hys;obtain ⟨a,rfl⟩:=mE d0;obtain ⟨n,rfl,_⟩:=d1.i64 (by simp only [go_sem])
 obtain ⟨v,rfl,hv⟩:=tj d2;exact ⟨⟨a,n,v⟩,by simp [cE,dZ,iL,iA,AV.cells],hv⟩
theorem vr {x:AV} (h:Dat U 52 x):∃m:bf,x=aW m∧inV m.val:=by
 obtain ⟨ys,rfl,hys⟩:=h.eR (show (U 52).k= .strct [(0,3),(1,46),(4,31)] by simp only [go_sem])
 simp only [List.map_cons,List.map_nil,fZ] at hys;obtain ⟨y0,_,rfl,d0,y1,_,rfl,d1,y2,_,rfl,d2,rfl⟩:=hys;obtain ⟨n,rfl,_⟩:=d0.i64 (by simp only [go_sem])
 obtain ⟨v,rfl,hv⟩:=tj d1;obtain ⟨a,rfl⟩:=mE d2;exact ⟨⟨n,v,a⟩,by simp [aW,dZ,iL,iA,AV.cells],hv⟩
theorem xz {x:AV} (h:Dat U 56 x):∃o:iF,x=aN o:=by
 obtain ⟨ys,rfl,hys⟩:=h.eR (show (U 56).k= .strct [(0,3),(1,3),(2,9)] by simp only [go_sem])
 simp only [List.map_cons,List.map_nil,fZ] at hys;obtain ⟨y0,_,rfl,d0,y1,_,rfl,d1,y2,_,rfl,d2,rfl⟩:=hys;obtain ⟨n,rfl,_⟩:=d0.i64 (by simp only [go_sem])
 obtain ⟨m,rfl,_⟩:=d1.i64 (by simp only [go_sem])
 obtain ⟨s,rfl,_⟩:=d2.jR (by simp only [go_sem])
 exact ⟨⟨n,m,s⟩,by simp [aN,iA,AV.cells]⟩
theorem xx {x:AV} (h:Dat U 49 x):∃l:List bl,x=bR l∧inA l:=by
 obtain ⟨l,rfl,_,hl⟩:=h.list (e:=48) (f:=cE) (p:=fun m=>inV m.val) (by simp only [go_sem]) fun y hy=>ua hy
 exact ⟨l,rfl,hl⟩
theorem xy {x:AV} (h:Dat U 50 x):∃l:List (List bl),x=aD l∧inY l:=by
 obtain ⟨l,rfl,_,hl⟩:=h.list (e:=49) (f:=bR) (p:=inA) (by simp only [go_sem]) fun y hy=>xx hy
 exact ⟨l,rfl,hl⟩
theorem th {x:AV} (h:Dat U 23 x):∃t:gH,x=aC t∧inT t:=by
 obtain ⟨l,rfl,_,hl⟩:=h.list (e:=50) (f:=aD) (p:=inY) (by simp only [go_sem]) fun y hy=>xy hy
 exact ⟨l,rfl,hl⟩
theorem p8 {x:AV} (h:Dat U 29 x):∃l:List bf,x=aH l∧inL l:=by
 obtain ⟨l,rfl,_,hl⟩:=h.list (e:=52) (f:=aW) (p:=fun n=>inV n.val) (by simp only [go_sem]) fun y hy=>vr hy
 exact ⟨l,rfl,hl⟩
theorem p9 {x:AV} (h:Dat U 26 x):∃l:List iF,x=ay l:=by
 obtain ⟨l,rfl,_,_⟩:=h.list (e:=56) (f:=aN) (p:=fun _=>True) (by simp only [go_sem]) fun y hy=>by
  obtain ⟨o,rfl⟩:=xz hy;exact ⟨o,rfl,trivial⟩
 exact ⟨l,rfl⟩
theorem vu {x:AV} (h:Dat U 54 x):∃r:cJ,x=aB r∧inR r:=by
 obtain ⟨ys,rfl,hys⟩:=h.eR (show (U 54).k= .strct [(0,9),(1,4),(2,23),(3,29),(4,26)] by simp only [go_sem])
 simp only [List.map_cons,List.map_nil,fZ] at hys;obtain ⟨y0,_,rfl,d0,y1,_,rfl,d1,y2,_,rfl,d2,y3,_,rfl,d3,y4,_,rfl,d4,rfl⟩:=hys;obtain ⟨s,rfl,_⟩:=d0.jR (by simp only [go_sem])
 obtain ⟨b,rfl⟩:=d1.mu (by simp only [go_sem])
 obtain ⟨t,rfl,ht⟩:=th d2;obtain ⟨c,rfl,hc⟩:=p8 d3;obtain ⟨o,rfl⟩:=p9 d4;exact ⟨⟨s,b,t,c,o⟩,by simp [aB,aC,aH,ay,AV.cells],ht,hc⟩
theorem vt {t:TypeId} {x:AV} (h:Dat U t x):(t=28→∃p:aR,x=aE p∧inP p)∧(t=25→∃ps:List aR,x= .sl (aZ ps) .no∧inK ps):=by
 induction h with
 |bool b hk=>
  refine ⟨fun e=> ?_,fun e=> ?_⟩<;>subst e<;>simp only [go_sem] at hk<;>cases hk
 |int n hk hw=>
  refine ⟨fun e=> ?_,fun e=> ?_⟩<;>subst e<;>simp only [go_sem] at hk<;>cases hk
 |str l hk hl=>
  refine ⟨fun e=> ?_,fun e=> ?_⟩<;>subst e<;>simp only [go_sem] at hk<;>cases hk
 | @slice t e xs hk hx hl ih=>
  refine ⟨fun e=> ?_,fun e=> ?_⟩
  ·subst e; simp only [go_sem] at hk
  ·subst e
   have hk' :(U 25).k= .slice 28:=by simp only [go_sem]
   obtain rfl:e=28:=by rw [hk'] at hk; cases hk; rfl
   obtain ⟨ps,hps,hin⟩:=iW xs fun y hy=>(ih y hy).1 rfl
   exact ⟨ps,by rw [hps,aG],(mO ps).2 hin⟩
 | @strct t fs ys hk hn hx ih=>
  refine ⟨fun e=> ?_,fun e=> ?_⟩
  ·subst e
   have hk' :(U 28).k= .strct [(0,9),(1,4),(2,3),(3,23),(4,24),(5,25),(6,26)]:=by simp only [go_sem]
   obtain rfl:fs= [(0,9),(1,4),(2,3),(3,23),(4,24),(5,25),(6,26)]:=by rw [hk'] at hk; cases hk; rfl
   match ys,hn with
   | [y0,y1,y2,y3,y4,y5,y6],_=>
   obtain ⟨s,rfl,_⟩:=(show Dat U 9 y0 from hx 0 (by decide) (by simp)).jR (by simp only [go_sem])
   obtain ⟨b,rfl⟩:=(show Dat U 4 y1 from hx 1 (by decide) (by simp)).mu (by simp only [go_sem])
   obtain ⟨n,rfl,_⟩:=(show Dat U 3 y2 from hx 2 (by decide) (by simp)).i64 (by simp only [go_sem])
   obtain ⟨t,rfl,ht⟩:=th (show Dat U 23 y3 from hx 3 (by decide) (by simp))
   obtain ⟨rs,rfl,_,hr⟩:=(show Dat U 24 y4 from hx 4 (by decide) (by simp)).list (e:=54) (f:=aB) (p:=inR) (by simp only [go_sem]) fun y hy=>vu hy
   obtain ⟨ks,hks,hin⟩:=(ih 5 (by decide) (by simp)).2 rfl
   obtain ⟨o,rfl⟩:=p9 (show Dat U 26 y6 from hx 6 (by decide) (by simp))
   simp only [List.getElem_cons_succ,List.getElem_cons_zero] at hks;subst hks;exact ⟨.mk s b n t rs ks o,by simp [aE,aC,ay,iA,AV.cells],by simp only [inP]; exact ⟨ht,hr,hin⟩⟩
  ·subst e; simp only [go_sem] at hk
theorem xA {x:AV} (h:Dat U 28 x):∃p:aR,x=aE p∧inP p:=(vt h).1 rfl
def smZ (z:List bl):Prop:=z.length≤3000
def smY (y:List (List bl)):Prop:=y.length≤3000∧∀z∈y,smZ z
def smT (t:gH):Prop:=t.length≤3000∧∀y∈t,smY y
def smR (r:cJ):Prop:=smT r.tgt∧r.cond.length≤3000∧r.obls.length≤3000
mutual
def smP:aR→Prop
 | .mk id set alg tgt rules kids obls=>smT tgt∧rules.length≤3000∧obls.length≤3000∧kids.length≤3000∧(∀r∈rules,smR r)∧smK kids
def smK:List aR→Prop
 | []=>True
 |k::r=>smP k∧smK r
end
theorem sL:∀l:List aR,smK l↔∀k∈l,smP k
 | []=>by simp [smK]
 |k::r=>by simp [smK,sL r]
mutual
def jG:AV→Prop
 | .agg cs=>uw cs
 | .sl xs _=>xs.length<9223372036854775808∧uw xs
 |_=>True
def uw:List AV→Prop
 | []=>True
 |x::r=>jG x∧uw r
end
theorem ff:∀l:List AV,uw l↔∀x∈l,jG x
 | []=>by simp [uw]
 |x::r=>by simp [uw,ff r]
theorem so {x:AV} (h:jG x):∀y∈x.cells,jG y:=fun y hy=>by
 cases x with
 |agg cs=>exact (ff cs).1 h y hy
 |_=>rw [List.mem_singleton.1 hy]; exact h
theorem vq {t:TypeId} {x:AV} (h:Dat U t x):jG x:=by
 induction h with
 |bool b hk=>trivial
 |int n hk hw=>trivial
 |str l hk hl=>trivial
 |slice xs hk hx hl ih=>exact ⟨by have:maxLen=9223372036854775807:=rfl; omega,(ff _).2 ih⟩
 |strct ys hk hn hx ih=>
  refine (ff _).2 fun y hy=> ?_
  obtain ⟨cs,hcs,hyc⟩:=List.mem_flatten.1 hy;obtain ⟨z,hz,rfl⟩:=List.mem_map.1 hcs;obtain ⟨i,hi,rfl⟩:=List.mem_iff_getElem.1 hz;exact so (ih i (by omega) hi) y hyc
theorem kC {α:Type} {f:α→AV} {l:List α} {p:Perm} (h:jG (.sl (l.map f) p)):l.length<9223372036854775808∧∀x∈l,jG (f x):=by
 obtain ⟨h1,h2⟩:=h;rw [Gq] at h1;exact ⟨h1,fun x hx=>(ff _).1 h2 _ (List.mem_map.2 ⟨x,hx,rfl⟩)⟩
def St (n:Int):Prop:=(0≤n∧n≤3000)∨(-9223372036854775808≤n∧n≤ -9223372036854772808)
def MP (h H:Heap) (id:Nat) (n:Int):Prop:=Keeps [id] h H∧H id=some (LO n)∧St n
def MC (f:FuncId) (args:List AV) (I:Int→Prop) (P:Int→Int→Prop):Prop:=∀(h:Heap) (id:Nat) (n:Int),MP h h id n→I n→aj Tryd.prog f (.ptr id 0::args) h fun r h' =>∃b n',r= .v (.bool b)∧MP h h' id n'∧(b=true→P n n')
theorem MP.start {h:Heap} {id:Nat} {n:Int} (hid:h id=some (LO n)) (h0:St n):MP h h id n:=⟨.of (.refl _),hid,h0⟩
theorem MP.new {h H:Heap} {id i:Nat} {n:Int} (x:MP h H id n) (hi:H i=none) (b:Option Blk):MP h (upd H i b) id n∧id≠i:=by
 obtain ⟨h1,h2,h3⟩:=x;have ne:id≠i:=fun e=>by rw [e,hi] at h2; cases h2
 exact ⟨⟨h1.trans (.of (Sub.ah hi)),by rw [af _ _ ne]; exact h2,h3⟩,ne⟩
theorem MC.go {f:FuncId} {args:List AV} {I:Int→Prop} {P:Int→Int→Prop} (hc:MC f args I P) {h H:Heap} {id:Nat} {n:Int} (x:MP h H id n) (hI:I n) {Q:AV→Heap→Prop} (k:∀b H' n',MP h H' id n'→(b=true→P n n')→(∀j c,j≠id→H j=some c→H' j=some c)→Q (.v (.bool b)) H'):aj Tryd.prog f (.ptr id 0::args) H Q:=
 (hc H id n (.start x.2.1 x.2.2) hI).mono fun r H' ⟨b,n',hb,hm,hP⟩=>by
  subst hb;exact k b H' n' ⟨x.1.trans hm.1,hm.2⟩ hP fun j c hj e=>hm.1 j c (by simpa using hj) e
theorem mtakes (m:Int) (hs:∀n,St n→m≤n→St (IntKind.i64.wrap (n - m))):MC 36 [.v (.int .i64 m)] (fun _=>True) (fun n n' =>m≤n∧n' =IntKind.i64.wrap (n - m)):=fun h id n hx _=>by
 refine aj.body hU hm Tryd.func36 rfl (by kernel_rfl) 20 rfl [.tmp 4] rfl (Gp rfl) (fun hwf=> ?_)
 have hid:=hx.2.1;have g:=hid;unfold LO at g;cases d1:decide (n<m)
 ·have e1:=Gt d1
  simp -implicitDefEqProofs only [go_sem,g,d1];exact .same (.refl _) ⟨true,_,rfl,⟨uu _,ag ..,hs n hx.2.2 (by omega)⟩,fun _=>⟨by omega,rfl⟩⟩
 ·simp -implicitDefEqProofs only [go_sem,g,d1]
  exact .same (.refl _) ⟨false,n,rfl,hx,fun e=>by cases e⟩
theorem mrow (L:Nat) (hL:L<9223372036854775808):MC 36 [.v (.int .i64 (IntKind.i64.wrap (1+(L:Int))))] (fun _=>True) (fun n n' =>(L≤3000→1+(L:Int)≤n∧n' =n - 1 - L)∧(n' <0→0<L)∧(0≤n→0≤n'→L≤3000)):=fun h id n hx _=>by
 by_cases hm:L=9223372036854775807
 ·subst hm
  have w:IntKind.i64.wrap (1+((9223372036854775807:Nat):Int))= -9223372036854775808:=by decide
  rw [w];have hw:∀n,St n→(0≤n→IntKind.i64.wrap (n - -9223372036854775808)=n - 9223372036854775808)∧(n<0→IntKind.i64.wrap (n - -9223372036854775808)=n+9223372036854775808):=fun n hn=>by
   unfold St at hn;constructor
   ·intro h0
    simp only [IntKind.wrap,IntKind.signed,IntKind.bits];simp;omega
   ·intro h0
    rw [aY _ (by omega)]
    omega
  refine (mtakes (-9223372036854775808) (fun n hn hle=>by
   obtain ⟨h1,h2⟩:=hw n hn;unfold St at hn⊢
   by_cases h0:0≤n
   ·rw [h1 h0]; omega
   ·rw [h2 (by omega)]; omega) h id n hx trivial).mono fun r h' ⟨b,n',hb,hp,hP⟩=>⟨b,n',hb,hp,fun e=> ?_⟩
  obtain ⟨_,e2⟩:=hP e;obtain ⟨h1,h2⟩:=hw n hx.2.2;refine ⟨by omega,by omega,fun h0 h9=> ?_⟩
  rw [h1 h0] at e2;have:=hx.2.2;unfold St at this;omega
 ·have w:IntKind.i64.wrap (1+(L:Int))=1+(L:Int):=by rw [aY _ (by omega)]
  rw [w];have hw:∀n,St n→1+(L:Int)≤n→IntKind.i64.wrap (n - (1+(L:Int)))=n - (1+(L:Int)):=fun n hn hle=>by
   unfold St at hn;rw [aY _ (by omega)]
  refine (mtakes (1+(L:Int)) (fun n hn hle=>by
   rw [hw n hn hle];unfold St at hn⊢;omega) h id n hx trivial).mono fun r h' ⟨b,n',hb,hp,hP⟩=>⟨b,n',hb,hp,fun e=> ?_⟩
  obtain ⟨e1,e2⟩:=hP e;rw [hw n hx.2.2 e1] at e2;have:=hx.2.2;unfold St at this;omega
theorem mlen (L:Nat) (hL:L<9223372036854775808):MC 36 [.v (.int .i64 (L:Int))] (fun _=>True) (fun n n' =>(L:Int)≤n∧n' =n - L∧0≤n'):=fun h id n hx _=>by
 have hw:∀n,St n→(L:Int)≤n→IntKind.i64.wrap (n - (L:Int))=n - (L:Int):=fun n hn hle=>by
  unfold St at hn;rw [aY _ (by omega)]
 refine (mtakes (L:Int) (fun n hn hle=>by
  rw [hw n hn hle];unfold St at hn⊢;omega) h id n hx trivial).mono fun r h' ⟨b,n',hb,hp,hP⟩=>⟨b,n',hb,hp,fun e=> ?_⟩
 obtain ⟨e1,e2⟩:=hP e;rw [hw n hx.2.2 e1] at e2;exact ⟨e1,e2,by omega⟩
theorem mtext (s:Txt):MC 37 [.s s] (fun _=>True) (fun n n' =>0≤n'∧n' <n):=fun h id n hx _=>by
 refine aj.body hU hm Tryd.func37 rfl (by kernel_rfl) 11 rfl [.tmp 4] rfl (Gp rfl) (fun hwf=> ?_)
 have hs:s.length<9223372036854775808:=by have:=hwf (.s s) (by simp); simpa only [wfA,wf1,lim] using this
 have e8:((s.length:Int).tdiv 8)=((s.length / 8:Nat):Int):=rfl;have w1:IntKind.i64.wrap ((s.length / 8:Nat):Int)=((s.length / 8:Nat):Int):=by rw [aY _ (by omega)]
 have w2:IntKind.i64.wrap (1+((s.length / 8:Nat):Int))=((s.length / 8+1:Nat):Int):=by rw [aY _ (by omega)]; omega
 simp -implicitDefEqProofs only [go_sem,e8,w1,w2];refine ⟨by decide, ?_⟩
 refine (mlen (s.length / 8+1) (by omega)).go hx trivial fun b H n1 hm hP _=> ?_
 simp -implicitDefEqProofs only [go_sem];exact .same (.refl _) ⟨b,n1,rfl,hm,fun e=>by have:=hP e; omega⟩
theorem mobls (l:List iF):MC 39 [ay l] (fun _=>True) (fun n n' =>l.length≤3000∧0≤n'∧n'≤n):=fun h id n hx _=>by
 refine aj.body hU hm Tryd.func39 rfl (by kernel_rfl) 24 rfl [.tmp 4] rfl (Gp rfl) (fun hwf=> ?_)
 have hlw:l.length<9223372036854775808:=by have:=hwf (ay l) (by simp); simpa only [ay,wfA,wf1,lim,Gq] using this
 have hn:=hx.2.2;unfold St at hn;simp -implicitDefEqProofs only [go_sem,ay,Gq];refine (mlen _ hlw).go hx trivial fun b h1 n1 hm1 hP1 _=> ?_
 cases b
 ·simp -implicitDefEqProofs only [go_sem]
  exact .same (.refl _) ⟨false,_,rfl,hm1,fun e=>by cases e⟩
 have hP1:=hP1 rfl;have hl:l.length≤3000:=by omega
 simp -implicitDefEqProofs only [go_sem,Gq];refine .intro (fun m ρ H=>∃(n' :Int) (i:Nat),MP h H id n'∧0≤n'∧n'≤n∧i≤l.length∧m=l.length - i∧lk ρ 0=some (.ptr id 0)∧lk ρ 12=some (.sl (l.map aN) .no)∧lk ρ 13=some (.v (.int .i64 l.length))∧lk ρ 14=some (.v (.int .i64 i))) l.length ?_ ?_
 ·refine ⟨n1,0,hm1,hP1.2.2,by omega,Nat.zero_le _,rfl, ?_, ?_, ?_, ?_⟩<;>simp -implicitDefEqProofs only [go_sem]<;>rfl
 rintro m ρ H ⟨n2,i,hm,h0,hle,hi,rfl,r0,r12,r13,r14⟩
 simp -implicitDefEqProofs only [go_sem,r0,r12,r13,r14];refine .intro (fun e=> ?_) (fun e=> ?_)
 ·have hlt:i<l.length:=Gx e
  have w1:IntKind.i64.wrap ((i:Int)+1)=((i+1:Nat):Int):=gA hlt (by omega)
  simp -implicitDefEqProofs only [go_sem,r0,r12,r13,r14];refine .at i (by simpa using hlt) (by rw [Gr]; rfl) ?_
  simp -implicitDefEqProofs only [go_sem,r0,r12,r13,r14,Gr,aN];intro i6 h6;obtain ⟨hm2,ne⟩:=hm.new h6 (some (.obj [.v (.int .i64 l[i].on), .v (.int .i64 l[i].kind), .s l[i].arg] 56));simp -implicitDefEqProofs only [go_sem,r0,r12,r13,r14];refine (mtext _).go hm2 trivial fun b h3 n3 hm3 hP3 _=> ?_
  cases b
  ·simp -implicitDefEqProofs only [go_sem]
   exact .same (.refl _) ⟨false,_,rfl,hm3,fun e=>by cases e⟩
  have hP3:=hP3 rfl;simp -implicitDefEqProofs only [go_sem,r0,r12,r13,r14,w1];refine ⟨l.length - (i+1),by omega,n3,i+1,hm3,hP3.1,by omega,hlt,rfl, ?_, ?_, ?_, ?_⟩
  all_goals simp -implicitDefEqProofs only [go_sem,r0,r12,r13,r14,w1]
 ·simp -implicitDefEqProofs only [go_sem]
  exact .same (.refl _) ⟨true,_,rfl,hm,fun _=>⟨hl,h0,hle⟩⟩
theorem mtarget (t:gH) (hlen:jG (aC t)):MC 38 [aC t] (fun n=>0≤n) (fun n n' =>smT t∧0≤n'∧n' <n):=fun h id n hx h0=>by
 refine aj.body hU hm Tryd.func38 rfl (by kernel_rfl) 64 rfl [.tmp 4] rfl (Gp rfl) (fun hwf=> ?_)
 obtain ⟨hml,hlenY⟩:=kC hlen;simp -implicitDefEqProofs only [go_sem,aC,Gq];refine (mrow _ hml).go hx trivial fun b h1 n1 hp1 hP1 _=> ?_
 cases b
 ·simp -implicitDefEqProofs only [go_sem]
  exact .same (.refl _) ⟨false,_,rfl,hp1,fun e=>by cases e⟩
 have hP1:=hP1 rfl;simp -implicitDefEqProofs only [go_sem,Gq];refine .intro (fun m ρ H=>∃(n' :Int) (i:Nat),MP h H id n'∧((0≤n'→n' +i≤n1∧0≤n1∧∀y∈t.take i,smY y)∧(n' <0→i=0∧n1<0))∧i≤t.length∧m=t.length - i∧lk ρ 0=some (.ptr id 0)∧lk ρ 17=some (.sl (t.map aD) .no)∧lk ρ 18=some (.v (.int .i64 t.length))∧lk ρ 19=some (.v (.int .i64 i))) t.length ?_ ?_
 ·refine ⟨n1,0,hp1,⟨fun h=>⟨by omega,h,by simp⟩,fun h=>⟨rfl,h⟩⟩,Nat.zero_le _,rfl, ?_, ?_, ?_, ?_⟩<;>simp -implicitDefEqProofs only [go_sem]<;>rfl
 rintro m ρ H ⟨n',i,hp,hI,hi,rfl,r0,r17,r18,r19⟩
 simp -implicitDefEqProofs only [go_sem,r0,r17,r18,r19];refine .intro (fun e=> ?_) (fun e=> ?_)
 case refine_2=>
  have hge:i=t.length:=by have:=Gt e; omega
  subst hge;simp -implicitDefEqProofs only [go_sem];refine .same (.refl _) ⟨true,_,rfl,hp,fun _=> ?_⟩
  have hn' :0≤n' :=by
   by_cases h9:0≤n'
   ·exact h9
   ·have:=hI.2 (by omega)
    have:=hP1.2.1 this.2;omega
  obtain ⟨k1,k2,k3⟩:=hI.1 hn';have k4:=hP1.2.2 h0 k2;have k5:=hP1.1 k4;rw [List.take_length] at k3;exact ⟨⟨k4,k3⟩,hn',by omega⟩
 have hlt:i<t.length:=Gx e;have w1:=gA hlt hml;simp -implicitDefEqProofs only [go_sem,r0,r17,r18,r19];refine .at i (by simpa using hlt) (by rw [Gr]; rfl) ?_
 simp -implicitDefEqProofs only [go_sem,r0,r17,r18,r19,Gr,aD,Gq];have hst:∀y,t[i]=y→smY y→(∀y∈t.take i,smY y)→∀y∈t.take (i+1),smY y:=fun y hy h1 h2 x hx=>by
  rw [List.take_succ_eq_append_getElem hlt,List.mem_append,List.mem_singleton] at hx;rcases hx with hx|rfl
  ·exact h2 x hx
  ·rw [hy]; exact h1
 obtain ⟨hml2,hlenZ⟩:=kC (hlenY _ (Gv hlt));generalize t[i]=y at hst hml2 hlenZ;have hst:=hst y rfl;refine (mrow _ hml2).go hp trivial fun b h1 n2 hp1 hP2 _=> ?_
 cases b
 ·simp -implicitDefEqProofs only [go_sem]
  exact .same (.refl _) ⟨false,_,rfl,hp1,fun e=>by cases e⟩
 have hP2:=hP2 rfl;simp -implicitDefEqProofs only [go_sem,Gq];refine .intro (fun m ρ H=>∃(m' :Int) (j:Nat),MP h H id m'∧((0≤m'→m' +j≤n2∧0≤n2∧∀z∈y.take j,smZ z)∧(m' <0→j=0∧n2<0))∧j≤y.length∧m=y.length - j∧lk ρ 0=some (.ptr id 0)∧lk ρ 17=some (.sl (t.map aD) .no)∧lk ρ 18=some (.v (.int .i64 t.length))∧lk ρ 19=some (.v (.int .i64 i))∧lk ρ 29=some (.sl (y.map bR) .no)∧lk ρ 30=some (.v (.int .i64 y.length))∧lk ρ 31=some (.v (.int .i64 j))) y.length ?_ ?_
 ·refine ⟨n2,0,hp1,⟨fun h=>⟨by omega,h,by simp⟩,fun h=>⟨rfl,h⟩⟩,Nat.zero_le _,rfl, ?_, ?_, ?_, ?_, ?_, ?_, ?_⟩<;>simp -implicitDefEqProofs only [go_sem,r0,r17,r18,r19]<;>rfl
 rintro m ρ H ⟨m',j,hp,hJ,hj,rfl,r0,r17,r18,r19,r29,r30,r31⟩
 simp -implicitDefEqProofs only [go_sem,r0,r17,r18,r19,r29,r30,r31];refine .intro (fun e=> ?_) (fun e=> ?_)
 case refine_2=>
  have hge:j=y.length:=by have:=Gt e; omega
  subst hge;simp -implicitDefEqProofs only [go_sem,r0,r17,r18,r19,w1];have hm' :0≤m' :=by
   by_cases h9:0≤m'
   ·exact h9
   ·have:=hJ.2 (by omega)
    have:=hP2.2.1 this.2;omega
  obtain ⟨k1,k2,k3⟩:=hJ.1 hm';have k4:=hp1.2.2;unfold St at k4;have k5:=hP2.1 (by omega)
  obtain ⟨k6,k7,k8⟩:=hI.1 (by omega)
  rw [List.take_length] at k3;refine ⟨t.length - (i+1),by omega,m',i+1,hp,⟨fun _=>⟨by omega,k7,hst ⟨by omega,k3⟩ k8⟩,fun h9=>by omega⟩,hlt,rfl, ?_, ?_, ?_, ?_⟩
  all_goals simp -implicitDefEqProofs only [go_sem,r0,r17,r18,r19,w1]
 have hlt2:j<y.length:=Gx e;have w2:=gA hlt2 hml2;simp -implicitDefEqProofs only [go_sem,r0,r17,r18,r19,r29,r30,r31];refine .at j (by simpa using hlt2) (by rw [Gr]; rfl) ?_
 simp -implicitDefEqProofs only [go_sem,r0,r17,r18,r19,r29,r30,r31,Gr,bR,Gq];have hst2:∀z,y[j]=z→smZ z→(∀z∈y.take j,smZ z)→∀z∈y.take (j+1),smZ z:=fun z hy h1 h2 x hx=>by
  rw [List.take_succ_eq_append_getElem hlt2,List.mem_append,List.mem_singleton] at hx;rcases hx with hx|rfl
  ·exact h2 x hx
  ·rw [hy]; exact h1
 obtain ⟨hml3,_⟩:=kC (hlenZ _ (Gv hlt2));generalize y[j]=z at hst2 hml3;have hst2:=hst2 z rfl;refine (mrow _ hml3).go hp trivial fun b h1 p2 hp2 hP3 _=> ?_
 cases b
 ·simp -implicitDefEqProofs only [go_sem]
  exact .same (.refl _) ⟨false,_,rfl,hp2,fun e=>by cases e⟩
 have hP3:=hP3 rfl;simp -implicitDefEqProofs only [go_sem,Gq];refine .intro (fun m ρ H=>∃(q:Int) (k:Nat),MP h H id q∧((0≤q→q+k≤p2∧0≤p2)∧(q<0→k=0∧p2<0))∧k≤z.length∧m=z.length - k∧lk ρ 0=some (.ptr id 0)∧lk ρ 17=some (.sl (t.map aD) .no)∧lk ρ 18=some (.v (.int .i64 t.length))∧lk ρ 19=some (.v (.int .i64 i))∧lk ρ 29=some (.sl (y.map bR) .no)∧lk ρ 30=some (.v (.int .i64 y.length))∧lk ρ 31=some (.v (.int .i64 j))∧lk ρ 41=some (.sl (z.map cE) .no)∧lk ρ 42=some (.v (.int .i64 z.length))∧lk ρ 43=some (.v (.int .i64 k))) z.length ?_ ?_
 ·refine ⟨p2,0,hp2,⟨fun h=>⟨by omega,h⟩,fun h=>⟨rfl,h⟩⟩,Nat.zero_le _,rfl, ?_, ?_, ?_, ?_, ?_, ?_, ?_, ?_, ?_, ?_⟩<;>simp -implicitDefEqProofs only [go_sem,r0,r17,r18,r19,r29,r30,r31]<;>rfl
 rintro m ρ H ⟨q,k,hq,hK,hk,rfl,r0,r17,r18,r19,r29,r30,r31,r41,r42,r43⟩
 simp -implicitDefEqProofs only [go_sem,r0,r17,r18,r19,r29,r30,r31,r41,r42,r43];refine .intro (fun e=> ?_) (fun e=> ?_)
 case refine_2=>
  have hge:k=z.length:=by have:=Gt e; omega
  subst hge;simp -implicitDefEqProofs only [go_sem,r0,r17,r18,r19,r29,r30,r31,w2];have hq' :0≤q:=by
   by_cases h9:0≤q
   ·exact h9
   ·have:=hK.2 (by omega)
    have:=hP3.2.1 this.2;omega
  obtain ⟨k1,k2⟩:=hK.1 hq';have k4:=hp2.2.2;unfold St at k4;have k5:=hP3.1 (by omega)
  obtain ⟨k6,k7,k8⟩:=hJ.1 (by omega)
  refine ⟨y.length - (j+1),by omega,q,j+1,hq,⟨fun _=>⟨by omega,k7,hst2 (by unfold smZ; omega) k8⟩,fun h9=>by omega⟩,hlt2,rfl, ?_, ?_, ?_, ?_, ?_, ?_, ?_⟩
  all_goals simp -implicitDefEqProofs only [go_sem,r0,r17,r18,r19,r29,r30,r31,w2]
 have hlt3:k<z.length:=Gx e;have w3:=gA hlt3 hml3;simp -implicitDefEqProofs only [go_sem,r0,r17,r18,r19,r29,r30,r31,r41,r42,r43];refine .at k (by simpa using hlt3) (by rw [Gr]; rfl) ?_
 simp -implicitDefEqProofs only [go_sem,r0,r17,r18,r19,r29,r30,r31,r41,r42,r43,Gr,cE];intro i10 h10;obtain ⟨hp3,ne⟩:=hq.new h10 (some (.obj [.v (.int .i64 z[k].attr.cat), .s z[k].attr.name, .v (.bool z[k].attr.must), .v (.int .i64 z[k].op), .v (.int .i64 z[k].val.kind), .v (.int .i64 z[k].val.n), .s z[k].val.s] 48));simp -implicitDefEqProofs only [go_sem,r0,r17,r18,r19,r29,r30,r31,r41,r42,r43];refine (mtext _).go hp3 trivial fun b h3 q1 hp4 hQ1 kp=> ?_
 have g10:=kp i10 _ ne.symm (ag ..);cases b
 ·simp -implicitDefEqProofs only [go_sem]
  exact .same (.refl _) ⟨false,_,rfl,hp4,fun e=>by cases e⟩
 have hQ1:=hQ1 rfl;simp -implicitDefEqProofs only [go_sem,r0,r17,r18,r19,r29,r30,r31,r41,r42,r43,g10];refine (mtext _).go hp4 trivial fun b h4 q2 hp5 hQ2 _=> ?_
 cases b
 ·simp -implicitDefEqProofs only [go_sem]
  exact .same (.refl _) ⟨false,_,rfl,hp5,fun e=>by cases e⟩
 have hQ2:=hQ2 rfl;have hK1:=hK.1 (by omega)
 simp -implicitDefEqProofs only [go_sem,r0,r17,r18,r19,r29,r30,r31,r41,r42,r43,w3];refine ⟨z.length - (k+1),by omega,q2,k+1,hp5,⟨fun _=>by omega,fun h9=>by omega⟩,hlt3,rfl, ?_, ?_, ?_, ?_, ?_, ?_, ?_, ?_, ?_, ?_⟩
 all_goals simp -implicitDefEqProofs only [go_sem,r0,r17,r18,r19,r29,r30,r31,r41,r42,r43,w3]
theorem mpolicy:∀(p:aR),jG (aE p)→MC 16 [aE p] (fun n=>0≤n) (fun n n' =>smP p∧0≤n'∧n' <n)
 | .mk pid pset palg ptgt prules pkids pobls=>fun hlen h id n hx hn0=>by
  have hlen' :=hlen;simp only [aE,jG,aG] at hlen';have hall:=(ff _).1 hlen';have hlT:jG (aC ptgt):=hall _ (by simp)
  have hlR:=kC (hall (.sl (prules.map aB) .no) (by simp))
  have hlK:=kC (hall (.sl (pkids.map aE) .no) (by simp))
  have ihk:∀(j:Nat) (hj:j<pkids.length),MC 16 [aE pkids[j]] (fun n=>0≤n) (fun n n' =>smP pkids[j]∧0≤n'∧n' <n):=fun j hj=>mpolicy pkids[j] (hlK.2 _ (Gv hj))
  have hn3:=hx.2.2;unfold St at hn3;refine aj.body hU hm Tryd.func16 rfl (by kernel_rfl) 108 rfl [.tmp 4] rfl (Gp rfl) (fun hwf=> ?_)
  simp -implicitDefEqProofs only [go_sem,aE,aC,ay,Gq];intro i3 h3;have hp:=hx.new h3 (some (.obj [.s pid, .v (.bool pset), .v (.int .i64 palg), .sl (ptgt.map aD) .no, .sl (prules.map aB) .no, .sl (aZ pkids) .no, .sl (pobls.map aN) .no] 28));obtain ⟨hp,ne3⟩:=hp;simp -implicitDefEqProofs only [go_sem,Gq];refine (mrow _ hlR.1).go hp trivial fun b h1 n1 hp1 hP1 k1=> ?_
  have g1:=k1 i3 _ ne3.symm (ag ..);cases b
  ·simp -implicitDefEqProofs only [go_sem]
   exact .same (.refl _) ⟨false,_,rfl,hp1,fun e=>by cases e⟩
  have hP1:=hP1 rfl;simp -implicitDefEqProofs only [go_sem,g1];refine (mtext _).go hp1 trivial fun b h2 n2 hp2 hP2 k2=> ?_
  have g2:=k2 i3 _ ne3.symm g1;cases b
  ·simp -implicitDefEqProofs only [go_sem]
   exact .same (.refl _) ⟨false,_,rfl,hp2,fun e=>by cases e⟩
  have hP2:=hP2 rfl;have hrl:=hP1.2.2 hn0 (by omega)
  have hn1:=(hP1.1 hrl).2;simp -implicitDefEqProofs only [go_sem,g2];refine (mtarget ptgt hlT).go hp2 hP2.1 fun b h3 n3 hp3 hP3 k3=> ?_
  have g3:=k3 i3 _ ne3.symm g2;cases b
  ·simp -implicitDefEqProofs only [go_sem]
   exact .same (.refl _) ⟨false,_,rfl,hp3,fun e=>by cases e⟩
  have hP3:=hP3 rfl;simp -implicitDefEqProofs only [go_sem,g3];refine (mobls pobls).go hp3 trivial fun b h4 n4 hp4 hP4 k4=> ?_
  have g4:=k4 i3 _ ne3.symm g3;cases b
  ·simp -implicitDefEqProofs only [go_sem]
   exact .same (.refl _) ⟨false,_,rfl,hp4,fun e=>by cases e⟩
  have hP4:=hP4 rfl;simp -implicitDefEqProofs only [go_sem,g4,Gq];refine .intro (fun m ρ H=>∃(q:Int) (i:Nat),(MP h H id q∧0≤q∧q≤n4∧(∀r∈prules.take i,smR r)∧H i3=some (.obj [.s pid, .v (.bool pset), .v (.int .i64 palg), .sl (ptgt.map aD) .no, .sl (prules.map aB) .no, .sl (aZ pkids) .no, .sl (pobls.map aN) .no] 28))∧i≤prules.length∧m=prules.length - i∧lk ρ 0=some (.ptr id 0)∧lk ρ 3=some (.ptr i3 0)∧lk ρ 40=some (.sl (prules.map aB) .no)∧lk ρ 41=some (.v (.int .i64 prules.length))∧lk ρ 42=some (.v (.int .i64 i))) prules.length ?_ ?_
  ·refine ⟨n4,0,⟨hp4,hP4.2.1,by omega,by simp,g4⟩,Nat.zero_le _,rfl, ?_, ?_, ?_, ?_, ?_⟩<;>simp -implicitDefEqProofs only [go_sem]<;>rfl
  rintro m ρ H ⟨q,i,⟨hp,hq0,hq4,hsm,g5⟩,hi,rfl,r0,r3,r40,r41,r42⟩
  simp -implicitDefEqProofs only [go_sem,r0,r3,r40,r41,r42];refine .intro (fun e=> ?_) (fun e=> ?_)
  ·have hlt:i<prules.length:=Gx e
   have w1:=gA hlt hlR.1;simp -implicitDefEqProofs only [go_sem,r0,r3,r40,r41,r42];refine .at i (by simpa using hlt) (by rw [Gr]; rfl) ?_
   simp -implicitDefEqProofs only [go_sem,r0,r3,r40,r41,r42,Gr,aB,aC,aH,ay];have hst:∀r,prules[i]=r→smR r→∀r∈prules.take (i+1),smR r:=fun r hr h1 x hx=>by
    rw [List.take_succ_eq_append_getElem hlt,List.mem_append,List.mem_singleton] at hx;rcases hx with hx|rfl
    ·exact hsm x hx
    ·rw [hr]; exact h1
   have hlr:=hlR.2 _ (Gv hlt);generalize prules[i]=rl at hst hlr;have hst:=hst rl rfl;simp only [aB,jG] at hlr;have hlr' :=(ff _).1 hlr;have hlT2:jG (aC rl.tgt):=hlr' _ (by simp)
   have hlC:=(kC (f:=aW) (l:=rl.cond) (p:= .no) (hlr' _ (by simp [aH]))).1
   intro i6 h6;obtain ⟨hp5,ne6⟩:=hp.new h6 (some (RO rl));have n36:i3≠i6:=fun e=>by rw [e,h6] at g5; cases g5
   have g6:upd H i6 (some (RO rl)) i3=some (.obj [.s pid, .v (.bool pset), .v (.int .i64 palg), .sl (ptgt.map aD) .no, .sl (prules.map aB) .no, .sl (aZ pkids) .no, .sl (pobls.map aN) .no] 28):=by rw [af _ _ n36]; exact g5
   have q6:upd H i6 (some (RO rl)) i6=some (RO rl):=ag ..;simp -implicitDefEqProofs only [go_sem,r0,r3,r40,r41,r42];refine (mtext _).go hp5 trivial fun b h7 n7 hp7 hP7 k7=> ?_
   have g7:=k7 i3 _ ne3.symm g6;have q7:=k7 i6 _ ne6.symm q6;unfold RO at q7;cases b
   ·simp -implicitDefEqProofs only [go_sem]
    exact .same (.refl _) ⟨false,_,rfl,hp7,fun e=>by cases e⟩
   have hP7:=hP7 rfl;simp -implicitDefEqProofs only [go_sem,r0,r3,r40,r41,r42,q7];refine (mtarget rl.tgt hlT2).go hp7 hP7.1 fun b h8 n8 hp8 hP8 k8=> ?_
   have g8:=k8 i3 _ ne3.symm g7;have q8:=k8 i6 _ ne6.symm q7;cases b
   ·simp -implicitDefEqProofs only [go_sem]
    exact .same (.refl _) ⟨false,_,rfl,hp8,fun e=>by cases e⟩
   have hP8:=hP8 rfl;simp -implicitDefEqProofs only [go_sem,r0,r3,r40,r41,r42,q8,Gq];refine (mlen _ hlC).go hp8 trivial fun b h9 n9 hp9 hP9 k9=> ?_
   have g9:=k9 i3 _ ne3.symm g8;have q9:=k9 i6 _ ne6.symm q8;cases b
   ·simp -implicitDefEqProofs only [go_sem]
    exact .same (.refl _) ⟨false,_,rfl,hp9,fun e=>by cases e⟩
   have hP9:=hP9 rfl;simp -implicitDefEqProofs only [go_sem,r0,r3,r40,r41,r42,q9];refine (mobls rl.obls).go hp9 trivial fun b h10 n10 hp10 hP10 k10=> ?_
   have g10:=k10 i3 _ ne3.symm g9;have q10:=k10 i6 _ ne6.symm q9;cases b
   ·simp -implicitDefEqProofs only [go_sem]
    exact .same (.refl _) ⟨false,_,rfl,hp10,fun e=>by cases e⟩
   have hP10:=hP10 rfl;have hst:=hst ⟨hP8.1,by omega,hP10.1⟩
   simp -implicitDefEqProofs only [go_sem,r0,r3,r40,r41,r42,q10,Gq];refine .intro (fun m ρ H=>∃(q:Int) (j:Nat),(MP h H id q∧0≤q∧q≤n10∧H i3=some (.obj [.s pid, .v (.bool pset), .v (.int .i64 palg), .sl (ptgt.map aD) .no, .sl (prules.map aB) .no, .sl (aZ pkids) .no, .sl (pobls.map aN) .no] 28))∧j≤rl.cond.length∧m=rl.cond.length - j∧lk ρ 0=some (.ptr id 0)∧lk ρ 3=some (.ptr i3 0)∧lk ρ 40=some (.sl (prules.map aB) .no)∧lk ρ 41=some (.v (.int .i64 prules.length))∧lk ρ 42=some (.v (.int .i64 i))∧lk ρ 74=some (.sl (rl.cond.map aW) .no)∧lk ρ 75=some (.v (.int .i64 rl.cond.length))∧lk ρ 76=some (.v (.int .i64 j))) rl.cond.length ?_ ?_
   ·refine ⟨n10,0,⟨hp10,hP10.2.1,by omega,g10⟩,Nat.zero_le _,rfl, ?_, ?_, ?_, ?_, ?_, ?_, ?_, ?_⟩<;>simp -implicitDefEqProofs only [go_sem,r0,r3,r40,r41,r42]<;>rfl
   rintro m ρ H ⟨q',j,⟨hp,hq1,hq2,g5⟩,hj,rfl,r0,r3,r40,r41,r42,r74,r75,r76⟩
   simp -implicitDefEqProofs only [go_sem,r0,r3,r40,r41,r42,r74,r75,r76];refine .intro (fun e=> ?_) (fun e=> ?_)
   case refine_2=>
    simp -implicitDefEqProofs only [go_sem,r0,r3,r40,r41,r42,w1];refine ⟨prules.length - (i+1),by omega,q',i+1,⟨hp,hq1,by omega,hst,g5⟩,hlt,rfl, ?_, ?_, ?_, ?_, ?_⟩
    all_goals simp -implicitDefEqProofs only [go_sem,r0,r3,r40,r41,r42,w1]
   have hlt2:j<rl.cond.length:=Gx e;have w2:=gA hlt2 hlC;simp -implicitDefEqProofs only [go_sem,r0,r3,r40,r41,r42,r74,r75,r76];refine .at j (by simpa using hlt2) (by rw [Gr]; rfl) ?_
   simp -implicitDefEqProofs only [go_sem,r0,r3,r40,r41,r42,r74,r75,r76,Gr,aW];generalize rl.cond[j]=nd;intro i8 h8;obtain ⟨hp5,ne8⟩:=hp.new h8 (some (NO nd));have n38:i3≠i8:=fun e=>by rw [e,h8] at g5; cases g5
   have g6:upd H i8 (some (NO nd)) i3=some (.obj [.s pid, .v (.bool pset), .v (.int .i64 palg), .sl (ptgt.map aD) .no, .sl (prules.map aB) .no, .sl (aZ pkids) .no, .sl (pobls.map aN) .no] 28):=by rw [af _ _ n38]; exact g5
   have q6:upd H i8 (some (NO nd)) i8=some (NO nd):=ag ..;simp -implicitDefEqProofs only [go_sem,r0,r3,r40,r41,r42,r74,r75,r76];refine (mtext _).go hp5 trivial fun b h7 n11 hp7 hP11 k7=> ?_
   have g7:=k7 i3 _ ne3.symm g6;have q7:=k7 i8 _ ne8.symm q6;unfold NO at q7;cases b
   ·simp -implicitDefEqProofs only [go_sem]
    exact .same (.refl _) ⟨false,_,rfl,hp7,fun e=>by cases e⟩
   have hP11:=hP11 rfl;simp -implicitDefEqProofs only [go_sem,r0,r3,r40,r41,r42,r74,r75,r76,q7];refine (mtext _).go hp7 trivial fun b h9 n12 hp9 hP12 k9=> ?_
   have g9:=k9 i3 _ ne3.symm g7;cases b
   ·simp -implicitDefEqProofs only [go_sem]
    exact .same (.refl _) ⟨false,_,rfl,hp9,fun e=>by cases e⟩
   have hP12:=hP12 rfl;simp -implicitDefEqProofs only [go_sem,r0,r3,r40,r41,r42,r74,r75,r76,w2];refine ⟨rl.cond.length - (j+1),by omega,n12,j+1,⟨hp9,hP12.1,by omega,g9⟩,hlt2,rfl, ?_, ?_, ?_, ?_, ?_, ?_, ?_, ?_⟩
   all_goals simp -implicitDefEqProofs only [go_sem,r0,r3,r40,r41,r42,r74,r75,r76,w2]
  ·have hge:i=prules.length:=by have:=Gt e; omega
   subst hge;rw [List.take_length] at hsm;simp -implicitDefEqProofs only [go_sem,r0,r3,g5,Gq,aG];refine .intro (fun m ρ H=>∃(s:Int) (i:Nat),(MP h H id s∧0≤s∧s+i≤q∧∀k∈pkids.take i,smP k)∧i≤pkids.length∧m=pkids.length - i∧lk ρ 0=some (.ptr id 0)∧lk ρ 97=some (.sl (pkids.map aE) .no)∧lk ρ 98=some (.v (.int .i64 pkids.length))∧lk ρ 99=some (.v (.int .i64 i))) pkids.length ?_ ?_
   ·refine ⟨q,0,⟨hp,hq0,by omega,by simp⟩,Nat.zero_le _,rfl, ?_, ?_, ?_, ?_⟩<;>simp -implicitDefEqProofs only [go_sem,r0]<;>rfl
   rintro m ρ H ⟨s,j,⟨hp,hs0,hsq,hsmk⟩,hj,rfl,r0,r97,r98,r99⟩
   simp -implicitDefEqProofs only [go_sem,r0,r97,r98,r99];refine .intro (fun e=> ?_) (fun e=> ?_)
   case refine_2=>
    have hge:j=pkids.length:=by have:=Gt e; omega
    subst hge;rw [List.take_length] at hsmk;simp -implicitDefEqProofs only [go_sem];refine .same (.refl _) ⟨true,_,rfl,hp,fun _=>⟨?_,hs0,by omega⟩⟩
    simp only [smP];exact ⟨hP3.1,hrl,hP4.1,by omega,hsm,(sL _).2 hsmk⟩
   have hlt:j<pkids.length:=Gx e;have w1:=gA hlt hlK.1;have ih:=ihk j hlt;have hst:smP pkids[j]→∀k∈pkids.take (j+1),smP k:=fun h1 x hx=>by
    rw [List.take_succ_eq_append_getElem hlt,List.mem_append,List.mem_singleton] at hx;rcases hx with hx|rfl
    ·exact hsmk x hx
    ·exact h1
   simp -implicitDefEqProofs only [go_sem,r0,r97,r98,r99];cases ek:pkids[j] with
   |mk x1 x2 x3 x4 x5 x6 x7=>
   rw [ek] at ih hst;simp only [aE,aC,ay,aG] at ih;refine .at j (by simpa using hlt) (by rw [Gr]; exact er _) ?_
   simp -implicitDefEqProofs only [go_sem,r0,r97,r98,r99,Gr,ek,aE,aC,ay,aG];intro i10 h10;obtain ⟨hp5,ne10⟩:=hp.new h10 (some (.obj [.s x1, .v (.bool x2), .v (.int .i64 x3), .sl (x4.map aD) .no, .sl (x5.map aB) .no, .sl (x6.map aE) .no, .sl (x7.map aN) .no] 28));simp -implicitDefEqProofs only [go_sem,r0,r97,r98,r99];refine ih.go hp5 hs0 fun b h7 s7 hp7 hP7 k7=> ?_
   cases b
   ·simp -implicitDefEqProofs only [go_sem]
    exact .same (.refl _) ⟨false,_,rfl,hp7,fun e=>by cases e⟩
   have hP7:=hP7 rfl;simp -implicitDefEqProofs only [go_sem,r0,r97,r98,r99,w1];refine ⟨pkids.length - (j+1),by omega,s7,j+1,⟨hp7,hP7.2.1,by omega,hst hP7.1⟩,hlt,rfl, ?_, ?_, ?_, ?_⟩
   all_goals simp -implicitDefEqProofs only [go_sem,r0,r97,r98,r99,w1]
termination_by p=>SizeOf.sizeOf p
decreasing_by
 have:=List.sizeOf_lt_of_mem (Gv hj);simp only [aR.mk.sizeOf_spec];omega
theorem xU (p:aR) (hlen:jG (aE p)) (h:Heap):aj Tryd.prog 4 [aE p] h fun r h' =>(∃b,r= .v (.bool b)∧(b=true→smP p))∧h' =h:=by
 cases p with
 |mk pid pset palg ptgt prules pkids pobls=>
 refine aj.body hU hm Tryd.func4 rfl (by kernel_rfl) 9 rfl [.tmp 2] rfl (Gp rfl) (fun hwf=> ?_)
 simp -implicitDefEqProofs only [go_sem,aE,aC,ay];intro i1 h1;simp -implicitDefEqProofs only [go_sem];intro i5 h5;have ne:=pg h5;have hi5:h i5=none:=by rw [af _ _ ne] at h5; exact h5
 simp -implicitDefEqProofs only [go_sem,pO,ne,ne.symm];have hp:=mpolicy (.mk pid pset palg ptgt prules pkids pobls) hlen (upd (upd h i1 (some (.obj [.s pid, .v (.bool pset), .v (.int .i64 palg), .sl (ptgt.map aD) .no, .sl (prules.map aB) .no, .sl (aZ pkids) .no, .sl (pobls.map aN) .no] 28))) i5 (some (LO 3000))) i5 3000 (.start (ag ..) (.inl ⟨by decide,by decide⟩)) (by decide)
 simp only [aE,aC,ay] at hp;refine hp.mono fun x h4 ⟨b,n',ex,⟨hk,_⟩,hP⟩=> ?_
 subst ex;simp -implicitDefEqProofs only [go_sem];refine .mk _ (.refl _) (fun j k hj=> ?_) ⟨⟨b,rfl,fun e=>(hP e).1⟩,rfl⟩
 refine hk j k (by simp only [List.mem_singleton]; exact fun e=>by rw [e,hi5] at hj; cases hj) (((Sub.ah h1).new h5 _) _ _ hj)
theorem oR (t:gH) (ht:smT t) (h:Heap):aj Tryd.prog 22 [aC t] h fun r h' =>r=aC t∧h' =h:=by
 obtain ⟨hl,he⟩:=ht;refine aj.body hU hm Tryd.func22 rfl (by kernel_rfl) 34 rfl [.tmp 2] rfl (Gp rfl) (fun hwf=> ?_)
 simp -implicitDefEqProofs only [go_sem,aC,Gq];refine .intro (fun m ρ h' =>∃(i:Nat) (y:AV) (ys:List AV),Acc U 50 h h' y ys∧WkL ys ((t.take i).map aD)∧i≤t.length∧m=t.length - i∧lk ρ 3=some y∧lk ρ 9=some (.sl (t.map aD) .no)∧lk ρ 10=some (.v (.int .i64 t.length))∧lk ρ 11=some (.v (.int .i64 i))) t.length ?_ ?_
 ·refine ⟨0,_,[], .full (.refl _), .nil,by omega,rfl, ?_, ?_, ?_, ?_⟩<;>simp -implicitDefEqProofs only [go_sem]
  all_goals rfl
 rintro m ρ h' ⟨i,y,ys,hy,hys,hi,rfl,r3,r9,r10,r11⟩
 by_cases hlt:i<t.length
 ·have t1:decide ((i:Int)<(t.length:Int))=true:=decide_eq_true (by omega)
  have w1:IntKind.i64.wrap ((i:Int)+1)=((i+1:Nat):Int):=by rw [IntWalk.i64_in _ (by omega)]; omega
  obtain ⟨hal,hae⟩:=he _ (Gv hlt);have hyl:=hys.1;simp -implicitDefEqProofs only [go_sem,r9,r10,r11,t1];refine .at i (by simpa using hlt) (by rw [Gr]; rfl) ?_
  simp -implicitDefEqProofs only [go_sem,Gr,aD,Gq];refine .intro (fun m ρ H=>∃(j:Nat) (z:AV) (zs:List AV),Acc U 49 h' H z zs∧WkL zs ((t[i].take j).map bR)∧j≤t[i].length∧m=t[i].length - j∧lk ρ 3=some y∧lk ρ 9=some (.sl (t.map aD) .no)∧lk ρ 10=some (.v (.int .i64 t.length))∧lk ρ 11=some (.v (.int .i64 i))∧lk ρ 6=some z∧lk ρ 15=some (.sl (t[i].map bR) .no)∧lk ρ 16=some (.v (.int .i64 t[i].length))∧lk ρ 17=some (.v (.int .i64 j))) t[i].length ?_ ?_
  ·refine ⟨0,_,[], .full (.refl _), .nil,by omega,rfl, ?_, ?_, ?_, ?_, ?_, ?_, ?_, ?_⟩<;>simp -implicitDefEqProofs only [go_sem,r3,r9,r10,r11]
   all_goals rfl
  rintro m ρ H ⟨j,z,zs,hz,hzs,hj,rfl,r3,r9,r10,r11,r6,r15,r16,r17⟩
  by_cases hlt2:j<t[i].length
  ·have t2:decide ((j:Int)<(t[i].length:Int))=true:=decide_eq_true (by omega)
   have w2:IntKind.i64.wrap ((j:Int)+1)=((j+1:Nat):Int):=by rw [IntWalk.i64_in _ (by omega)]; omega
   have hml:=hae _ (Gv hlt2);unfold smZ at hml;have hzl:=hzs.1;simp -implicitDefEqProofs only [go_sem,r15,r16,r17,t2];refine .at j (by simpa using hlt2) (by rw [Gr]; rfl) ?_
   simp -implicitDefEqProofs only [go_sem,r6,Gr,bR];refine ⟨fX (f:=cE) (fun _=>rfl) _,by rw [Gq]; omega, .acc fun z0 H0 ha0 _=> ?_⟩
   rw [List.nil_append] at ha0;obtain ⟨q0,rfl⟩:=ha0.row;simp -implicitDefEqProofs only [go_sem];refine (hz.sub ha0.1).app (zs:= [.sl (t[i][j].map cE) q0]) (by decide) (by decide) (fun k hk=>hk) (by rw [Cs]; exact hzs.wH) (by rw [Cs]; intro w hw; rw [List.mem_singleton.1 hw]; rfl) (by simp only [go_sem,hzl,Gq,List.length_take,List.length_cons,List.length_nil]; omega) fun z' H' hz' _=> ?_
   simp -implicitDefEqProofs only [go_sem,r17,w2];refine ⟨_, ?_,j+1,z',_,hz', ?_,by omega,rfl, ?_, ?_, ?_, ?_, ?_, ?_, ?_, ?_⟩
   ·omega
   ·rw [List.take_succ_eq_append_getElem hlt2,List.map_append]
    exact hzs.one rfl rfl (.sl _ _)
   all_goals simp -implicitDefEqProofs only [go_sem,r3,r9,r10,r11,r15,r16]
  ·obtain rfl:j=t[i].length:=by omega
   have t2:decide ((t[i].length:Int)<(t[i].length:Int))=false:=decide_eq_false (by omega)
   rw [List.take_length] at hzs;have hyH:=hy.sub hz.1;obtain ⟨q,rfl⟩:=hz.row;simp -implicitDefEqProofs only [go_sem,r3,r6,r15,r16,r17,t2];refine hyH.app (zs:= [.sl zs q]) (by decide) (by decide) (fun k hk=>hk) (by rw [Ct]; exact hys.wH) (by rw [Ct]; intro w hw; rw [List.mem_singleton.1 hw]; rfl) (by simp only [go_sem,hyl,Gq,List.length_take,List.length_cons,List.length_nil]; omega) fun y' H' hy' _=> ?_
   simp -implicitDefEqProofs only [go_sem,r11,w1];refine ⟨_, ?_,i+1,y',_,hy', ?_,by omega,rfl, ?_, ?_, ?_, ?_⟩
   ·omega
   ·rw [List.take_succ_eq_append_getElem hlt,List.map_append]
    exact hys.one rfl rfl (hzs.weak q)
   all_goals simp -implicitDefEqProofs only [go_sem,r9,r10]
 ·obtain rfl:i=t.length:=by omega
  have t1:decide ((t.length:Int)<(t.length:Int))=false:=decide_eq_false (by omega)
  rw [List.take_length] at hys;simp -implicitDefEqProofs only [go_sem,r3,r9,r10,r11,t1];obtain ⟨q,rfl⟩:=hy.row;exact .mk (aC t) (hys.weak q) hy.1 ⟨rfl,rfl⟩
set_option maxRecDepth 100000 in
theorem tg:∀(p:aR),smP p→∀h,aj Tryd.prog 10 [aE p] h fun r h' =>zg h h' r p∧Ab.Sub h h'
 | .mk pid pset palg ptgt prules pkids pobls,hp,h=>by
  simp only [smP] at hp;obtain ⟨ht,hr16,hob,hk16,hre,hke⟩:=hp;rw [sL] at hke;have ih:∀(j:Nat) (hj:j<pkids.length) (h:Heap),aj Tryd.prog 10 [aE pkids[j]] h fun r h' =>r=aE pkids[j]∧h' =h:=fun j hj h=>aj.freeze fun g hg _=>(tg pkids[j] (hke _ (Gv hj)) g).mono fun r h' ⟨h1,h2⟩=>⟨h2,_,h1.frz fun x=>x,rfl⟩
  rw [jJ];refine aj.body hU hm Tryd.func10 rfl (by kernel_rfl) 62 rfl [.cell 2 28] rfl (Gp rfl) (fun hwf=> ?_)
  simp -implicitDefEqProofs only [go_sem];intro i1 h1;simp -implicitDefEqProofs only [go_sem];intro i2 h2;have n21:=pg h2;have n2:=rL h2;simp -implicitDefEqProofs only [go_sem];obtain ⟨H,eH⟩:∃H,upd (upd h i1 (some (.obj [.s pid, .v (.bool pset), .v (.int .i64 palg),aC ptgt, .sl (prules.map aB) .no, .sl (pkids.map aE) .no,ay pobls] 28))) i2 (some (.obj [.s [], .v (.bool false), .v (.int .i64 0), .sl [] .full, .sl [] .full, .sl [] .full, .sl [] .full] 28))=H:=⟨_,rfl⟩;have hH:Ab.Sub h H:=by rw [←eH]; exact ((Sub.refl h).put h1 _).put n2 _
  have g1:H i1=some (.obj [.s pid, .v (.bool pset), .v (.int .i64 palg),aC ptgt, .sl (prules.map aB) .no, .sl (pkids.map aE) .no,ay pobls] 28):=by rw [←eH,af _ _ n21.symm,ag]
  have g2:H i2=some (.obj [.s [], .v (.bool false), .v (.int .i64 0), .sl [] .full, .sl [] .full, .sl [] .full, .sl [] .full] 28):=by rw [←eH,ag]
  rw [eH];refine .stage (hm1 i1 _) [0,1,3,4,5,2,7,6] [8,9,10] (.hm1 g1) (by kernel_rfl) ?_
  simp -implicitDefEqProofs only [go_sem,fe];refine (oR ptgt ht H).pthen ?_;refine ⟨.hm1 g1, ?_⟩;simp -implicitDefEqProofs only [go_sem,ay];refine ⟨fX (f:=aN) (fun _=>rfl) _,by rw [Gq]; omega, .acc fun zo H1 hao _=> ?_⟩
  rw [List.nil_append] at hao;obtain ⟨qo,rfl⟩:=hao.row;have sO:=hao.1;have g1' :=sO _ _ g1;have g2' :=sO _ _ g2;refine ⟨.hm1 g1',mZ,(fun _ _ e=>by cases e), ?_⟩
  have cT:(aC ptgt).cells= [aC ptgt]:=rfl;simp -implicitDefEqProofs only [go_sem,g1',show fit (aC ptgt) 1=(1=1) from rfl,cT]
  refine ⟨fun _ _ e=>(by cases e),fun _ _ e=>(by cases e), ?_⟩
  obtain ⟨H2,eH2⟩:∃H2,upd H1 i1 (some (.obj [.s pid, .v (.bool pset), .v (.int .i64 palg),aC ptgt, .sl (prules.map aB) .no, .sl (pkids.map aE) .no, .sl (pobls.map aN) qo] 28))=H2:=⟨_,rfl⟩;have q1:H2 i1=some (.obj [.s pid, .v (.bool pset), .v (.int .i64 palg),aC ptgt, .sl (prules.map aB) .no, .sl (pkids.map aE) .no, .sl (pobls.map aN) qo] 28):=by rw [←eH2,ag]
  have q2:H2 i2=some (.obj [.s [], .v (.bool false), .v (.int .i64 0), .sl [] .full, .sl [] .full, .sl [] .full, .sl [] .full] 28):=by rw [←eH2,af _ _ n21]; exact g2'
  have hs2:Ab.Sub h H2:=by rw [←eH2]; exact (hH.trans sO).put h1 _
  rw [eH2];clear eH2;refine gD.join (.exit 0) (fun ρ H' =>∃z vs,H' i1=some (.obj [.s pid, .v (.bool pset), .v (.int .i64 palg),aC ptgt, .sl (prules.map aB) .no, .sl (pkids.map aE) .no, .sl (pobls.map aN) qo] 28)∧H' i2=some (.obj [.s [], .v (.bool false), .v (.int .i64 0), .sl [] .full, .sl [] .full, .sl [] .full, .sl [] .full] 28)∧Ab.Sub h H'∧OwE 54 h H' 5 z vs∧iS vs prules∧lk ρ 1=some (.ptr i1 0)∧lk ρ 2=some (.ptr i2 0)∧lk ρ 3=some z) ?_ fun K1 hK1=> ?_
  rotate_left
  ·refine .intro (fun m ρ H' =>∃(i:Nat) (z:AV) (vs:List AV),H' i1=some (.obj [.s pid, .v (.bool pset), .v (.int .i64 palg),aC ptgt, .sl (prules.map aB) .no, .sl (pkids.map aE) .no, .sl (pobls.map aN) qo] 28)∧H' i2=some (.obj [.s [], .v (.bool false), .v (.int .i64 0), .sl [] .full, .sl [] .full, .sl [] .full, .sl [] .full] 28)∧Ab.Sub h H'∧OwE 54 h H' 5 z vs∧iS vs (prules.take i)∧i≤prules.length∧m=prules.length - i∧lk ρ 1=some (.ptr i1 0)∧lk ρ 2=some (.ptr i2 0)∧lk ρ 3=some z∧lk ρ 19=some (.sl (prules.map aB) .no)∧lk ρ 20=some (.v (.int .i64 prules.length))∧lk ρ 21=some (.v (.int .i64 i))) prules.length ?_ ?_
   ·refine ⟨0, .sl [] .full,[],q1,q2,hs2, .inl ⟨rfl,rfl⟩,⟨rfl,fun i h1=>by cases h1⟩,by omega,rfl, ?_, ?_, ?_, ?_, ?_, ?_⟩<;>simp -implicitDefEqProofs only [go_sem]
    all_goals first|rfl|simp
   rintro m ρ H' ⟨i,z,vs,q1,q2,hs',hw,hr,hi,rfl,r1,r2,r3,r19,r20,r21⟩
   by_cases hlt:i<prules.length
   case neg=>
    obtain rfl:i=prules.length:=by omega
    have t1:decide ((prules.length:Int)<(prules.length:Int))=false:=decide_eq_false (by omega)
    rw [List.take_length] at hr;simp -implicitDefEqProofs only [go_sem,r19,r20,r21,t1];exact hK1 _ _ ⟨z,vs,q1,q2,hs',hw,hr,by simp -implicitDefEqProofs only [go_sem,r1],by simp -implicitDefEqProofs only [go_sem,r2],by simp -implicitDefEqProofs only [go_sem,r3]⟩
   have t1:decide ((i:Int)<(prules.length:Int))=true:=decide_eq_true (by omega)
   have w1:IntKind.i64.wrap ((i:Int)+1)=((i+1:Nat):Int):=by rw [IntWalk.i64_in _ (by omega)]; omega
   obtain ⟨rt,hrc,hro⟩:=hre _ (Gv hlt);have hrl:=hr.1;have hx:(prules.map aB)[i]'(by simpa using hlt)=aB prules[i]:=Gr ..
   obtain ⟨rl,erl⟩:∃rl,prules[i]=rl:=⟨_,rfl⟩;rw [erl] at rt hrc hro hx;simp -implicitDefEqProofs only [go_sem,r19,r20,r21,t1];refine .at i (by simpa using hlt) (by rw [hx]; rfl) ?_
   simp -implicitDefEqProofs only [go_sem,hx,aB];intro i5 h5;simp -implicitDefEqProofs only [go_sem];have x1:i1≠i5:=fun e=>by rw [←e,q1] at h5; cases h5
   have x2:i2≠i5:=fun e=>by rw [←e,q2] at h5; cases h5
   have f5:upd H' i5 (some (.obj [.s rl.id, .v (.bool rl.deny),aC rl.tgt,aH rl.cond,ay rl.obls] 54)) i5=some (.obj [.s rl.id, .v (.bool rl.deny),aC rl.tgt,aH rl.cond,ay rl.obls] 54):=ag ..;refine .stage (hm1 i5 _) [0,1,3,4,5,7,8,9,2,11,6,10] [12,13,14,15,16] (.hm1 f5) (by kernel_rfl) ?_
   simp -implicitDefEqProofs only [go_sem,fe];refine (oR rl.tgt rt _).pthen ?_;refine ⟨.hm1 f5, ?_⟩;simp -implicitDefEqProofs only [go_sem,aH];refine ⟨fX (f:=aW) (fun _=>rfl) _,by rw [Gq]; omega, .acc fun zc G1 hac _=> ?_⟩
   rw [List.nil_append] at hac;obtain ⟨qc,rfl⟩:=hac.row;have f5a:=hac.1 _ _ f5;refine ⟨.hm1 f5a, ?_⟩;simp -implicitDefEqProofs only [go_sem,ay];refine ⟨fX (f:=aN) (fun _=>rfl) _,by rw [Gq]; omega, .acc fun zo2 G2 hao2 _=> ?_⟩
   rw [List.nil_append] at hao2;obtain ⟨qo2,rfl⟩:=hao2.row;have f5b:=hao2.1 _ _ f5a;refine ⟨.hm1 f5b,mZ,(fun _ _ e=>by cases e), ?_⟩
   have cT:(aC rl.tgt).cells= [aC rl.tgt]:=rfl;simp -implicitDefEqProofs only [go_sem,f5b,show fit (aC rl.tgt) 1=(1=1) from rfl,cT]
   refine ⟨fun _ _ e=>(by cases e),fun _ _ e=>(by cases e),fun _ _ e=>(by cases e), ?_⟩
   have sG:Ab.Sub H' (upd G2 i5 (some (.obj [.s rl.id, .v (.bool rl.deny),aC rl.tgt, .sl (rl.cond.map aW) qc, .sl (rl.obls.map aN) qo2] 54))):=(((Sub.ah h5).trans hac.1).trans hao2.1).put h5 _;have hvl:vs.length=i:=by rw [hrl,List.length_take]; omega
   simp -implicitDefEqProofs only [go_sem,r3];refine (hw.sub sG).app (U:=U) (tb:=54) (hs'.trans sG) (.sl (by intro v hv; rw [List.mem_singleton.1 hv]; rfl) .full:Rd _ 5 (.sl [.agg [.s rl.id, .v (.bool rl.deny),aC rl.tgt, .sl (rl.cond.map aW) qc, .sl (rl.obls.map aN) qo2]] .full) [.agg [.s rl.id, .v (.bool rl.deny),aC rl.tgt, .sl (rl.cond.map aW) qc, .sl (rl.obls.map aN) qo2]]) (by rfl) (by decide) (by decide) (by rfl) (by simp) (by simp only [go_sem,List.length_cons,List.length_nil]; omega) fun id z' G4 h0i hid hw' hoth=> ?_
   have nid:∀ {k:Nat} {cs:List AV},H' k=some (.obj cs 28)→k≠id:=fun {k cs} hk e=>by
    subst e;rcases hid with hn|⟨l,c,ez⟩
    ·rw [sG _ _ hk] at hn; cases hn
    ·rcases hw with ⟨_,e2⟩|⟨id',_,cap,rest,e2,h2,_⟩
     ·rw [ez] at e2; cases e2
     ·rw [ez] at e2
      injection e2 with e2
      rw [←e2,hk] at h2;injection h2 with h2
      injection h2 with _ h2
      cases h2
   simp -implicitDefEqProofs only [go_sem,r21,w1];refine ⟨_, ?_,i+1,z',_,(hoth _ (nid q1)).trans (sG _ _ q1),(hoth _ (nid q2)).trans (sG _ _ q2),fun j b hj=> ?_, .inr ⟨id,h0i,hw'⟩, ?_,by omega,rfl, ?_, ?_, ?_, ?_, ?_, ?_⟩
   ·omega
   ·rw [hoth j (fun e=>by rw [e,h0i] at hj; cases hj)]
    exact sG _ _ (hs' _ _ hj)
   ·rw [List.take_succ_eq_append_getElem hlt,erl]
    exact hr.snoc ⟨qc,qo2,rfl⟩
   all_goals simp -implicitDefEqProofs only [go_sem,r1,r2,r19,r20]
  rintro ρ H' ⟨z,vs,q1,q2,hs',hw,hr,r1,r2,r3⟩
  simp -implicitDefEqProofs only [go_sem,r1,q1,Gq];refine gD.join (.exit 2) (fun ρ G=>∃qk,G i1=some (.obj [.s pid, .v (.bool pset), .v (.int .i64 palg),aC ptgt, .sl (prules.map aB) .no, .sl (pkids.map aE) .no, .sl (pobls.map aN) qo] 28)∧Ab.Sub H' G∧lk ρ 1=some (.ptr i1 0)∧lk ρ 2=some (.ptr i2 0)∧lk ρ 3=some z∧lk ρ 6=some (.sl (pkids.map aE) qk)) ?_ fun K2 hK2=> ?_
  rotate_left
  ·refine .intro (fun m ρ G=>∃(i:Nat) (y:AV),Acc U 28 H' G y ((pkids.take i).map aE)∧i≤pkids.length∧m=pkids.length - i∧lk ρ 1=some (.ptr i1 0)∧lk ρ 2=some (.ptr i2 0)∧lk ρ 3=some z∧lk ρ 6=some y∧lk ρ 45=some (.sl (pkids.map aE) .no)∧lk ρ 46=some (.v (.int .i64 pkids.length))∧lk ρ 47=some (.v (.int .i64 i))) pkids.length ?_ ?_
   ·refine ⟨0,_, .full (.refl _),by omega,rfl, ?_, ?_, ?_, ?_, ?_, ?_, ?_⟩<;>simp -implicitDefEqProofs only [go_sem,r1,r2,r3]
    all_goals rfl
   rintro m ρ G ⟨i,y,ha,hi,rfl,r1,r2,r3,r6,r45,r46,r47⟩
   by_cases hlt:i<pkids.length
   case neg=>
    obtain rfl:i=pkids.length:=by omega
    have t1:decide ((pkids.length:Int)<(pkids.length:Int))=false:=decide_eq_false (by omega)
    rw [List.take_length] at ha;obtain ⟨qk,rfl⟩:=ha.row;simp -implicitDefEqProofs only [go_sem,r45,r46,r47,t1];exact hK2 _ _ ⟨qk,ha.1 _ _ q1,ha.1,by simp -implicitDefEqProofs only [go_sem,r1],by simp -implicitDefEqProofs only [go_sem,r2],by simp -implicitDefEqProofs only [go_sem,r3],by simp -implicitDefEqProofs only [go_sem,r6]⟩
   have t1:decide ((i:Int)<(pkids.length:Int))=true:=decide_eq_true (by omega)
   have w1:IntKind.i64.wrap ((i:Int)+1)=((i+1:Nat):Int):=by rw [IntWalk.i64_in _ (by omega)]; omega
   have hx:(pkids.map aE)[i]'(by simpa using hlt)=aE pkids[i]:=Gr ..
   have ihk:=ih i hlt;have htk:(pkids.take (i+1)).map aE=(pkids.take i).map aE++ [aE pkids[i]]:=by rw [List.take_succ_eq_append_getElem hlt,List.map_append]; rfl
   obtain ⟨k,ek⟩:∃k,pkids[i]=k:=⟨_,rfl⟩;rw [ek] at hx htk;simp only [ek] at ihk;obtain ⟨kid,kset,kalg,ktgt,krules,kkids,kobls,ek2⟩:=kK k;have ea:aE k= .agg [.s kid, .v (.bool kset), .v (.int .i64 kalg),aC ktgt, .sl (krules.map aB) .no, .sl (kkids.map aE) .no,ay kobls]:=by rw [ek2,jJ]
   rw [ea] at hx htk;simp only [ea] at ihk;simp -implicitDefEqProofs only [go_sem,r45,r46,r47,t1];refine .at i (by simpa using hlt) (by rw [hx]; rfl) ?_
   simp -implicitDefEqProofs only [go_sem,hx];intro i8 h8;simp -implicitDefEqProofs only [go_sem,r6];refine (ihk _).pthen ?_;simp -implicitDefEqProofs only [go_sem,r6];refine (ha.sub (.ah h8)).app (zs:= [.agg [.s kid, .v (.bool kset), .v (.int .i64 kalg),aC ktgt, .sl (krules.map aB) .no, .sl (kkids.map aE) .no,ay kobls]]) (by decide) (by decide) (fun k hk=>hk) (fX sI _) (by intro w hw; rw [List.mem_singleton.1 hw]; rfl) (by simp only [go_sem,Gq,List.length_take,List.length_cons,List.length_nil]; omega) fun z' G2 ha' _=> ?_
   simp -implicitDefEqProofs only [go_sem,r47,w1];refine ⟨_, ?_,i+1,z',by rw [htk]; exact ha',by omega,rfl, ?_, ?_, ?_, ?_, ?_, ?_, ?_⟩
   ·omega
   all_goals simp -implicitDefEqProofs only [go_sem,r1,r2,r3,r45,r46]
  rintro ρ G ⟨qk,q1,hsG,r1,r2,r3,r6⟩
  have q2' :=hsG _ _ q2;have hw2:=hw.sub hsG;simp -implicitDefEqProofs only [go_sem,r1,r2,r3,r6,q1,q2',hw2.rd.fit,hw2.rd.cells,pO,n21];refine .same (.refl _) ⟨⟨z,vs,qk,qo,rfl, ?_,hr⟩,((hs'.trans hsG).put h1 _).put n2 _⟩;rcases hw2 with hw2|⟨id,h0,ow⟩
  ·exact .inl hw2
  ·refine .inr ⟨id,h0,ow.same ?_⟩
   have e1:=yF ow q1 (by decide)
   have e2:=yF ow q2' (by decide)
   rw [af _ _ e2,af _ _ e1]
termination_by p=>SizeOf.sizeOf p
decreasing_by
 have:=List.sizeOf_lt_of_mem (Gv hj);simp only [aR.mk.sizeOf_spec];omega
theorem zw (p:aR) (hp:smP p) (h:Heap):aj Tryd.prog 10 [aE p] h fun r h' =>r=aE p∧h' =h:=
 aj.freeze fun g hg _=>(tg p hp g).mono fun r h' ⟨h1,h2⟩=>⟨h2,_,h1.frz fun x=>x,rfl⟩
end Go.Proofs.YtfpckjaeeiiipaaDoor
namespace Go.Proofs
open Go.Shelf
def Tryd.lA:Go.Shelf.Ren:=⟨fun|166=>56|167=>72|169=>57|240=>73|276=>79|n=>n,fun|31=>59|72=>97|76=>101|70=>94|37=>95|75=>100|127=>115|164=>119|80=>103|n=>n,fun|n=>n⟩
theorem Tryd.xI:Go.Proofs.Lays.n167 Tryd.prog Tryd.lA:= {
 mixed:=by kernel_rfl
 f167:=Tryd.func72.trans (congrArg some (by kernel_rfl))
 f240:=Tryd.func73.trans (congrArg some (by kernel_rfl))
 f276:=Tryd.func79.trans (congrArg some (by kernel_rfl))
 t0:=Tryd.underlying0
 a0:=Tryd.isAgg0
 z0:=Tryd.sizeOf0
 v0:=Tryd.zeroValue0
 t4:=Tryd.underlying4
 a4:=Tryd.isAgg4
 z4:=Tryd.sizeOf4
 v4:=Tryd.zeroValue4
 t5:=Tryd.underlying5
 a5:=Tryd.isAgg5
 z5:=Tryd.sizeOf5
 v5:=Tryd.zeroValue5
 t9:=Tryd.underlying9
 a9:=Tryd.isAgg9
 z9:=Tryd.sizeOf9
 v9:=Tryd.zeroValue9
 t20:=Tryd.underlying20
 a20:=Tryd.isAgg20
 z20:=Tryd.sizeOf20
 v20:=Tryd.zeroValue20
 t37:=Tryd.underlying95
 a37:=Tryd.isAgg95
 z37:=Tryd.sizeOf95
 v37:=Tryd.zeroValue95
 t70:=Tryd.underlying94
 a70:=Tryd.isAgg94
 z70:=Tryd.sizeOf94
 v70:=Tryd.zeroValue94
 t72:=Tryd.underlying97
 a72:=Tryd.isAgg97
 z72:=Tryd.sizeOf97
 v72:=Tryd.zeroValue97
 t75:=Tryd.underlying100
 a75:=Tryd.isAgg100
 z75:=Tryd.sizeOf100
 v75:=Tryd.zeroValue100
 t164:=Tryd.underlying119
 a164:=Tryd.isAgg119
 z164:=Tryd.sizeOf119
 v164:=Tryd.zeroValue119
}
def Tryd.lz:Go.Shelf.Ren:=⟨fun|166=>56|167=>72|169=>57|240=>73|276=>79|n=>n,fun|31=>59|72=>97|76=>101|70=>94|37=>95|75=>100|127=>115|164=>119|80=>103|n=>n,fun|n=>n⟩
theorem Tryd.xH:Go.Proofs.Lays.n166 Tryd.prog Tryd.lz:= {
 mixed:=by kernel_rfl
 f166:=Tryd.func56.trans (congrArg some (by kernel_rfl))
 f240:=Tryd.func73.trans (congrArg some (by kernel_rfl))
 f276:=Tryd.func79.trans (congrArg some (by kernel_rfl))
 t0:=Tryd.underlying0
 a0:=Tryd.isAgg0
 z0:=Tryd.sizeOf0
 v0:=Tryd.zeroValue0
 t3:=Tryd.underlying3
 a3:=Tryd.isAgg3
 z3:=Tryd.sizeOf3
 v3:=Tryd.zeroValue3
 t4:=Tryd.underlying4
 a4:=Tryd.isAgg4
 z4:=Tryd.sizeOf4
 v4:=Tryd.zeroValue4
 t9:=Tryd.underlying9
 a9:=Tryd.isAgg9
 z9:=Tryd.sizeOf9
 v9:=Tryd.zeroValue9
 t20:=Tryd.underlying20
 a20:=Tryd.isAgg20
 z20:=Tryd.sizeOf20
 v20:=Tryd.zeroValue20
 t37:=Tryd.underlying95
 a37:=Tryd.isAgg95
 z37:=Tryd.sizeOf95
 v37:=Tryd.zeroValue95
 t70:=Tryd.underlying94
 a70:=Tryd.isAgg94
 z70:=Tryd.sizeOf94
 v70:=Tryd.zeroValue94
 t72:=Tryd.underlying97
 a72:=Tryd.isAgg97
 z72:=Tryd.sizeOf97
 v72:=Tryd.zeroValue97
 t75:=Tryd.underlying100
 a75:=Tryd.isAgg100
 z75:=Tryd.sizeOf100
 v75:=Tryd.zeroValue100
 t164:=Tryd.underlying119
 a164:=Tryd.isAgg119
 z164:=Tryd.sizeOf119
 v164:=Tryd.zeroValue119
}
def Tryd.lB:Go.Shelf.Ren:=⟨fun|166=>56|167=>72|169=>57|240=>73|276=>79|n=>n,fun|31=>59|72=>97|76=>101|70=>94|37=>95|75=>100|127=>115|164=>119|80=>103|n=>n,fun|n=>n⟩
theorem Tryd.xJ:Go.Proofs.Lays.n169 Tryd.prog Tryd.lB:= {
 mixed:=by kernel_rfl
 f169:=Tryd.func57.trans (congrArg some (by kernel_rfl))
 t0:=Tryd.underlying0
 a0:=Tryd.isAgg0
 z0:=Tryd.sizeOf0
 v0:=Tryd.zeroValue0
 t3:=Tryd.underlying3
 a3:=Tryd.isAgg3
 z3:=Tryd.sizeOf3
 v3:=Tryd.zeroValue3
 t9:=Tryd.underlying9
 a9:=Tryd.isAgg9
 z9:=Tryd.sizeOf9
 v9:=Tryd.zeroValue9
 t37:=Tryd.underlying95
 a37:=Tryd.isAgg95
 z37:=Tryd.sizeOf95
 v37:=Tryd.zeroValue95
 t70:=Tryd.underlying94
 a70:=Tryd.isAgg94
 z70:=Tryd.sizeOf94
 v70:=Tryd.zeroValue94
 t72:=Tryd.underlying97
 a72:=Tryd.isAgg97
 z72:=Tryd.sizeOf97
 v72:=Tryd.zeroValue97
 t127:=Tryd.underlying115
 a127:=Tryd.isAgg115
 z127:=Tryd.sizeOf115
 v127:=Tryd.zeroValue115
}
theorem Tryd.js:Builder.Extra Tryd.prog Tryd.lA where
 sizeBuilder:=by kernel_rfl
 liesBuilder:=by kernel_rfl
 t5:=Tryd.underlying5
 a5:=Tryd.isAgg5
 z5:=Tryd.sizeOf5
 v5:=Tryd.zeroValue5
 infoByte:=by kernel_rfl
 cellsByte:=by kernel_rfl
 sizeByte:=by kernel_rfl
 neB5:=by decide
theorem Tryd.jr:Builder.Extra Tryd.prog Tryd.lz where
 sizeBuilder:=by kernel_rfl
 liesBuilder:=by kernel_rfl
 t5:=Tryd.underlying5
 a5:=Tryd.isAgg5
 z5:=Tryd.sizeOf5
 v5:=Tryd.zeroValue5
 infoByte:=by kernel_rfl
 cellsByte:=by kernel_rfl
 sizeByte:=by kernel_rfl
 neB5:=by decide
theorem Tryd.jt:Builder.Extra Tryd.prog Tryd.lB where
 sizeBuilder:=by kernel_rfl
 liesBuilder:=by kernel_rfl
 t5:=Tryd.underlying5
 a5:=Tryd.isAgg5
 z5:=Tryd.sizeOf5
 v5:=Tryd.zeroValue5
 infoByte:=by kernel_rfl
 cellsByte:=by kernel_rfl
 sizeByte:=by kernel_rfl
 neB5:=by decide
theorem Tryd.Builder_WriteByte_k (B b:Nat) (bs:List Value) (c:Int) (w:World) (h:Lib.IsBuilderF 97 5 B b bs w) (hlen:bs.length+1≤140737488355328) (hBw:B≤w.heap.size):
  Calls Tryd.prog 72 #[.pointer (some ⟨b,0,none⟩), .int .u8 c] w fun e w' =>e= .returned .nilIface∧(Lib.BuilderAtF 97 5 B b (.pointer (some ⟨b,0,none⟩)) (bs++ [.int .u8 c]) w'∧RowKit.Below B w w'∧Lib.OthersKept 5 (some b) w w'):=Any.Builder_WriteByte_k Tryd.xI Tryd.js B b bs c w h hlen hBw
theorem Tryd.Builder_WriteString_k (B b:Nat) (bs:List Value) (s:ByteArray) (w:World) (h:Lib.IsBuilderF 97 5 B b bs w) (hlen:bs.length+s.size≤140737488355328) (hBw:B≤w.heap.size):
  Calls Tryd.prog 56 #[.pointer (some ⟨b,0,none⟩), .string s] w fun e w' =>e= .returned (.tuple #[.int .i64 s.size, .nilIface])∧(Lib.BuilderAtF 97 5 B b (.pointer (some ⟨b,0,none⟩)) (bs++Lib.strCells s) w'∧RowKit.Below B w w'∧Lib.OthersKept 5 (some b) w w'):=Any.Builder_WriteString_k Tryd.xH Tryd.jr B b bs s w h hlen hBw
theorem Tryd.Builder_String_k (B b:Nat) (l:List UInt8) (w:World) (h:Lib.IsBuilderF 97 5 B b (Lib.byteCells l) w) (h0:l≠ []):
  Calls Tryd.prog 57 #[.pointer (some ⟨b,0,none⟩)] w fun e w' =>e= .returned (.string ⟨l.toArray⟩)∧(Lib.IsBuilderF 97 5 B b (Lib.byteCells l) w'∧RowKit.Below B w w'∧Lib.OthersKept 5 (some b) w w'):=Any.Builder_String_k Tryd.xJ Tryd.jt B b l w h h0
end Go.Proofs
namespace Go.Proofs
open Go.RowKit
def Tryd.bh (s:ByteArray) (k:Nat):List UInt8:= [34]++((s.data.toList.take k).map Bf.cr).flatten
set_option maxRecDepth 100000 in
theorem Tryd.DV:∀c:Fin 256,bits BinOp.and IntKind.u8 (c.val:Int) 15=((c.val % 16:Nat):Int):=by decide
theorem Tryd.qy (n:Nat) (hn:n<16) (w:World):(Instr.slice 9 (Value.string {data:= #[48,49,50,51,52,53,54,55,56,57,97,98,99,100,101,102]}) (some (.int .u8 (n:Int))) (some (.int .u8 (IntKind.u8.wrap ((n:Int)+1)))) none).run Tryd.prog w= .ok (.string ⟨#[Bf.jD n]⟩) w:=by
 have e:IntKind.u8.wrap ((n:Int)+1)=((n+1:Nat):Int):=by
  have:n=0∨n=1∨n=2∨n=3∨n=4∨n=5∨n=6∨n=7∨n=8∨n=9∨n=10∨n=11∨n=12∨n=13∨n=14∨n=15:=by omega
  rcases this with rfl|rfl|rfl|rfl|rfl|rfl|rfl|rfl|rfl|rfl|rfl|rfl|rfl|rfl|rfl|rfl<;>decide
 rw [e,run_slice_string w 9 _ .u8 .u8 (n:Int) ((n+1:Nat):Int) Tryd.underlying9 (by omega) (by omega) (by show ((n+1:Nat):Int)≤16; omega)]
 have:n=0∨n=1∨n=2∨n=3∨n=4∨n=5∨n=6∨n=7∨n=8∨n=9∨n=10∨n=11∨n=12∨n=13∨n=14∨n=15:=by omega
 rcases this with rfl|rfl|rfl|rfl|rfl|rfl|rfl|rfl|rfl|rfl|rfl|rfl|rfl|rfl|rfl|rfl<;>rfl
theorem Tryd.jO (s:ByteArray) (k:Nat) (hk:k≤s.size) (hs:s.size≤64):(Tryd.bh s k).length≤193:=by
 have:∀l:List UInt8,((l.map Bf.cr).flatten).length≤3*l.length:=fun l=>by
  induction l with
  |nil=>simp
  |cons c r ih=>
   have:(Bf.cr c).length≤3:=by unfold Bf.cr; split<;>simp
   simp only [List.map_cons,List.flatten_cons,Gu,List.length_cons] at ih⊢;omega
 have h1:=this (s.data.toList.take k);have h2:(s.data.toList.take k).length≤64:=by
  have:s.size=s.data.toList.length:=Array.length_toList.symm;simp; omega
 unfold Tryd.bh;simp only [Gu,List.length_cons,List.length_nil];omega
theorem Tryd.gY (s:ByteArray) (k:Nat) (hk:k<s.size):Tryd.bh s (k+1)=Tryd.bh s k++Bf.cr s[k]:=by
 have e:s.size=s.data.toList.length:=Array.length_toList.symm;have hk2:k<s.data.toList.length:=by omega
 unfold Tryd.bh;rw [List.take_succ_eq_append_getElem hk2,List.map_append,List.flatten_append];simp only [List.map_cons,List.map_nil,List.flatten_cons,List.flatten_nil,List.append_nil,List.append_assoc];rfl
theorem Tryd.nO (s:ByteArray):Tryd.bh s s.size++ [34]=Bf.dN s.data.toList:=by
 have e:s.size=s.data.toList.length:=Array.length_toList.symm;unfold Tryd.bh Bf.dN;rw [e,List.take_length]
theorem Tryd.iz (s:ByteArray) (k:Nat) (hk:k<s.size) (ho:Bf.pq s[k]=true):
  Lib.byteCells (Tryd.bh s k)++Lib.strCells (({data:= #[92]}:ByteArray)++ {data:= #[Bf.jD (s[k].toNat / 16)]}++ {data:= #[Bf.jD (s[k].toNat % 16)]})=Lib.byteCells (Tryd.bh s (k+1)):=by
 rw [Tryd.gY s k hk,Lib.byteCells_append]
 congr 1
 rw [Bf.cr,if_pos ho];rfl
theorem Tryd.sd (s:ByteArray) (k:Nat) (hk:k<s.size) (ho:Bf.pq s[k]=false):
  Lib.byteCells (Tryd.bh s k)++ [Value.int .u8 (s[k].toNat:Int)]=Lib.byteCells (Tryd.bh s (k+1)):=by
 rw [Tryd.gY s k hk,Lib.byteCells_append]
 congr 1
 rw [Bf.cr,if_neg (by simp [ho])]
 rfl
set_option maxHeartbeats 4000000 in
set_option maxRecDepth 1000000 in
theorem Tryd.qV (s:ByteArray) (w:World) (hs:s.size≤64):
  Calls Tryd.prog 54 #[.string s] w fun e w' =>e= .returned (.string ⟨(Bf.dN s.data.toList).toArray⟩)∧Below w.heap.size w w' :=by
 go_enter Tryd.func54,Tryd.ntmps54
 go_wp2_with (go_at_call 72; refine (Tryd.Builder_WriteByte_k w.heap.size w.heap.size [] 34 _ (Lib.IsBuilderF.of (Lib.fresh_isBuilder 97 5 w)) (by simp) (by simp)).mono ?_)
 rintro e W0 ⟨rfl,h0,b0,_⟩
 go_wp2
 go_loopw [9] (fun v wr=>∃k:Nat,v= .int .i64 k∧k≤s.size∧Lib.IsBuilderF 97 5 w.heap.size w.heap.size (Lib.byteCells (Tryd.bh s k)) wr∧Below w.heap.size w wr) (fun v _=>s.size - (intOf v).toNat)
 case atStart=>
  refine ⟨0,rfl,by omega, ?_, ?_⟩
  ·exact Or.inr h0
  ·exact ((Below.refl _ w).alloc (Nat.le_refl _) _).trans b0
 case round=>
  obtain ⟨k,rfl,hk,hI,hbw⟩:=hrel
  by_cases hp:k<s.size
  ·have hx1:∀w,(Instr.slice 9 (Value.string {data:= #[48,49,50,51,52,53,54,55,56,57,97,98,99,100,101,102]}) (some (.int .u8 ((s[k].toNat:Int) / 16))) (some (.int .u8 (IntKind.u8.wrap ((s[k].toNat:Int) / 16+1)))) none).run Tryd.prog w= .ok (.string ⟨#[Bf.jD (s[k].toNat / 16)]⟩) w:=
    fun w=>Tryd.qy (s[k].toNat / 16) (by have:=s[k].toNat_lt; omega) w
   have hb:bits BinOp.and IntKind.u8 (s[k].toNat:Int) 15=((s[k].toNat % 16:Nat):Int):=Tryd.DV ⟨s[k].toNat,s[k].toNat_lt⟩;have hx2:∀w,(Instr.slice 9 (Value.string {data:= #[48,49,50,51,52,53,54,55,56,57,97,98,99,100,101,102]}) (some (.int .u8 (bits BinOp.and IntKind.u8 (s[k].toNat:Int) 15))) (some (.int .u8 (IntKind.u8.wrap (bits BinOp.and IntKind.u8 (s[k].toNat:Int) 15+1)))) none).run Tryd.prog w= .ok (.string ⟨#[Bf.jD (s[k].toNat % 16)]⟩) w:=by
    intro w; rw [hb]; exact Tryd.qy (s[k].toNat % 16) (by omega) w
   clear hb;have hql:=Tryd.jO s k hk hs
   by_cases d1:(s[k].toNat:Int)<32
   ·go_wp2
    refine wp_region_still_tail 14 (by kernel_rfl) (by kernel_rfl) ?_
    simp only [List.take_succ_cons,List.take_zero,List.drop_succ_cons,List.drop_zero]
    (repeat still_step)
    try refine wpStill_nil ?_
    have hI2:Lib.IsBuilderF 97 5 w.heap.size w.heap.size (Lib.byteCells (Tryd.bh s k)) wr.drew:=hI;have hbw2:Below w.heap.size w wr.drew:=hbw.drew
    change wpList _ _ _ _ _ wr.drew
    generalize wr.drew=w2 at hI2 hbw2⊢
    go_wp2_with (go_at_call 56; refine (Tryd.Builder_WriteString_k w.heap.size w.heap.size _ _ _ hI2 (by rw [Lib.byteCells_length]; show _+3≤_; omega) hbw2.size).mono ?_)
    rintro e W1 ⟨rfl,h1,b1,_⟩
    go_wp2
    go_roundw
    case rel=>
     refine ⟨k+1,by go_num,by omega, ?_,hbw2.trans b1⟩
     rw [←Tryd.iz s k hp (by simp [Bf.pq,d1])]
     exact Or.inr h1
    case measure=>simp [intOf]; omega
   by_cases d2:126<(s[k].toNat:Int)
   ·go_wp2
    refine wp_region_still_tail 14 (by kernel_rfl) (by kernel_rfl) ?_
    simp only [List.take_succ_cons,List.take_zero,List.drop_succ_cons,List.drop_zero]
    (repeat still_step)
    try refine wpStill_nil ?_
    have hI2:Lib.IsBuilderF 97 5 w.heap.size w.heap.size (Lib.byteCells (Tryd.bh s k)) wr.drew:=hI;have hbw2:Below w.heap.size w wr.drew:=hbw.drew
    change wpList _ _ _ _ _ wr.drew
    generalize wr.drew=w2 at hI2 hbw2⊢
    go_wp2_with (go_at_call 56; refine (Tryd.Builder_WriteString_k w.heap.size w.heap.size _ _ _ hI2 (by rw [Lib.byteCells_length]; show _+3≤_; omega) hbw2.size).mono ?_)
    rintro e W1 ⟨rfl,h1,b1,_⟩
    go_wp2
    go_roundw
    case rel=>
     refine ⟨k+1,by go_num,by omega, ?_,hbw2.trans b1⟩
     rw [←Tryd.iz s k hp (by simp [Bf.pq,d2])]
     exact Or.inr h1
    case measure=>simp [intOf]; omega
   cases d3:((s[k].toNat:Int)==34)
   case true=>
    go_wp2
    refine wp_region_still_tail 14 (by kernel_rfl) (by kernel_rfl) ?_
    simp only [List.take_succ_cons,List.take_zero,List.drop_succ_cons,List.drop_zero]
    (repeat still_step)
    try refine wpStill_nil ?_
    have hI2:Lib.IsBuilderF 97 5 w.heap.size w.heap.size (Lib.byteCells (Tryd.bh s k)) wr.drew:=hI;have hbw2:Below w.heap.size w wr.drew:=hbw.drew
    change wpList _ _ _ _ _ wr.drew
    generalize wr.drew=w2 at hI2 hbw2⊢
    go_wp2_with (go_at_call 56; refine (Tryd.Builder_WriteString_k w.heap.size w.heap.size _ _ _ hI2 (by rw [Lib.byteCells_length]; show _+3≤_; omega) hbw2.size).mono ?_)
    rintro e W1 ⟨rfl,h1,b1,_⟩
    go_wp2
    go_roundw
    case rel=>
     refine ⟨k+1,by go_num,by omega, ?_,hbw2.trans b1⟩
     rw [←Tryd.iz s k hp (by simp [Bf.pq,d3])]
     exact Or.inr h1
    case measure=>simp [intOf]; omega
   cases d4:((s[k].toNat:Int)==92)
   case true=>
    go_wp2
    refine wp_region_still_tail 14 (by kernel_rfl) (by kernel_rfl) ?_
    simp only [List.take_succ_cons,List.take_zero,List.drop_succ_cons,List.drop_zero]
    (repeat still_step)
    try refine wpStill_nil ?_
    have hI2:Lib.IsBuilderF 97 5 w.heap.size w.heap.size (Lib.byteCells (Tryd.bh s k)) wr.drew:=hI;have hbw2:Below w.heap.size w wr.drew:=hbw.drew
    change wpList _ _ _ _ _ wr.drew
    generalize wr.drew=w2 at hI2 hbw2⊢
    go_wp2_with (go_at_call 56; refine (Tryd.Builder_WriteString_k w.heap.size w.heap.size _ _ _ hI2 (by rw [Lib.byteCells_length]; show _+3≤_; omega) hbw2.size).mono ?_)
    rintro e W1 ⟨rfl,h1,b1,_⟩
    go_wp2
    go_roundw
    case rel=>
     refine ⟨k+1,by go_num,by omega, ?_,hbw2.trans b1⟩
     rw [←Tryd.iz s k hp (by simp [Bf.pq,d4])]
     exact Or.inr h1
    case measure=>simp [intOf]; omega
   go_wp2_with (go_at_call 72; refine (Tryd.Builder_WriteByte_k w.heap.size w.heap.size _ _ _ hI (by rw [Lib.byteCells_length]; omega) hbw.size).mono ?_)
   rintro e W1 rfl h1 b1 _
   go_wp2
   go_roundw
   case rel=>
    refine ⟨k+1,by go_num,by omega, ?_,hbw.trans b1⟩
    rw [←Tryd.sd s k hp (by simp [Bf.pq,d1,d2,d3,d4])]
    exact Or.inr h1
   case measure=>simp [intOf]; omega
  ·have hk2:k=s.size:=by omega
   subst hk2;have hql:=Tryd.jO s s.size hk hs
   go_wp2_with (go_at_call 72; refine (Tryd.Builder_WriteByte_k w.heap.size w.heap.size _ _ _ hI (by rw [Lib.byteCells_length]; omega) hbw.size).mono ?_)
   rintro e W1 ⟨rfl,h1,b1,_⟩
   have e34:Lib.byteCells (Tryd.bh s s.size)++ [Value.int .u8 34]=Lib.byteCells (Bf.dN s.data.toList):=by
    rw [←Tryd.nO,Lib.byteCells_append]; rfl
   rw [e34] at h1
   go_wp2_with (go_at_call 57; refine (Tryd.Builder_String_k w.heap.size w.heap.size _ _ (Or.inr h1) (by simp [Bf.dN])).mono ?_)
   rintro e W2 ⟨rfl,_,b2,_⟩
   go_wp2
   go_ret
   exact ⟨rfl,(hbw.trans b1).trans b2⟩
end Go.Proofs
namespace Go.Proofs.YtfpckjaeeiiipaaDoor
open Go Go.Ab Go.Bf
theorem kL:Quoted:=fun s h hs=>by
 refine .lib ⟨_,Tryd.func54,by kernel_rfl,rfl⟩ fun c vs hs' g h1 h2=> ?_
 obtain ⟨v,rfl⟩:∃v,vs= #[v]:=Array.size_eq_one_iff.1 h1;have e:v= .string ⟨s.toArray⟩:=((h2 0 (by simp)).fl).1
 subst e;refine (Tryd.qV ⟨s.toArray⟩ c.w (by simpa [ByteArray.size] using hs)).mono ?_
 rintro e w' ⟨rfl,hb⟩
 have hl:=oK s hs;exact ⟨⟨_,rfl,fun c' _=> .s _ (by show (dN s).length<lim; have:(194:Nat)<lim:=(by decide); omega)⟩,hb⟩
def pH:eU:=⟨3,[111,119,110,101,114],true⟩
def jl:aR:= .mk [112] false 1 [] [⟨[114],true,[[[⟨pH,1,⟨5,0,[97,110,110]⟩⟩],[⟨pH,1,⟨2,1,[]⟩⟩]]],[⟨1,⟨1,1,[]⟩,⟨0,[],false⟩⟩,⟨11,⟨0,0,[]⟩,⟨0,[],false⟩⟩],[]⟩] [] [⟨1,1,[120]⟩]
theorem uE:inP jl:=by
 simp [jl,inP,inK,inT,inY,inA,inR,inL,inV]
set_option maxRecDepth 100000 in
theorem qZ:nu jl= [112,111,108,105,99,121,32,112,32,100,101,110,121,111,118,101,114,32,123,32,100,101,110,121,32,114,32,119,104,101,110,32,40,99,97,115,101,46,111,119,110,101,114,33,32,61,32,35,97,110,110,32,111,114,32,99,97,115,101,46,111,119,110,101,114,33,32,61,32,49,41,32,105,102,32,40,110,111,116,32,116,114,117,101,41,59,32,125,32,111,110,32,112,101,114,109,105,116,32,108,111,103,32,120]:=by
 kernel_rfl
theorem ri (h:Heap) (ht:iR h):aj Tryd.prog 5 [] h fun r h' =>r= .v (.bool true)∧h' =h:=by
 refine aj.body hU hm Tryd.func5 rfl (by kernel_rfl) 30 rfl [.tmp 0] rfl (Gp rfl) (fun hwf=> ?_)
 simp -implicitDefEqProofs only [go_sem];intro i1 h1;simp -implicitDefEqProofs only [go_sem];intro i2 h2;simp -implicitDefEqProofs only [go_sem];intro i3 h3;simp -implicitDefEqProofs only [go_sem];have hp:=fun hh hs=>nB kL jl uE hh (ht.sub hs)
 rw [qZ] at hp;refine aj.strip ?_;have e:∀(a:List AV) (k:Heap),a= [aE jl]→aj Tryd.prog 11 [aE jl] k=aj Tryd.prog 11 a k:=fun a k e=>by rw [e]
 rw [←e _ _ (by simp [strip,cj,aE,jl,pH,aZ,aB,aC,aD,bR,cE,aH,aW,ay,aN])]
 refine (hp _ (((Sub.ah h1).trans (.ah h2)).trans (.ah h3))).pthen ?_;simp -implicitDefEqProofs only [go_sem,List.append_eq,List.cons_append,List.nil_append,List.length_cons,List.length_nil,decide_true,Nat.zero_add];exact .mk _ (.refl _) (((Sub.ah h1).trans (.ah h2)).trans (.ah h3)) ⟨rfl,rfl⟩
theorem xP:iR (lU [(1,nh)]):=⟨0,rfl⟩
set_option maxRecDepth 100000 in
theorem pK (x y z:AV) (dx:Dat U 28 x) (dy:Dat U 29 y) (dz:Dat U 31 z) (h:Heap) (hp:iR h):aj Tryd.prog 3 [x,y,z] h fun r h' =>r= .v (.bool true)∧h' =h:=by
 obtain ⟨p,rfl,hi⟩:=xA dx;have hlen:=vq dx;obtain ⟨l,rfl,hil⟩:=p8 dy;obtain ⟨a,rfl⟩:=mE dz;have fin:∀H,Ab.Sub h H→aj Tryd.prog 5 [] H fun r h' =>r= .v (.bool true)∧h' =H:=fun H hs=>ri H (hp.sub hs)
 have hsp:=fun G=>xU p hlen G
 have hcp:=fun hs G=>zw p hs G
 have hsh:=fun G=>xT p hi G
 have hpo:=fun G hG=>nB kL p hi G hG
 have hpp:=fun G=>lD p p G
 rw [(vE p p).2 rfl] at hpp;obtain ⟨pid,pset,palg,ptgt,prules,pkids,pobls,ep⟩:=kK p;have ea:aE p= .agg [.s pid, .v (.bool pset), .v (.int .i64 palg),aC ptgt, .sl (prules.map aB) .no, .sl (pkids.map aE) .no,ay pobls]:=by rw [ep,jJ]
 simp only [ea] at hsp hcp hsh hpo hpp⊢;refine aj.body hU hm Tryd.func3 rfl (by kernel_rfl) 66 rfl [.tmp 6] rfl (Gp rfl) (fun hwf=> ?_)
 simp -implicitDefEqProofs only [go_sem,dZ];intro i3 h3;simp -implicitDefEqProofs only [go_sem];intro i5 h5;have n53:=pg h5;have n5:=rL h5;simp -implicitDefEqProofs only [go_sem];generalize eH:upd (upd h i3 _) i5 _=H;have hH:Ab.Sub h H:=by rw [←eH]; exact ((Sub.refl h).put h3 _).put n5 _
 have g3:H i3=some (.obj [.s pid, .v (.bool pset), .v (.int .i64 palg),aC ptgt, .sl (prules.map aB) .no, .sl (pkids.map aE) .no,ay pobls] 28):=by rw [←eH,af _ _ n53.symm,ag]
 have g5:H i5=some (.obj [.v (.int .i64 a.cat), .s a.name, .v (.bool a.must)] 31):=by rw [←eH,ag]
 clear eH;have hPow:=hp.sub hH;have out:aj Tryd.prog 5 [] H fun r h' =>r= .v (.bool true)∧h' =H:=fin H hH
 simp -implicitDefEqProofs only [go_sem,g3];refine (show aj Tryd.prog 4 [_] _ _ from hsp H).mono fun r H' ⟨⟨b,hb,hsm⟩,hG⟩=> ?_
 subst hb;subst hG;cases b
 ·simp -implicitDefEqProofs only [go_sem]
  refine out.pthen ?_;simp -implicitDefEqProofs only [go_sem];exact .mk _ (.refl _) hH ⟨rfl,rfl⟩
 have hsm:=hsm rfl;cases d1:decide ((60:Int)<(a.name.length:Int))
 case true=>
  simp -implicitDefEqProofs only [go_sem,g5,d1];refine out.pthen ?_;simp -implicitDefEqProofs only [go_sem];exact .mk _ (.refl _) hH ⟨rfl,rfl⟩
 have em:(if (40:Int)<(l.length:Int) then (40:Int) else (l.length:Int))=((min 40 l.length:Nat):Int):=by split<;>omega
 simp -implicitDefEqProofs only [go_sem,g5,d1,aH,Gq,em];refine ⟨by omega,by omega, ?_⟩
 have hiL:inL (l.take (min 40 l.length)):=fun n hn=>hil n (List.mem_of_mem_take hn)
 rw [←List.map_take];generalize l.take (min 40 l.length)=L at hiL⊢;simp -implicitDefEqProofs only [go_sem,Gq];have hse:=fun G hG=>rf kL L hiL G hG
 have hre:=fun G=>tL L G
 have hra:=fun G=>pG a G
 have hsa:=fun G=>nt a G
 have hxa:=fun d G=>pJ a d G
 simp only [aH] at hse hre;simp only [dZ] at hra hsa hxa
 by_cases hL:L= []
 case' pos=>
  have eW:gF L= []:=by simp [gF,hL]
  rw [eW] at hse;simp -implicitDefEqProofs only [go_sem,decide_eq_false (show¬(0:Int)<(L.length:Int) by rw [hL]; simp),Gq,g5]
 case' neg=>
  have hpos:0<L.length:=List.length_pos_iff.2 hL;simp -implicitDefEqProofs only [go_sem,decide_eq_true (show (0:Int)<(L.length:Int) by omega),Gq]
  refine (hre H').pthen ?_;cases hE:(bF L==(0:Int))
  case' false=>
   have eW:gF L= []:=by
    have:bF L≠0:=by simpa using hE
    simp [gF,this]
   rw [eW] at hse;simp -implicitDefEqProofs only [go_sem,hE,g5]
  case' true=>
   have e0:bF L=0:=by simpa using hE
   have eW:gF L=gG L:=by simp [gF,hL,e0]
   rw [eW] at hse;simp -implicitDefEqProofs only [go_sem,hE];refine aj.pthen (show aj Tryd.prog 7 [_] _ _ from tO L hL e0 hiL H') ?_
   simp -implicitDefEqProofs only [go_sem,g5]
 all_goals
  refine aj.pthen (show aj Tryd.prog 8 [_] _ _ from hra H') ?_
  cases da:bM a
  case' false=>
   have eV:gM a= []:=by simp [gM,da]
   rw [eV] at hsa;simp -implicitDefEqProofs only [go_sem,g3]
  case' true=>
   have eV:gM a=cn a:=by simp [gM,da]
   rw [eV] at hsa;simp -implicitDefEqProofs only [go_sem,g5];refine aj.pthen (show aj Tryd.prog 9 [_] _ _ from hxa da H') ?_
   simp -implicitDefEqProofs only [go_sem,g3]
  all_goals
   refine aj.pthen (show aj Tryd.prog 10 [_] _ _ from hcp hsm H') ?_
   simp -implicitDefEqProofs only [go_sem];intro i9 h9;simp -implicitDefEqProofs only [go_sem];generalize eM:upd H' i9 _=M;have hsM:Ab.Sub H' M:=by rw [←eM]; exact (Sub.refl H').new h9 _
   have m9:M i9=some (.obj [.s pid, .v (.bool pset), .v (.int .i64 palg),aC ptgt, .sl (prules.map aB) .no, .sl (pkids.map aE) .no,ay pobls] 28):=by rw [←eM,ag]
   have m3:=hsM _ _ g3;have m5:=hsM _ _ g5;have hM:=hH.trans hsM;clear eM h9;refine .quiet (by kernel_rfl) ?_
   simp -implicitDefEqProofs only [go_sem,m3];refine ⟨_,hpo M (hp.sub hM), ?_⟩;simp -implicitDefEqProofs only [go_sem,m3];refine ⟨_,hsh M, ?_⟩;simp -implicitDefEqProofs only [go_sem,beq_self_eq_true];refine ⟨_,hse M (hp.sub hM), ?_⟩;simp -implicitDefEqProofs only [go_sem,beq_self_eq_true,m5];refine ⟨_,hsa M, ?_⟩;simp -implicitDefEqProofs only [go_sem,beq_self_eq_true,m3,m9];refine ⟨_,hpp M, ?_⟩;simp -implicitDefEqProofs only [go_sem];refine ⟨_,fin M hM, ?_⟩;simp -implicitDefEqProofs only [go_sem];exact .mk _ (.refl _) hM ⟨rfl,rfl⟩
theorem nS (x y z:AV) (dx:Dat U 28 x) (dy:Dat U 29 y) (dz:Dat U 31 z):aj Tryd.prog 3 [x,y,z] (lU [(1,nh)]) fun r _=>r= .v (.bool true):=(pK x y z dx dy dz _ xP).mono fun _ _ h=>h.1
end Go.Proofs.YtfpckjaeeiiipaaDoor
