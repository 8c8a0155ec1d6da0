/- The law GuardOnly: pack 3 of its texts. -/
import Derived.Laws.Externs
import Derived.Lib.Overlaps
import Derived.Test.YtnlbeamjpefpfaaGreatDoorProg
import Derived.KernelRfl
import Derived.Lib.AtoiAll
import Derived.Test.YtnlbeamjpefpfaaGreatDoorPk1
import Derived.Test.YtnlbeamjpefpfaaGreatDoorPk2
set_option linter.unusedSimpArgs false
set_option linter.unusedVariables false
namespace Go.Bf
open Go Go.Ab
theorem tq {α:Type} (l:List α) (i:Nat) (h:i<l.length):(l.take (i+1)).zipIdx=(l.take i).zipIdx++ [(l[i],i)]:=by
 rw [List.take_succ_eq_append_getElem h,List.zipIdx_append];simp [Nat.min_eq_left (Nat.le_of_lt h)]
theorem Cr (l:Txt) (i:Nat) (h:i<l.length):tF (l.take (i+1))=(tF (l.take i) && qT l[i] i):=by
 simp [tF,tq l i h]
theorem EP (l:Txt) (i:Nat) (h:i<l.length) (hb:qT l[i] i=false):tF l=false:=by
 rw [tF,List.all_eq_false];exact ⟨(l[i],i),by rw [List.mk_mem_zipIdx_iff_getElem?]; exact List.getElem?_eq_getElem h,by simp [hb]⟩
theorem JF (c:UInt8):
  (decide (97≤(c.toNat:Int))=true∧decide ((c.toNat:Int)≤122)=true∧decide (48≤(c.toNat:Int))=true∧decide ((c.toNat:Int)≤57)=false∧((c.toNat:Int)==95)=false)∨
  (decide (97≤(c.toNat:Int))=false∧decide ((c.toNat:Int)≤122)=true∧decide (48≤(c.toNat:Int))=true∧decide ((c.toNat:Int)≤57)=true∧((c.toNat:Int)==95)=false)∨
  (decide (97≤(c.toNat:Int))=false∧decide ((c.toNat:Int)≤122)=true∧decide (48≤(c.toNat:Int))=true∧decide ((c.toNat:Int)≤57)=false∧((c.toNat:Int)==95)=true)∨
  (decide (97≤(c.toNat:Int))=false∧decide ((c.toNat:Int)≤122)=true∧decide (48≤(c.toNat:Int))=false∧decide ((c.toNat:Int)≤57)=true∧((c.toNat:Int)==95)=false)∨
  (decide (97≤(c.toNat:Int))=false∧decide ((c.toNat:Int)≤122)=true∧decide (48≤(c.toNat:Int))=true∧decide ((c.toNat:Int)≤57)=false∧((c.toNat:Int)==95)=false)∨
  (decide (97≤(c.toNat:Int))=true∧decide ((c.toNat:Int)≤122)=false∧decide (48≤(c.toNat:Int))=true∧decide ((c.toNat:Int)≤57)=false∧((c.toNat:Int)==95)=false):=by
 simp only [decide_eq_true_eq,decide_eq_false_iff_not,beq_iff_eq,beq_eq_false_iff_ne,ne_eq];omega
theorem tO {α:Type} {f:α→Int} {l:List α} {i:Nat} (h:i<l.length) (h0:gD f (l.take i)=0) (h1:f l[i]=0):gD f (l.take (i+1))=0:=by
 rw [List.take_succ_eq_append_getElem h];generalize l.take i=a at h0
 induction a with
 |nil=>simp [gD,h1]
 |cons x r ih=>
  simp only [gD] at h0;split at h0
  ·rename_i hx
   simp only [List.cons_append,gD,hx,if_true];exact ih h0
  ·rename_i hx; exact (hx h0).elim
theorem yh {α:Type} {f:α→Int} {l:List α} {i:Nat} (h:i<l.length) (h0:gD f (l.take i)=0) (h1:f l[i]≠0):gD f l=f l[i]:=by
 induction l generalizing i with
 |nil=>cases h
 |cons x r ih=>
  cases i with
  |zero=>simp only [List.getElem_cons_zero] at h1⊢; simp [gD,h1]
  |succ i=>
   simp only [List.take_succ_cons,gD] at h0;split at h0
   ·rename_i hx
    simp only [gD,hx,if_true,List.getElem_cons_succ];exact ih (by simpa using h) h0 (by simpa using h1)
   ·rename_i hx; exact (hx h0).elim
theorem oQ {e x:Int} {w:Went} (h:need e w= .bad x) (hw:w= .bad x→x≠0):x≠0:=by
 unfold need at h;split at h
 ·exact hw h
 ·cases h; assumption
theorem yP {m:dQ} {r:cO} {e:Int} (h:fT m r= .bad e):e≠0:=by
 unfold fT at h;split at h
 ·cases h; decide
 ·split at h
  ·cases h; decide
  ·exact oQ h fun h=>oQ h fun h=>oQ h fun h=>by cases h
theorem yl {m:dQ} {id:Txt} {set:Bool} {alg:Int} {tgt:fP} {nr nk:Nat} {obls:List cw} {e:Int} (h:eO m id set alg tgt nr nk obls= .bad e):e≠0:=by
 unfold eO at h;split at h
 ·cases h; decide
 ·split at h
  ·cases h; decide
  ·split at h
   ·cases h; decide
   ·exact oQ h fun h=>oQ h fun h=>by
     split at h
     ·cases h; decide
     ·cases h
theorem nu (m:dQ):∀(l:List cO) (i:Nat),eD m l=(match eD m (l.take i) with
  | .bad e=> .bad e
  | .ok m1=>eD m1 (l.drop i))
 | [],i=>by simp [eD]
 |r::l,0=>by simp [eD]
 |r::l,i+1=>by
  simp only [List.take_succ_cons,List.drop_succ_cons,eD];cases fT m r with
  |bad e=>rfl
  |ok m1=>simp only; exact nu m1 l i
theorem uf {m m1:dQ} {l:List cO} {i:Nat} (hi:i<l.length) (h:eD m (l.take i)= .ok m1):eD m (l.take (i+1))=fT m1 l[i]:=by
 rw [nu m _ i,List.take_take,Nat.min_eq_left (by omega),h,List.take_succ_eq_append_getElem hi,List.drop_append_of_le_length (by simp; omega),List.drop_of_length_le (by simp; omega)]
 simp only [List.nil_append,eD];cases fT m1 l[i]<;>rfl
theorem BW {m m1:dQ} {l:List cO} {i:Nat} {e:Int} (hi:i<l.length) (h:eD m (l.take i)= .ok m1) (hr:fT m1 l[i]= .bad e):eD m l= .bad e:=by
 rw [nu m l (i+1),uf hi h,hr]
theorem oK (m:dQ) (d:Nat):∀(l:List bG) (i:Nat),gG m d l=(match gG m d (l.take i) with
  | .bad e=> .bad e
  | .ok m1=>gG m1 d (l.drop i))
 | [],i=>by simp [gG]
 |r::l,0=>by simp [gG]
 |r::l,i+1=>by
  simp only [List.take_succ_cons,List.drop_succ_cons,gG];cases jI m d r with
  |bad e=>rfl
  |ok m1=>simp only; exact oK m1 d l i
theorem vS {m m1:dQ} {d:Nat} {l:List bG} {i:Nat} (hi:i<l.length) (h:gG m d (l.take i)= .ok m1):gG m d (l.take (i+1))=jI m1 d l[i]:=by
 rw [oK m d _ i,List.take_take,Nat.min_eq_left (by omega),h,List.take_succ_eq_append_getElem hi,List.drop_append_of_le_length (by simp; omega),List.drop_of_length_le (by simp; omega)]
 simp only [List.nil_append,gG];cases jI m1 d l[i]<;>rfl
theorem C1 {m m1:dQ} {d:Nat} {l:List bG} {i:Nat} {e:Int} (hi:i<l.length) (h:gG m d (l.take i)= .ok m1) (hr:jI m1 d l[i]= .bad e):gG m d l= .bad e:=by
 rw [oK m d l (i+1),vS hi h,hr]
theorem jG {l:List cw} (h:gH l=0):l.length≤8∧∀o∈l,oT o=true:=by
 unfold gH at h;split at h
 ·cases h
 ·rename_i h8
  split at h
  ·rename_i ha; exact ⟨by omega,fun o ho=>List.all_eq_true.1 ha o ho⟩
  ·cases h
theorem we {n:Nat} (h:jx n=0):0<n∧n≤8:=by
 unfold jx at h;split at h
 ·cases h
 ·split at h
  ·cases h
  ·omega
theorem tP {α:Type} {f:α→Int} {l:List α} (h:gD f l=0):∀x∈l,f x=0:=by
 induction l with
 |nil=>intro x hx; cases hx
 |cons y r ih=>
  simp only [gD] at h;split at h
  ·rename_i hy
   intro x hx;rcases List.mem_cons.1 hx with rfl|hx
   ·exact hy
   ·exact ih h x hx
  ·rename_i hy; exact (hy h).elim
theorem xV {l:List bN} (h:ux l=0):0<l.length∧l.length≤8∧∀m∈l,jO m=true:=by
 unfold ux at h;split at h
 ·rename_i hm
  have:=we hm;split at h
  ·rename_i ha; exact ⟨this.1,this.2,fun o ho=>List.all_eq_true.1 ha o ho⟩
  ·cases h
 ·rename_i hm; exact (hm h).elim
theorem xW {l:List (List bN)} (h:uz l=0):0<l.length∧l.length≤8∧∀m∈l,ux m=0:=by
 unfold uz at h;split at h
 ·rename_i hm
  have:=we hm;exact ⟨this.1,this.2,tP h⟩
 ·rename_i hm; exact (hm h).elim
theorem yU {l:fP} (h:j9 l=0):l.length≤8∧∀m∈l,uz m=0:=by
 unfold j9 at h;split at h
 ·cases h
 ·exact ⟨by omega,tP h⟩
def inV (v:bX):Prop:= -9223372036854775808≤v.n∧v.n≤9223372036854775807
def inA (l:List bN):Prop:=∀m∈l,inV m.val
def inY (l:List (List bN)):Prop:=∀a∈l,inA a
def inT (t:fP):Prop:=∀a∈t,inY a
def inL (l:List aO):Prop:=∀n∈l,inV n.val
def inR (r:cO):Prop:=inT r.tgt∧inL r.cond
mutual
def inP:bG→Prop
 | .mk id set alg tgt rules kids obls=>inT tgt∧(∀r∈rules,inR r)∧inK kids
def inK:List bG→Prop
 | []=>True
 |k::r=>inP k∧inK r
end
theorem Ml:∀l:List bG,inK l↔∀k∈l,inP k
 | []=>by simp [inK]
 |k::r=>by simp [inK,Ml r]
theorem vD {l:List aO} (h:jw l=0) (hn:l≠ []):l.length≤32∧fk [] l=some [false]:=by
 unfold jw at h;split at h
 ·cases h
 ·split at h
  ·cases h
  ·rename_i st hst
   split at h
   ·rename_i hx
    rcases hx with hx|hx
    ·exact (hn hx).elim
    ·subst hx; exact ⟨by omega,hst⟩
   ·cases h
def BV (r:cO):Prop:=bu r.id=true∧j9 r.tgt=0∧jw r.cond=0∧gH r.obls=0
mutual
def lD (d:Nat):bG→Prop
 | .mk id set alg tgt rules kids obls=>d≤4∧bu id=true∧1≤alg∧alg≤6∧(set=true→rules= [])∧(set=false→kids= []∧alg≠4)∧j9 tgt=0∧gH obls=0∧rules.length≤16∧kids.length≤16∧(∀r∈rules,BV r)∧tY (d+1) kids
def tY (d:Nat):List bG→Prop
 | []=>True
 |k::r=>lD d k∧tY d r
end
theorem oJ (d:Nat):∀l:List bG,tY d l↔∀k∈l,lD d k
 | []=>by simp [tY]
 |k::r=>by simp [tY,oJ d r]
theorem wg {m m' :dQ} {s:Txt} (h:iE m s=some m'):bu s=true:=by
 unfold iE at h;split at h
 ·rename_i hc; exact hc.2
 ·cases h
theorem oR {e:Int} {w:Went} {m:dQ} (h:need e w= .ok m):e=0∧w= .ok m:=by
 unfold need at h;split at h
 ·exact ⟨by assumption,h⟩
 ·cases h
theorem ID {m m' :dQ} {r:cO} (h:fT m r= .ok m'):BV r:=by
 unfold fT at h;split at h
 ·cases h
 ·rename_i m1 hm
  split at h
  ·cases h
  ·obtain ⟨h1,h⟩:=oR h
   obtain ⟨h2,h⟩:=oR h;obtain ⟨h3,h⟩:=oR h;exact ⟨wg hm,h1,h2,h3⟩
theorem yQ:∀(l:List cO) (m m' :dQ),eD m l= .ok m'→∀r∈l,BV r
 | [],_,_,_,r,hr=>by cases hr
 |x::l,m,m',h,r,hr=>by
  simp only [eD] at h;cases hx:fT m x with
  |bad e=>rw [hx] at h; cases h
  |ok m1=>
   rw [hx] at h;rcases List.mem_cons.1 hr with rfl|hr
   ·exact ID hx
   ·exact yQ l m1 m' h r hr
theorem Fs {m m1:dQ} {id:Txt} {set:Bool} {alg:Int} {tgt:fP} {nr nk:Nat} {obls:List cw} (h:eO m id set alg tgt nr nk obls= .ok m1):
  iE m id=some m1∧1≤alg∧alg≤6∧(set=true→nr=0)∧(set=false→nk=0∧alg≠4)∧j9 tgt=0∧gH obls=0∧nr≤16∧nk≤16:=by
 unfold eO at h;split at h
 ·cases h
 rename_i m2 hm
 split at h
 ·cases h
 split at h
 ·cases h
 rename_i h1 h2
 obtain ⟨h3,h⟩:=oR h;obtain ⟨h4,h⟩:=oR h;split at h
 ·cases h
 cases h;have h5:(set=true→nr=0)∧(set=false→nk=0∧alg≠4):=by
  cases set<;>simp at h2⊢<;>omega
 exact ⟨hm,by omega,by omega,h5.1,h5.2,h3,h4,by omega,by omega⟩
mutual
theorem El:∀(p:bG) (d:Nat) (m m' :dQ),jI m d p= .ok m'→lD d p
 | .mk id set alg tgt rules kids obls,d,m,m',h=>by
  simp only [jI] at h;split at h
  ·cases h
  rename_i hd
  split at h
  ·cases h
  rename_i m1 h1
  split at h
  ·cases h
  rename_i m2 h2
  obtain ⟨g1,g2,g3,g4,g5,g6,g7,g8,g9⟩:=Fs h1;simp only [lD];exact ⟨by omega,wg g1,g2,g3,fun e=>List.length_eq_zero_iff.1 (g4 e),fun e=>⟨List.length_eq_zero_iff.1 (g5 e).1,(g5 e).2⟩,g6,g7,g8,g9,yQ _ _ _ h2,Bg kids (d+1) m2 m' h⟩
theorem Bg:∀(l:List bG) (d:Nat) (m m' :dQ),gG m d l= .ok m'→tY d l
 | [],_,_,_,_=>by simp [tY]
 |k::r,d,m,m',h=>by
  simp only [gG] at h;split at h
  ·cases h
  rename_i m1 h1
  simp only [tY];exact ⟨El k d m m1 h1,Bg r d m1 m' h⟩
end
end Go.Bf
namespace Go.Ab
open Go
def hm2 (i:Nat) (a:Blk) (j:Nat) (b:Blk):Heap:=upd (hm1 i a) j (some b)
theorem Sub.hm2 {h:Heap} {i j:Nat} {a b:Blk} (h1:h i=some a) (h2:h j=some b):Sub (hm2 i a j b) h:=fun k c hk=>by
 unfold Ab.hm2 at hk
 by_cases e:k=j
 ·subst e; rw [ah] at hk; cases hk; exact h2
 ·rw [ag _ _ e] at hk; exact Sub.hm1 h1 k c hk
theorem rz (i:Nat) (a:Blk) (j:Nat) (b:Blk):hm2 i a j b j=some b:=ah ..
theorem ry {i:Nat} (a:Blk) {j:Nat} (b:Blk) (h:i≠j):hm2 i a j b i=some a:=by
 unfold hm2; rw [ag _ _ h]; exact fJ i a
theorem aH {h:Heap} {i j:Nat} {b:Blk} (e:upd h i (some b) j=none):j≠i:=fun hh=>by
 subst hh; rw [ah] at e; cases e
theorem Sub.put {h g:Heap} (hs:Sub h g) {i:Nat} (hi:h i=Option.none) (x:Option Blk):Sub h (Ab.upd g i x):=fun k c hk=>by
 by_cases e:k=i
 ·subst e; rw [hi] at hk; cases hk
 ·rw [ag _ _ e]; exact hs k c hk
theorem Sub.both {h g:Heap} (hs:Sub h g) (i:Nat) (x:Option Blk):Sub (Ab.upd h i x) (Ab.upd g i x):=fun k c hk=>by
 by_cases e:k=i
 ·subst e; rw [ah] at hk⊢; exact hk
 ·rw [ag _ _ e] at hk⊢; exact hs k c hk
theorem Acc.put {U:TypeId→TI} {e:TypeId} {h h' :Heap} {y:AV} {xs:List AV} (ha:Acc U e h h' y xs) {id:Nat} (hid:h id=Option.none) {cs:List AV} {t:TypeId} (hob:h' id=some (.obj cs t)) (x:Option Blk):Acc U e h (Ab.upd h' id x) y xs:=by
 obtain ⟨h1,rfl|⟨k,i1,rfl,i2⟩⟩:=ha
 ·exact ⟨h1.put hid x, .inl rfl⟩
 ·refine ⟨h1.put hid x, .inr ⟨k,i1,rfl, ?_⟩⟩
  rw [ag _ _ fun e=> ?_]
  ·exact i2
  ·subst e; rw [hob] at i2; cases i2
theorem base_start (G:Heap) (id:Nat) (x:Option Blk):Sub (upd G id Option.none) (upd G id x):=fun k c hk=>by
 by_cases e:k=id
 ·subst e; rw [ah] at hk; cases hk
 ·rw [ag _ _ e] at hk⊢; exact hk
theorem eU {G H:Heap} {id:Nat} {b:Blk} (hs:Sub (upd G id Option.none) H) (hb:H id=some b):Sub (upd G id (some b)) H:=fun k c hk=>by
 by_cases e:k=id
 ·subst e; rw [ah] at hk; cases hk; exact hb
 ·rw [ag _ _ e] at hk; exact hs k c (by rw [ag _ _ e]; exact hk)
theorem zb (xs:List AV) (q:Perm) (a b:AV):Weak (.tup [.sl xs q,a,b]) (.tup [.sl xs .no,a,b]):= .tup _ _ rfl fun i h1 h2=>by
 rcases i with _|_|_|i
 ·exact .sl _ _
 ·exact .refl _
 ·exact .refl _
 ·simp at h1; omega
theorem WP.IP {P:Program} {U:TypeId→TI} {n:Nat} (hU:∀t,aN P U t) (hm:P.follows .mixedOrders=true) {c rest:Code} {ρ:Env} {h:Heap} {K:Exit→Env→Heap→Prop} (l:Nat) (J:Nat→Env→Heap→Prop) (hf:findLabel c l=some (.seq .skip rest))
  (pass:∀m ρ h,J m ρ h→WP P n rest ρ h (KJump l (fun ρ' h' =>∃m',m' <m∧J m' ρ' h') K))
  (first:(∀m ρ h,J m ρ h→WP P n rest ρ h (KJump l (fun ρ h=>∃m,J m ρ h) K))→WP P n c ρ h (KJump l (fun ρ h=>∃m,J m ρ h) K)):WP P n (.scope c) ρ h K:=
 WP.scope l J hf (first fun m ρ h hJ=>(pass m ρ h hJ).weaken fun e ρ h hk=>by
  cases e with
  |goto l' =>obtain ⟨h1,m',_,h2⟩:=hk; exact ⟨h1,m',h2⟩
  |_=>exact hk) fun m ρ h hJ=>WP.seq (dj hU hm .skip ρ h _ (pass m ρ h hJ))
end Go.Ab
namespace Go.Ab
attribute [go_sem] Int.natCast_zero Int.ofNat_zero Int.natCast_one Int.cast_ofNat_Int bne_self_eq_false beq_self_eq_true Bool.not_true Bool.not_false
attribute [go_sem] Nat.reduceLT Nat.reduceEqDiff Nat.reduceAdd Nat.reduceLeDiff Nat.reduceMul Nat.reduceSub Int.reduceBEq Int.reduceBNe
attribute [go_sem ↓] reduceIte
end Go.Ab
namespace Go.Ab
open Go
inductive Av (F:Nat→Prop):AV→Prop where
 |v (x:Value):Av F (.v x)
 |s (l:List UInt8):Av F (.s l)
 |agg (xs:List AV) (h:∀x∈xs,Av F x):Av F (.agg xs)
 |tup (xs:List AV) (h:∀x∈xs,Av F x):Av F (.tup xs)
 |sl (xs:List AV) (p:Perm) (h:∀x∈xs,Av F x) (hp:∀id,p= .own id→¬F id):Av F (.sl xs p)
 |pe (x:AV) (o:Nat) (h:Av F x):Av F (.pe x o)
 |ptr (id o:Nat) (h:¬F id):Av F (.ptr id o)
 |oa (id o l:Nat) (h:¬F id):Av F (.oa id o l)
 |ob (id o l c z:Nat) (h:¬F id):Av F (.ob id o l c z)
 |ifc (t:TypeId) (x:AV) (h:Av F x):Av F (.ifc t x)
 |fn (f:FuncId) (xs:List AV) (h:∀x∈xs,Av F x):Av F (.fn f xs)
 |mp (id:Nat) (h:¬F id):Av F (.mp id)
theorem Av.cells {F:Nat→Prop} {x:AV} (h:Av F x):∀y∈x.cells,Av F y:=by
 cases h with
 |agg xs hx=>exact hx
 |_=>intro y hy; rw [List.mem_singleton.1 hy]; constructor<;>assumption
theorem Av.Bw {F:Nat→Prop} {x:AV} (h:∀y∈x.cells,Av F y):Av F x:=by
 cases x with
 |agg xs=>exact .agg xs h
 |_=>exact h _ (List.mem_singleton.2 rfl)
theorem Rep.av {c:Cx} {F:Nat→Prop} (hF:∀id,F id→c.h id=none) {x:AV} {u:Value} (h:Rep c x u):Av F x:=by
 have nf:∀ {id:Nat} {k:Blk},c.h id=some k→¬F id:=fun hk hf=>by rw [hF _ hf] at hk; cases hk
 induction h with
 |v x=>exact .v x
 |s l hl=>exact .s l
 |agg xs vs hn hr ho ih=>exact .agg xs fun x hx=>by obtain ⟨i,hi,rfl⟩:=List.mem_iff_getElem.1 hx; exact ih i hi
 |tup xs vs hn hr ih=>exact .tup xs fun x hx=>by obtain ⟨i,hi,rfl⟩:=List.mem_iff_getElem.1 hx; exact ih i hi
 |sl xs p a cap sz val hc hm h0 hs hz hf hr ho hp ih=>
  refine .sl xs p (fun x hx=> ?_) fun id e=> ?_
  ·obtain ⟨i,hi,rfl⟩:=List.mem_iff_getElem.1 hx
   refine .Bw fun y hy=> ?_
   obtain ⟨j,hj,rfl⟩:=List.mem_iff_getElem.1 hy;exact ih i hi j hj
  ·subst e
   obtain ⟨m,h1,_⟩:=hp;exact nf h1
 |pe x off b o val hb hf hr ho ih=>
  refine .pe x off (.Bw fun y hy=> ?_)
  obtain ⟨j,hj,rfl⟩:=List.mem_iff_getElem.1 hy;exact ih j hj
 |ptr id off cs t h=>exact .ptr _ _ (nf h)
 |oa id off len cap o cs t h hc hm ho=>exact .oa _ _ _ (nf h)
 |ob id off len cap sz o cs t h hc hm ho=>exact .ob _ _ _ _ _ (nf h)
 |ifc t x u h ih=>exact .ifc t x ih
 |fn f xs vs hn hr ih=>exact .fn f xs fun x hx=>by obtain ⟨i,hi,rfl⟩:=List.mem_iff_getElem.1 hx; exact ih i hi
 |mp id m h=>exact .mp _ (nf h)
noncomputable def Cx.back (c' :Cx) (g:Heap):Cx:= {c' with h:=fun id=>if g id=none then none else c'.h id}
theorem sw {c' :Cx} {g:Heap} {id:Nat} {k:Blk} (h:(c'.back g).h id=some k):g id≠none∧c'.h id=some k:=by
 simp only [Cx.back] at h;split at h
 ·cases h
 ·exact ⟨‹_›,h⟩
theorem jM {c' :Cx} {g:Heap} {id:Nat} (h:g id≠none):(c'.back g).h id=c'.h id:=by
 simp only [Cx.back,h,if_false]
theorem vh {c' :Cx} {g:Heap} {b o:Nat} (h:owned (c'.back g) b o):owned c' b o:=by
 obtain ⟨id,k,h1,h2,h3⟩:=h;exact ⟨id,k,(sw h1).2,h2,h3⟩
theorem vg {c' :Cx} {g:Heap} {b o:Nat} {u:Value} (h:fix c' b o u):fix (c'.back g) b o u:=⟨h.1,fun ho=>h.2 (vh ho)⟩
theorem Rep.back {c' :Cx} {g:Heap} {x:AV} {u:Value} (h:Rep c' x u) (ha:Av (fun id=>g id=none) x):Rep (c'.back g) x u:=by
 induction h with
 |v x=>exact .v x
 |s l hl=>exact .s l hl
 |agg xs vs hn hr ho ih=>cases ha with|agg _ ha=>exact .agg xs vs hn (fun i hi=>ih i hi (ha _ (V5 hi))) ho
 |tup xs vs hn hr ih=>cases ha with|tup _ ha=>exact .tup xs vs hn (fun i hi=>ih i hi (ha _ (V5 hi)))
 |sl xs p a cap sz val hc hm h0 hs hz hf hr ho hp ih=>
  cases ha with
  |sl _ _ ha hq=>
   refine .sl xs p a cap sz val hc hm h0 hs hz (fun q hq i j hi hj=>vg (hf q hq i j hi hj)) (fun i hi j hj=>ih i hi j hj ((ha _ (V5 hi)).cells _ (V5 hj))) ho ?_
   cases p with
   |no=>trivial
   |full=>exact hp
   |own id=>
    obtain ⟨m,h1,h2,h3⟩:=hp;exact ⟨m,by rw [jM (hq id rfl)]; exact h1,h2,h3⟩
 |pe x off b o val hb hf hr ho ih=>
  cases ha with
  |pe _ _ ha=>exact .pe x off b o val hb (fun j hj=>vg (hf j hj)) (fun j hj=>ih j hj (ha.cells _ (V5 hj))) ho
 |ptr id off cs t h=>cases ha with|ptr _ _ ha=>exact .ptr id off cs t (by rw [jM ha]; exact h)
 |oa id off len cap o cs t h hc hm ho=>cases ha with|oa _ _ _ ha=>exact .oa id off len cap o cs t (by rw [jM ha]; exact h) hc hm ho
 |ob id off len cap sz o cs t h hc hm ho=>cases ha with|ob _ _ _ _ _ ha=>exact .ob id off len cap sz o cs t (by rw [jM ha]; exact h) hc hm ho
 |ifc t x u h ih=>cases ha with|ifc _ _ ha=>exact .ifc t x u (ih ha)
 |fn f xs vs hn hr ih=>cases ha with|fn _ _ ha=>exact .fn f xs vs hn (fun i hi=>ih i hi (ha _ (V5 hi)))
 |mp id m h=>cases ha with|mp _ ha=>exact .mp id m (by rw [jM ha]; exact h)
inductive Frz (g h:Heap):AV→AV→Prop where
 |keep (x:AV) (ha:Av (fun id=>g id=none) x):Frz g h x x
 |agg (xs ys:List AV) (hn:xs.length=ys.length) (hr:∀i (h1:i<xs.length) (h2:i<ys.length),Frz g h xs[i] ys[i]):Frz g h (.agg xs) (.agg ys)
 |tup (xs ys:List AV) (hn:xs.length=ys.length) (hr:∀i (h1:i<xs.length) (h2:i<ys.length),Frz g h xs[i] ys[i]):Frz g h (.tup xs) (.tup ys)
 |sl (xs ys:List AV) (p:Perm) (hn:xs.length=ys.length) (hz:∀i (h1:i<xs.length) (h2:i<ys.length),xs[i].cells.length=ys[i].cells.length)
   (hr:∀i (h1:i<xs.length) (h2:i<ys.length) j (h3:j<xs[i].cells.length) (h4:j<ys[i].cells.length),Frz g h xs[i].cells[j] ys[i].cells[j]):Frz g h (.sl xs p) (.sl ys .no)
 |ob (id off len cap sz:Nat) (cs:List AV) (t:TypeId) (ys:List AV) (hg:g id=none) (hh:h id=some (.obj cs t)) (hl:off+len*sz≤cs.length) (hn:ys.length=len) (hz:∀i (h1:i<ys.length),ys[i].cells.length=sz)
   (hr:∀i (h1:i<ys.length) j (h3:j<ys[i].cells.length) (h4:off+(i*sz+j)<cs.length),Frz g h (cs[off+(i*sz+j)]) ys[i].cells[j]):Frz g h (.ob id off len cap sz) (.sl ys .no)
 |ptr (id off:Nat) (cs:List AV) (t:TypeId) (ys:List AV) (hg:g id=none) (hh:h id=some (.obj cs t)) (hn:cs.length=ys.length) (hr:∀i (h1:i<cs.length) (h2:i<ys.length),Frz g h cs[i] ys[i]):Frz g h (.ptr id off) (.pe (.agg ys) off)
 |ifc (t:TypeId) (x y:AV) (hr:Frz g h x y):Frz g h (.ifc t x) (.ifc t y)
theorem Frz.rep {c' :Cx} {g h:Heap} (gd:Good c') (hh:Sub h c'.h) {x y:AV} (hz:Frz g h x y):∀ {u:Value},Rep c' x u→Rep (c'.back g) y u:=by
 have nown:∀ {id:Nat} {k:Blk} {o:Nat},g id=none→h id=some k→¬owned (c'.back g) (c'.φ id).block o:=fun {id k o} h1 h2 ho=>by
  obtain ⟨j,l,h3,h4,h5⟩:=ho;obtain ⟨h6,h7⟩:=sw h3;exact gd.inj j id l k h7 (hh _ _ h2) (fun e=>h6 (by rw [e]; exact h1)) h4
 induction hz with
 |keep x ha=>exact fun hr=>hr.back ha
 |agg xs ys hn hr ih=>
  intro u hu;obtain ⟨vs,rfl,h1,h2,h3⟩:=hu.mO;exact .agg ys vs (by omega) (fun i hi=>ih i (by omega) hi (h2 i (by omega))) fun i hi=>h3 i (by omega)
 |tup xs ys hn hr ih=>
  intro u hu;obtain ⟨vs,rfl,h1,h2⟩:=hu.z7;exact .tup ys vs (by omega) (fun i hi=>ih i (by omega) hi (h2 i (by omega)))
 |sl xs ys p hn hz hr ih=>
  intro u hu;obtain ⟨a,cap,sz,val,rfl,hs⟩:=hu.ia;rw [hn];have hcap:=hs.hc;refine .sl ys .no a cap sz val (by omega) hs.hm hs.h0 hs.hs (fun i hi=>by rw [←hz i (by omega) hi]; exact hs.hz i (by omega)) (fun q hq i j hi hj=>vg (hs.hf q hq i j (by omega) hj)) (fun i hi j hj=> ?_) (fun i j hi hj=>hs.ho i j (by omega) hj) trivial
  exact ih i (by omega) hi j (by rw [hz i (by omega) hi]; exact hj) hj (hs.hr i (by omega) j (by rw [hz i (by omega) hi]; exact hj))
 |ob id off len cap sz cs t ys hg hid hl hn hz hr ih=>
  intro u hu;obtain ⟨o,rfl,h1,h2,cs',t',h3,h4⟩:=hu.iK;have hcid:=hh _ _ hid;rw [hcid] at h3;cases h3;obtain ⟨vs,v1,v2,v3⟩:=gd.obj id cs t hcid;subst hn;have hbd:∀i j,i<ys.length→j<sz→i*sz+j<ys.length*sz:=fun i j hi hj=>by
   have:(i+1)*sz≤ys.length*sz:=Nat.mul_le_mul_right _ (by omega)
   rw [Nat.add_mul,Nat.one_mul] at this;omega
  refine .sl ys .no _ cap sz (fun i j=>vs.getD (off+(i*sz+j)) undef) h1 h2 (fun e=>by cases e) (fun q hq _=> ?_) hz (fun q hq i j hi hj=> ?_) (fun i hi j hj=> ?_) (fun i j hi hj=>(v3 _ (by have:=hbd i j hi hj; omega)).2) trivial
  ·cases hq
   exact ⟨rfl,gd.lt hcid⟩
  ·cases hq
   obtain ⟨rfl,_⟩:=h4 (by omega)
   have hb:=hbd i j hi hj;refine ⟨?_,nown hg hid⟩;have:o+(i*sz+j)<vs.size:=by omega
   simp [World.cell?,Cx.back,v1,this]
  ·have hj' :j<sz:=by rw [←hz i hi]; exact hj
   have hb:=hbd i j hi hj';exact ih i hi j hj (by omega) (v3 _ (by omega)).1
 |ptr id off cs t ys hg hid hn hr ih=>
  intro u hu;obtain ⟨rfl,_⟩:=hu.jR;have hcid:=hh _ _ hid;obtain ⟨vs,v1,v2,v3⟩:=gd.obj id cs t hcid;have:=Rep.pe (c:=c'.back g) (.agg ys) off (c'.φ id).block 0 (fun j=>vs.getD j undef) (gd.lt hcid) (fun j hj=>by
    have hj' :j<ys.length:=hj;refine ⟨?_,nown hg hid⟩;have:j<vs.size:=by omega
    simp [World.cell?,Cx.back,v1,this]) (fun j hj=>by
    have hj' :j<ys.length:=hj;exact ih j (by omega) hj' (v3 j (by omega)).1) (fun j hj=>by
    have hj' :j<ys.length:=hj;exact (v3 j (by omega)).2)
  rw [Nat.zero_add] at this;exact this
 |ifc t x y hr ih=>
  intro u hu;cases hu with
  |ifc _ _ u' h=>exact .ifc t y _ (ih h)
theorem ak.freeze {P:Program} {f:FuncId} {args:List AV} {h:Heap} {Q:AV→Prop}
  (hf:∀g,Sub h g→(∀x∈args,Av (fun id=>g id=none) x)→ak P f args g fun r h' =>Sub g h'∧∃y,Frz g h' r y∧Q y):ak P f args h fun r h' =>Q r∧h' =h:=by
 intro c vs hs gd h1 h2;have hav:∀x∈args,Av (fun id=>c.h id=none) x:=fun x hx=>by
  obtain ⟨i,hi,rfl⟩:=List.mem_iff_getElem.1 hx;exact (h2 i hi).av fun _ e=>e
 refine (hf c.h hs hav c vs (.refl _) gd h1 h2).mono ?_
 rintro u w' ⟨c',x,h',rfl,gd',hE,hr,hsub,hgh,y,hz,hq⟩
 have hkeep:∀id k,c.h id=some k→c'.h id=some k:=fun id k hk=>hsub _ _ (hgh _ _ hk)
 have hE2:Ext c (c'.back c.h):= {
  os:=hE.os,tape:=hE.tape,output:=hE.output,size:=hE.size,block:=hE.block,cell:=hE.cell,shape:=hE.shape
  steal:=fun b o hb ho=>hE.steal b o hb (vh ho)
  obj:=fun id cs t hi=>by rw [jM (by rw [hi]; simp)]; exact hE.obj id cs t hi
  spare:=fun id n sz hi=>by rw [jM (by rw [hi]; simp)]; exact hE.spare id n sz hi
  mp:=fun id m hi=>by rw [jM (by rw [hi]; simp)]; exact hE.mp id m hi
  ro:=fun id b vs hi=>by rw [jM (by rw [hi]; simp)]; exact hE.ro id b vs hi}
 have hold:∀id k,(c'.back c.h).h id=some k→c.h id=some k∧c'.h id=some k:=fun id k hk=>by
  obtain ⟨a1,a2⟩:=sw hk;cases hc:c.h id with
  |none=>exact (a1 hc).elim
  |some k' =>rw [hkeep id k' hc] at a2; cases a2; exact ⟨rfl,hkeep id _ hc⟩
 refine ⟨c'.back c.h,y,h,rfl, ?_,hE2,hz.rep gd' hsub hr,fun id k hk=> ?_,hq,rfl⟩
 ·refine ⟨?_,fun i j k l hi hj hne=>gd'.inj i j k l (hold i k hi).2 (hold j l hj).2 hne,fun id cs t hi=> ?_,fun id n sz hi=>gd'.spare id n sz (hold id _ hi).2,fun id m hi=> ?_,fun id m hi=>gd'.keys id m (hold id _ hi).2,fun id b vs hi=>gd'.ro id b vs (hold id _ hi).2⟩
  ·obtain ⟨N,hN⟩:=gd'.fin
   exact ⟨N,fun id hid=>by simp only [Cx.back]; split; rfl; exact hN id hid⟩
  ·obtain ⟨vs,v1,v2,v3⟩:=gd'.obj id cs t (hold id _ hi).2
   obtain ⟨vs0,w1,w2,w3⟩:=gd.obj id cs t (hold id _ hi).1;exact ⟨vs,v1,v2,fun j hj=>⟨(v3 j hj).1.back ((w3 j hj).1.av fun _ e=>e),(v3 j hj).2⟩⟩
  ·obtain ⟨es,cl,v1,v2,v3⟩:=gd'.mp id m (hold id _ hi).2
   obtain ⟨es0,cl0,w1,w2,w3⟩:=gd.mp id m (hold id _ hi).1;exact ⟨es,cl,v1,v2,fun i hi' hi2=>⟨(v3 i hi' hi2).1,(v3 i hi' hi2).2.back ((w3 i hi' (by omega)).2.av fun _ e=>e)⟩⟩
 ·rw [jM (by rw [hs _ _ hk]; simp)]
  exact hkeep id k (hs _ _ hk)
section
variable {P : Program} {U : TypeId → TI} {ρ : Env} {h h' : Heap} {sz : Nat} {y : AV} {xs : List AV} {e : TypeId}
def Rd (h:Heap) (sz:Nat) (y:AV) (xs:List AV):Prop:=
 Sized sz xs∧((∃q,y= .sl xs q)∨∃id off cap cs t,y= .ob id off xs.length cap sz∧h id=some (.obj cs t)∧off+xs.length*sz≤cs.length∧(cs.drop off).take (xs.length*sz)=aq xs)
theorem Rd.sl (hs:Sized sz xs) (q:Perm):Rd h sz (.sl xs q) xs:=⟨hs, .inl ⟨q,rfl⟩⟩
theorem Rd.sub (hb:Rd h sz y xs) (hs:Sub h h'):Rd h' sz y xs:=by
 obtain ⟨h1,hb|⟨id,off,cap,cs,t,rfl,h2,h3⟩⟩:=hb
 ·exact ⟨h1, .inl hb⟩
 ·exact ⟨h1, .inr ⟨id,off,cap,cs,t,rfl,hs _ _ h2,h3⟩⟩
theorem Rd.len (hb:Rd h sz y xs) (e:TypeId) (k:AV→Prop):xy y k (.slice e)=k (.v (.int .i64 xs.length)):=by
 obtain ⟨_,⟨q,rfl⟩|⟨id,off,cap,cs,t,rfl,_⟩⟩:=hb<;>rfl
theorem Rd.cells (hb:Rd h sz y xs):y.cells= [y]:=by
 obtain ⟨_,⟨q,rfl⟩|⟨id,off,cap,cs,t,rfl,_⟩⟩:=hb<;>rfl
theorem Rd.fit (hb:Rd h sz y xs) (m:Nat):fit y m=(m=1):=by
 obtain ⟨_,⟨q,rfl⟩|⟨id,off,cap,cs,t,rfl,_⟩⟩:=hb<;>rfl
theorem Rd.src (hb:Rd h sz y xs) (hz:(U e).sz=sz) {f:List AV→Prop} (hf:f xs):jq U e h y f:=by
 obtain ⟨_,⟨q,rfl⟩|⟨id,off,cap,cs,t,rfl,h2,h3,h4⟩⟩:=hb
 ·exact hf
 ·rw [Km,h2]
  exact ⟨hz.symm,xs,rfl,h3,h4.symm,hf⟩
def At (h:Heap) (p x:AV) (o:Nat):Prop:=p= .pe x o∨∃id a cs t,p= .ptr id (a+o)∧h id=some (.obj cs t)∧a+x.cells.length≤cs.length∧(cs.drop a).take x.cells.length=x.cells
theorem At.sub {p x:AV} {o:Nat} (ha:At h p x o) (hs:Sub h h'):At h' p x o:=by
 rcases ha with rfl|⟨id,a,cs,t,rfl,h2,h3⟩
 ·exact .inl rfl
 ·exact .inr ⟨id,a,cs,t,rfl,hs _ _ h2,h3⟩
theorem Df {cs:List AV} {x:AV} {a o:Nat} {i:TI} {k:AV→Prop} (h1:a+x.cells.length≤cs.length) (h2:(cs.drop a).take x.cells.length=x.cells) (h3:i.sz≠0) (h4:o+i.sz≤x.cells.length):gL cs (a+o) i k=gL x.cells o i k:=by
 unfold gL;split
 ·have e:(cs.drop (a+o)).take i.sz=(x.cells.drop o).take i.sz:=by
   rw [←h2,List.drop_take,List.take_take,List.drop_drop,Nat.min_eq_left (by omega)]
  rw [e];apply propext;constructor
  ·exact fun hk=>⟨h4,hk.2⟩
  ·exact fun hk=>⟨by omega,hk.2⟩
 ·have e:cs[a+o]? =x.cells[o]? :=by
   have:=congrArg (fun q=>q[o]?) h2
   simp only [List.getElem?_take,List.getElem?_drop,show o<x.cells.length by omega,if_true] at this
   exact this
  rw [e]
theorem At.part {p x:AV} {o:Nat} (ha:At h p x o) {ty:TypeId} (hz:(U ty).sz≠0) (hl:o+(U ty).sz≤x.cells.length) (k:AV→Prop):oO U h ty p k=gL x.cells o (U ty) k:=by
 rcases ha with rfl|⟨id,a,cs,t,rfl,h2,h3,h4⟩
 ·rw [HQ]
  unfold atA;split
  ·rename_i hc
   obtain ⟨rfl,hc2,hc3⟩:=hc;unfold gL;split
   ·rename_i hag
    rw [hag] at hc3;have:x= .agg x.cells:=by cases x<;>first|rfl|cases hc3
    rw [List.drop_zero,←hc2,List.take_length,Nat.zero_add,←this];simp
   ·rename_i hag
    have:bA x=false:=by rw [hc3]; simpa using hag
    rw [mA this];simp
  ·rfl
 ·rw [FD,h2]
  exact Df h3 h4 hz hl
theorem At.all {p x:AV} (ha:At h p x 0) {ty:TypeId} (hz:(U ty).sz≠0) (hl:x.cells.length=(U ty).sz) (hg:bA x=(U ty).k.agg) (k:AV→Prop):oO U h ty p k=k x:=by
 rw [ha.part hz (by omega)]
 unfold gL;split
 ·rename_i hag
  rw [hag] at hg;have:x= .agg x.cells:=by cases x<;>first|rfl|cases hg
  rw [List.drop_zero,←hl,List.take_length,Nat.zero_add,←this];simp
 ·rename_i hag
  have:bA x=false:=by rw [hg]; simpa using hag
  rw [mA this];simp
theorem At.field {p x:AV} {o:Nat} (ha:At h p x o) {f off:Nat} {t:TypeId} {fs:List (Nat×TypeId)} {K:AV→Prop} (hf:fs[f]? =some (off,t)) (hz:(U t).sz≠0) (hk:∀p',At h p' x (o+off)→K p'):vE U f p K (.strct fs):=by
 rcases ha with rfl|⟨id,a,cs,t',rfl,h2,h3,h4⟩
 ·rw [E0,hf]
  exact ⟨hz,hk _ (.inl rfl)⟩
 ·rw [CH,hf]
  exact ⟨hz,hk _ (.inr ⟨id,a,cs,t',by rw [Nat.add_assoc],h2,h3,h4⟩)⟩
theorem Rd.idx (hb:Rd h sz y xs) {m:Int} {x:IntKind} {K:AV→Prop} (j:Nat) (hm:m=j) (hj:j<xs.length) (hz:(U e).sz=sz) (h0:sz≠0) (hk:∀p,At h p xs[j] 0→K p):oF U y (.v (.int x m)) K (.slice e):=by
 subst hm;have hc:=hb.1 xs[j] (V5 hj);obtain ⟨hs,⟨q,rfl⟩|⟨id,off,cap,cs,t,rfl,h2,h3,h4⟩⟩:=hb
 ·refine (yo ..).mpr ⟨by omega, ?_⟩
  exact fj.at j hj (by omega) (hk _ (.inl rfl))
 ·refine (ym ..).mpr ⟨by omega,hz.symm,by omega,by omega,hk _ (.inr ⟨id,off+j*sz,cs,t,by simp,h2, ?_, ?_⟩)⟩
  ·have:(j+1)*sz≤xs.length*sz:=Nat.mul_le_mul_right _ (by omega)
   rw [Nat.add_mul,Nat.one_mul] at this;rw [hc]; omega
  ·have e1:=mR hs j hj
   rw [←h4,List.drop_take,List.take_take,List.drop_drop] at e1;rw [hc];have:(j+1)*sz≤xs.length*sz:=Nat.mul_le_mul_right _ (by omega)
   rw [Nat.add_mul,Nat.one_mul] at this;rw [Nat.min_eq_left (by omega)] at e1
   exact e1
def Ow (tb:TypeId) (h:Heap) (sz id:Nat) (y:AV) (xs:List AV):Prop:=
 ∃cap rest,y= .ob id 0 xs.length cap sz∧h id=some (.obj (aq xs++rest) tb)∧rest.length=(cap - xs.length)*sz∧xs.length≤cap∧Sized sz xs
variable {tb : TypeId} {id : Nat}
theorem Ow.rd (hw:Ow tb h sz id y xs):Rd h sz y xs:=by
 obtain ⟨cap,rest,rfl,h1,h2,h3,h4⟩:=hw;have hl:=aW h4;exact ⟨h4, .inr ⟨id,0,cap,_,tb,rfl,h1,by rw [V4,hl]; omega,by rw [List.drop_zero,←hl,List.take_left]⟩⟩
theorem Ow.sub (hw:Ow tb h sz id y xs) (hs:Sub h h'):Ow tb h' sz id y xs:=by
 obtain ⟨cap,rest,e1,h1,h2⟩:=hw;exact ⟨cap,rest,e1,hs _ _ h1,h2⟩
theorem Ow.same (hw:Ow tb h sz id y xs) (hs:h' id=h id):Ow tb h' sz id y xs:=by
 obtain ⟨cap,rest,e1,h1,h2⟩:=hw;exact ⟨cap,rest,e1,hs.trans h1,h2⟩
theorem Ow.none (hw:Ow tb h sz id y xs):h id≠Option.none:=by
 obtain ⟨cap,rest,e1,h1,h2⟩:=hw;rw [h1]; simp
theorem Ow.make {cs:List AV} {cap:Nat} {rest:List AV} (hs:Sized sz xs) (hcs:cs=aq xs) {n:Nat} (hn:n=xs.length) (hc:n≤cap) (hr:rest.length=(cap - n)*sz):Ow tb (upd h id (some (.obj (cs++rest) tb))) sz id (.ob id 0 n cap sz) xs:=by
 subst hcs; subst hn
 exact ⟨cap,rest,rfl,ah ..,hr,hc,hs⟩
theorem jy.ow {cs:List AV} {n:Nat} {Q:AV→Heap→Prop} (hs:Sized sz xs) (hcs:cs=aq xs) (hn:n=xs.length) (hk:∀id y h',h id=Option.none→Ow tb h' sz id y xs→(∀j,j≠id→h' j=h j)→Q y h'):jy h cs n sz tb Q:=
 fun id cap rest hid hc hr=>hk id _ _ hid (Ow.make hs hcs hn hc hr) fun j hj=>ag _ _ hj
theorem FN {us vs:List AV} {o:Nat} {c:List AV}:over (us++vs) (us.length+o) c=us++over vs o c:=by
 simp only [Ab.over,Nat.add_assoc,List.take_length_add_append,List.drop_length_add_append,List.append_assoc]
theorem Fa {xs:List AV} (hs:Sized sz xs) (j:Nat) (hj:j<xs.length) (x:AV) (hx:x.cells.length=sz):aq (xs.set j x)=over (aq xs) (j*sz) x.cells:=by
 induction xs generalizing j with
 |nil=>cases hj
 |cons a r ih=>
  have h1:=hs a (List.mem_cons_self ..);have h2:Sized sz r:=fun z hz=>hs z (List.mem_cons_of_mem _ hz)
  cases j with
  |zero=>
   simp only [List.set_cons_zero,jB,Ab.over,Nat.zero_mul,List.take_zero,List.nil_append,Nat.zero_add];rw [hx,←h1,List.drop_left]
  |succ j=>
   have hj' :j<r.length:=by simpa using hj
   have e1:(j+1)*sz=a.cells.length+j*sz:=by rw [Nat.add_mul,Nat.one_mul,h1]; omega
   rw [List.set_cons_succ,jB,jB,ih h2 j hj',e1,FN]
theorem E9 {xs:List AV} (hs:Sized sz xs) (j:Nat) (hj:j<xs.length) (o:Nat) (c:List AV) (ho:o+c.length≤sz):over (aq xs) (j*sz+o) c=aq (xs.set j (.agg (over xs[j].cells o c))):=by
 have hc:=hs xs[j] (V5 hj);have hl:(over xs[j].cells o c).length=sz:=by rw [gK (by omega)]; exact hc
 rw [Fa hs j hj (.agg (over xs[j].cells o c)) hl];have hp:=mR hs j hj;have hfl:=aW hs;have hb:(j+1)*sz≤xs.length*sz:=Nat.mul_le_mul_right _ (by omega)
 rw [Nat.add_mul,Nat.one_mul] at hb;have e1:(aq xs).take (j*sz+o)=(aq xs).take (j*sz)++xs[j].cells.take o:=by
  rw [←hp,List.take_take,Nat.min_eq_left (by omega),List.take_add]
 have e2:(aq xs).drop (j*sz+o+c.length)=xs[j].cells.drop (o+c.length)++(aq xs).drop (j*sz+sz):=by
  have e3:(aq xs).drop (j*sz)=xs[j].cells++(aq xs).drop (j*sz+sz):=by
   rw [←List.drop_drop,←hp,List.take_append_drop]
  rw [Nat.add_assoc,←List.drop_drop,e3,List.drop_append_of_le_length (by omega)]
 show over (aq xs) (j*sz+o) c=over (aq xs) (j*sz) (over xs[j].cells o c)
 have e4:j*sz+(over xs[j].cells o c).length=j*sz+sz:=by rw [hl]
 rw [Ab.over,Ab.over,e4,e1,e2];simp only [Ab.over,List.append_assoc]
theorem Ij {us vs:List AV} {o:Nat} {c:List AV} (h1:o+c.length≤us.length):over (us++vs) o c=over us o c++vs:=by
 simp only [Ab.over];rw [List.take_append_of_le_length (by omega),List.drop_append_of_le_length (by omega)]
 simp [List.append_assoc]
theorem Ow.idx (hw:Ow tb h sz id y xs) {m:Int} {x:IntKind} {K:AV→Prop} (j:Nat) (hm:m=j) (hj:j<xs.length) (hz:(U e).sz=sz) (h0:sz≠0) (hk:K (.ptr id (j*sz))):oF U y (.v (.int x m)) K (.slice e):=by
 subst hm;obtain ⟨cap,rest,rfl,h1,h2,h3,h4⟩:=hw;refine (ym ..).mpr ⟨by omega,hz.symm,by omega,by omega, ?_⟩
 rw [Nat.zero_add,Int.toNat_natCast];exact hk
def OwE (tb:TypeId) (h0 h:Heap) (sz:Nat) (y:AV) (xs:List AV):Prop:=(xs= []∧y= .sl [] .full)∨∃id,h0 id=Option.none∧Ow tb h sz id y xs
variable {h0 : Heap}
theorem OwE.rd (hw:OwE tb h0 h sz y xs):Rd h sz y xs:=by
 rcases hw with ⟨rfl,rfl⟩|⟨id,_,hw⟩
 ·exact .sl (fun z hz=>by cases hz) _
 ·exact hw.rd
theorem OwE.sub (hw:OwE tb h0 h sz y xs) (hs:Sub h h'):OwE tb h0 h' sz y xs:=by
 rcases hw with hw|⟨id,h1,hw⟩
 ·exact .inl hw
 ·exact .inr ⟨id,h1,hw.sub hs⟩
theorem OwE.ow (hw:OwE tb h0 h sz y xs) (hn:xs≠ []):∃id,h0 id=Option.none∧Ow tb h sz id y xs:=by
 rcases hw with hw|hw
 ·exact (hn hw.1).elim
 ·exact hw
theorem OwE.app {v:AV} {zs:List AV} {Q:AV→Heap→Prop} (hw:OwE tb h0 h sz y xs) (hs0:Sub h0 h) (hb:Rd h sz v zs) (hz:(U tb).sz=sz) (h1:sz≠0) (hby:(U tb).bytes≠0) (hf:Ab.fit (U tb).zero sz) (hne:zs≠ []) (hlen:(xs.length+zs.length)*(U tb).bytes≤140737488355328)
  (hk:∀id y' h',h0 id=Option.none→(h id=Option.none∨∃l c,y= .ob id 0 l c sz)→Ow tb h' sz id y' (xs++zs)→(∀j,j≠id→h' j=h j)→Q y' h'):apK U h y v Q (.slice tb):=by
 subst hz;rcases hw with ⟨rfl,rfl⟩|⟨id,h2,cap,rest,rfl,h3,h4,h5,h6⟩
 ·refine (vf ..).mpr ⟨h1,hby,hb.src rfl ⟨by simp [Sized],hb.1,by simpa using hlen,fun hn=>(hne hn).elim,fun _=> ?_⟩⟩
  refine .ob hf (jy.ow (by simpa using hb.1) (by simp [aq]) (by simp) fun id y' h' hid hw ho=> ?_)
  exact hk id _ _ (hs0.none hid) (.inl hid) (by simpa using hw) ho
 ·have hl:=aW h6
  refine ⟨h1,hby,rfl,hb.src rfl ⟨hb.1,hlen, ?_⟩⟩;rw [h3];have hsz:Sized (U tb).sz (xs++zs):=fun z hz=>(List.mem_append.1 hz).elim (h6 z) (hb.1 z)
  refine ⟨by rw [V4,hl]; omega,hf,fun hle=> ?_,fun hgt=> ?_⟩
  ·have hlz:=aW hb.1
   have hmul:(cap - xs.length)*(U tb).sz=zs.length*(U tb).sz+(cap - (xs.length+zs.length))*(U tb).sz:=by rw [←Nat.add_mul]; congr 1; omega
   refine hk id _ _ h2 (.inr ⟨_,_,rfl⟩) ⟨cap,rest.drop (zs.length*(U tb).sz),by rw [V4], ?_, ?_,by rw [V4]; omega,hsz⟩ fun j hj=>ag _ _ hj
   ·rw [ah,kO,Nat.zero_add,←hl,Ab.over,List.take_left,List.drop_append,List.drop_of_length_le (by omega),hlz]
    simp
   ·rw [List.length_drop,h4,V4]; omega
  ·refine jy.ow hsz ?_ (by rw [V4]) fun id' y' h' hid hw ho=> ?_
   ·rw [kO,List.drop_zero,←hl,List.take_left]
   ·exact hk id' _ _ (hs0.none hid) (.inl hid) hw ho
theorem ua {f : FuncId} {fn : Func} {tS tR : TypeId} (hU : ∀ t, aN P U t) (hfn : P.funcs[f]? = some fn) (hname : (fn.name == "runtime.NumGoroutine") = false) (hb : fn.body.isNone = true) (hn : Extern.findNext fn = Option.none)
  (he:Extern.find fn=some (Extern.SlicesOverlaps.overlaps #[tS,tS] #[tR])) (hty:(U tS).k= .slice e) (hz:(U e).sz≠0) {q:Perm} (hx:Sized (U e).sz xs) (hne:xs≠ []) {id off len cap sz:Nat} {cs:List AV} {t:TypeId} (hid:h id=some (.obj cs t)) (hcs:cs≠ []):
  ak P f [.sl xs q, .ob id off len cap sz] h fun r h' =>r= .v (.bool false)∧h' =h:=by
 intro c vs hs g h1 h2;obtain ⟨a,cap0,sz0,val,hu,sl⟩:=(h2 0 (by simp)).ia
 obtain ⟨o,hv,_⟩:=(h2 1 (by simp)).iK
 have hd:=(hU tS).desc;rw [hty] at hd;have hpos:0<xs.length:=List.length_pos_iff.2 hne;have hcap:=sl.hc;obtain ⟨qa,rfl⟩:∃qa,a=some qa:=by
  cases a with
  |none=>have:=sl.h0 rfl; omega
  |some qa=>exact ⟨qa,rfl⟩
 have hs0:sz0=(U e).sz:=by rw [←sl.hz 0 hpos]; exact hx _ (V5 hpos)
 have hf:=sl.hf qa rfl 0 0 hpos (by omega)
 have hq:=(sl.hs qa rfl (by omega)).1
 have hcid:=hs _ _ hid;obtain ⟨us,u1,u2,u3⟩:=g.obj id cs t hcid;have hnb:qa.block≠(c.φ id).block:=fun hh=>hf.2 ⟨id,_,hcid,hh.symm,Nat.zero_le _⟩
 obtain ⟨ws,tw,fr,hws,hwlt⟩:∃ws tw fr,c.w.heap[qa.block]? =some (.cells ws tw fr)∧0<ws.size:=by
  have:=hf.1;simp only [World.cell?] at this;split at this
  ·rename_i ws tw fr hh
   refine ⟨ws,tw,fr,hh, ?_⟩;have hlt:=cg this;omega
  all_goals cases this
 have hvs:vs= #[.slice (some qa) xs.length cap0, .slice (some ⟨(c.φ id).block,o,Option.none⟩) len cap]:=by
  apply Array.ext
  ·simpa using h1
  ·intro i hi hi2
   have hi3:i<2:=by simpa using hi2
   rcases i with _|_|i
   ·simpa [Array.getD,hi] using hu
   ·simpa [Array.getD,hi] using hv
   ·omega
 subst hvs;refine .inr ⟨.bool false,c.w, ?_,c,_,h,rfl,g, .refl c, .v _,hs,rfl,rfl⟩;rw [Go.run_callFunc_extern hfn hname hb hn he];have key:(Extern.SlicesOverlaps.overlaps #[tS,tS] #[tR] #[.slice (some qa) xs.length cap0, .slice (some ⟨(c.φ id).block,o,Option.none⟩) len cap]).run P c.w= .ok (.bool false) c.w:=by
  have hnb1:(qa.block !=(c.φ id).block)=true:=by simpa using hnb
  have hnb2:(qa.block==(c.φ id).block)=false:=by simpa using hnb
  have hws2:∃m,ws.size=m+1:=⟨ws.size - 1,by omega⟩
  obtain ⟨m,hm⟩:=hws2
  change Sem.run P (α:=Value) (do
   let some t := (#[tS, tS] : Array TypeId)[0]? | stuck "slices.overlaps: no parameter types"
   let .slice elem ← underlying t | stuck "slices.overlaps: slice type expected"
   let size←sizeOf elem
   match (some qa:Option Addr),(some ⟨(c.φ id).block,o,Option.none⟩:Option Addr) with
   |some a,some b=>
    if xs.length=0∨len=0∨size=0 then pure (Value.bool false)
    else if a.block !=b.block && (←frozen a) && (←frozen b) then unsupported .addressObserved
    else do
     if a.block !=b.block then do
      noView a; noView b
      if ← mayBeOne a b then return Value.bool ((← choose (.extern "sameAddr.stringBytes" 2)) == 1)
     pure (Value.bool (a.block==b.block && a.off<b.off+len*size && b.off<a.off+xs.length*size))
   |_,_=>pure (Value.bool false)) c.w=_
  have hfb:∀x,c.w.frozen? ⟨(c.φ id).block,x,Option.none⟩=false:=fun x=>by simp [World.frozen?,u1]
  have hsb:c.w.shape? (c.φ id).block=some (t,us.size):=by simp [World.shape?,u1]
  have hsa:c.w.shape? qa.block=some (tw,m+1):=by simp [World.shape?,hws,hm]
  by_cases hl:len=0
  ·simp [run_underlying hd,bC hU hz,hl]
  ·have hus:us.size≠0:=by rw [u2]; exact fun hh=>hcs (List.length_eq_zero_iff.1 hh)
   obtain ⟨n,hn'⟩:∃n,us.size=n+1:=⟨us.size - 1,by omega⟩
   rw [hn'] at hsb;cases hfa:c.w.frozen? qa<;>cases hfa2:c.w.frozen? {block:=qa.block,off:=m+1}<;>
    simp [run_underlying hd,bC hU hz,hl,hne,hz,hnb1,hnb2,frozen,noView,viewAt,mayBeOne,stringish,shape,Sem.run,hsa,hsb,hfb,hfa,hfa2]
 rw [key];rfl
end
end Go.Ab
namespace Go.Bf
open Go Go.Ab
structure OpD where
 kind:Int
 subj:Txt
 case:Txt
 field:Txt
 to:Txt
 val:bX
 review:Int
 text:Txt
 reason:Txt
 glass:Bool
structure sr where
 tick:Int
 actor:Txt
 what:Txt
structure cI where
 name:Txt
 val:bX
structure aJ where
 id:Txt
 owner:Txt
 state:Txt
 fields:List cI
 log:List sr
structure mN where
 id:Int
 tick:Int
 subj:Txt
 case:Txt
 action:Txt
 reason:Txt
 isOpen:Bool
structure ED where
 tick:Int
 case:Txt
 arg:Txt
structure fQ where
 subj:Txt
 role:Txt
structure an where
 tick:Int
 cases:List aJ
 reviews:List mN
 notices:List ED
 roles:List fQ
 policy:bG
 version:Int
structure bk where
 cat:Int
 name:Txt
 bag:List bX
def opC (o:OpD):List AV:= [.v (.int .i64 o.kind), .s o.subj, .s o.case, .s o.field, .s o.to, .v (.int .i64 o.val.kind), .v (.int .i64 o.val.n), .s o.val.s, .v (.int .i64 o.review), .s o.text, .s o.reason, .v (.bool o.glass)]
def opA (o:OpD):AV:= .agg (opC o)
def fF (x:sr):AV:= .agg [.v (.int .i64 x.tick), .s x.actor, .s x.what]
def bw (f:cI):AV:= .agg [.s f.name, .v (.int .i64 f.val.kind), .v (.int .i64 f.val.n), .s f.val.s]
def fG (l:List cI):AV:= .sl (l.map bw) .no
def pX (l:List sr):AV:= .sl (l.map fF) .no
def kZ (c:aJ):List AV:= [.s c.id, .s c.owner, .s c.state,fG c.fields,pX c.log]
def bJ (c:aJ):AV:= .agg (kZ c)
def iY (l:List aJ):AV:= .sl (l.map bJ) .no
def fL (r:mN):AV:= .agg [.v (.int .i64 r.id), .v (.int .i64 r.tick), .s r.subj, .s r.case, .s r.action, .s r.reason, .v (.bool r.isOpen)]
def qi (l:List mN):AV:= .sl (l.map fL) .no
def ku (n:ED):AV:= .agg [.v (.int .i64 n.tick), .s n.case, .s n.arg]
def rF (l:List ED):AV:= .sl (l.map ku) .no
def cD (r:fQ):AV:= .agg [.s r.subj, .s r.role]
def dF (l:List fQ):AV:= .sl (l.map cD) .no
def fB:bG→List AV
 | .mk id set alg tgt rules kids obls=> [.s id, .v (.bool set), .v (.int .i64 alg),aT tgt, .sl (rules.map aB) .no, .sl (fh kids) .no,au obls]
theorem Kh (p:bG):aK p= .agg (fB p):=by cases p; simp [aK,fB]
def cU (s:an):AV:= .agg ([.v (.int .i64 s.tick),iY s.cases,qi s.reviews,rF s.notices,dF s.roles]++fB s.policy++ [.v (.int .i64 s.version)])
def jD (g:bk):AV:= .agg [.v (.int .i64 g.cat), .s g.name, .sl (g.bag.map aU) .no]
def bB (l:List bk):AV:= .sl (l.map jD) .no
def geB (a b:Txt):Bool:= !(Op.bytesLess a b)
def findD (cs:List aJ) (id:Txt):Nat:=cs.findIdx fun c=>geB c.id id
def bM (cs:List aJ) (id:Txt):Bool:=match cs[findD cs id]? with
 |some c=>c.id==id
 |none=>false
def ay:bX:=⟨0,0,[]⟩
def lG:aJ:=⟨[],[],[],[],[]⟩
def bp (cs:List aJ) (id:Txt):aJ:=if bM cs id then cs.getD (findD cs id) lG else lG
def dZ (fs:List cI) (name:Txt):bX:=match fs.find? fun f=>f.name==name with
 |some f=>f.val
 |none=>ay
def oo (a b:fQ):Bool:=a.subj==b.subj && a.role==b.role
def uB (l:List fQ) (r:fQ):Bool:=l.any (oo r)
def gI:Txt:= [111,112,101,110]
def uv:Txt:= [119,111,114,107]
def yb:Txt:= [100,111,110,101]
def gw:Txt:= [99,108,111,115,101,100]
def jY (a b:Txt):Bool:=
 if a==gI then b==uv else if a==uv then b==yb else if a==yb then b==uv||b==gw else false
def Ot:List Txt:= [[110,101,119],[114,101,97,100],[119,114,105,116,101],[109,111,118,101],[99,108,111,115,101],[114,111,108,101],[112,111,108,105,99,121]]
def iW (k:Int):Txt:=if k<1∨k>7 then [116,105,99,107] else Ot.getD (k - 1).toNat []
def sR (k:Int):Bool:=decide (1≤k) && decide (k≤4)
def iZ (s:Txt):Bool:=s== []||bu s
def lY (o:OpD):Bool:=if o.glass then sR o.kind && (!(o.reason== [])) && decide (o.reason.length≤64) else o.reason== []
def gZ (o:OpD):OpD:=
 let z:OpD:=⟨o.kind,[],[],[],[],ay,0,[],[],false⟩
 if o.kind=1 then {z with case:=o.case}
 else if o.kind=2∨o.kind=6 then {z with case:=o.case,field:=o.field}
 else if o.kind=3 then {z with case:=o.case,field:=o.field,val:=o.val}
 else if o.kind=4 then {z with case:=o.case,to:=o.to}
 else if o.kind=5∨o.kind=8 then {z with review:=o.review}
 else {z with text:=o.text}
def eqV (a b:bX):Bool:=a.kind==b.kind && (a.n==b.n && a.s==b.s)
def lI (a b:OpD):Bool:=a.kind==b.kind && (a.subj==b.subj && (a.case==b.case && (a.field==b.field && (a.to==b.to && (a.val.kind==b.val.kind && (a.val.n==b.val.n && (a.val.s==b.val.s && (a.review==b.review && (a.text==b.text && (a.reason==b.reason && a.glass==b.glass))))))))))
def okD (o:OpD):Bool:=
 if o.kind=1 then !(o.case== [])
 else if o.kind=2∨o.kind=6 then !(o.case== []) && !(o.field== [])
 else if o.kind=3 then !(o.case== []) && !(o.field== []) && !(eqV o.val ay)
 else if o.kind=4 then !(o.case== []) && !(o.to== [])
 else if o.kind=5 then decide (0<o.review)
 else if o.kind=8 then decide (0<o.review) && decide (o.review≤1099511627776)
 else true
def gu (o:OpD):OpD:= {o with subj:= [],reason:= [],glass:=false}
def dG (o:OpD):Bool:=decide (1≤o.kind) && decide (o.kind≤8) && okD o && lI (gu o) (gZ o)
def fE (o:OpD):Bool:=bu o.subj && lY o && decide (o.text.length≤4096) && iZ o.case && iZ o.field && iZ o.to && (eqV o.val ay||cc o.val) && dG o
def bW (s:an) (o:OpD):Int:=
 let c:=bp s.cases o.case
 if bM s.cases o.case=false then 10
 else if o.kind=3∧c.fields.length≥16∧eqV (dZ c.fields o.field) ay=true then 6
 else if o.kind≠2∧c.log.length≥256 then 6
 else if o.kind=3∧c.state=gw∨o.kind=4∧jY c.state o.to=false then 13
 else 0
def ue (l:List mN) (n:Int):Option mN:=if 1≤n then l[(n - 1).toNat]? else none
def fz (s:an) (o:OpD):Int:=match ue s.reviews o.review with
 |none=>10
 |some r=>if r.isOpen=false then 10 else if r.subj=o.subj then 12 else 0
def bI (s:an) (o:OpD):Int:=
 if fE o=false then 1
 else if o.kind=1 then (if bM s.cases o.case then 11 else if s.cases.length≥64 then 6 else 0)
 else if 2≤o.kind∧o.kind≤4 then bW s o
 else if o.kind=5 then fz s o
 else if o.kind=6 then (if s.roles.length≥64∧uB s.roles ⟨o.case,o.field⟩=false then 6 else 0)
 else if o.kind=8 then (if s.tick>1099511627776 - o.review then 6 else 0)
 else 0
def idV (s:Txt):bX:=⟨5,0,s⟩
def sd (l:List sr) (subj:Txt):bX:=⟨1,if l.any (fun x=>x.actor==subj) then 1 else 0,[]⟩
def idT:Txt:= [105,100]
def cB (c:aJ) (subj:Txt):List bk:=
 [⟨3,idT,[idV c.id]⟩,⟨3,[111,119,110,101,114],[idV c.owner]⟩,⟨3,[115,116,97,116,101],[idV c.state]⟩,⟨3,[101,118,101,110,116,115],[⟨2,c.log.length,[]⟩]⟩,⟨3,[116,111,111,107],[sd c.log subj]⟩]++
 (match c.log.getLast? with
  |some x=> [⟨3,[108,97,115,116],[idV x.actor]⟩]
  |none=> [])++
 (c.fields.filter fun f=>decide (f.name.length≤14)).map fun f=>⟨3,[102,95]++f.name,[f.val]⟩
def cS (l:List fQ) (subj:Txt):List bX:=((l.filter fun r=>r.subj==subj).map fun r=>idV r.role).take 16
def eE (s:an) (o:OpD):List bk:=
 [⟨1,idT,[idV o.subj]⟩,⟨1,[114,111,108,101],cS s.roles o.subj⟩,⟨2,[110,97,109,101],[idV (iW o.kind)]⟩]++
 (if o.field= [] then [] else [⟨2,[102,105,101,108,100],[idV o.field]⟩])++
 (if o.to= [] then [] else [⟨2,[116,111],[idV o.to]⟩])++
 [⟨4,[110,111,119],[⟨4,s.tick,[]⟩]⟩]++
 (if bM s.cases o.case=true∧o.kind≠6 then cB (bp s.cases o.case) o.subj else [])
def eL (fs:List cI) (name:Txt) (v:bX):List cI:=
 let i:=fs.findIdx fun f=>geB f.name name
 match fs[i]? with
 |none=>fs++ [⟨name,v⟩]
 |some f=>if f.name=name then fs.set i ⟨f.name,v⟩ else fs.take i++ [⟨name,v⟩]++fs.drop i
def iH (s:an) (c:aJ) (actor what:Txt):aJ:= {c with log:=c.log++ [⟨s.tick,actor,what⟩]}
def doD (par:Txt→bG×Int×Int) (s:an) (o:OpD):an:=
 let i:=findD s.cases o.case
 if o.kind=1 then {s with cases:=s.cases.take i++ [iH s ⟨o.case,o.subj,gI,[],[]⟩ o.subj [110,101,119]]++s.cases.drop i}
 else if o.kind=3 then {s with cases:=s.cases.modify i fun c=>iH s {c with fields:=eL c.fields o.field o.val} o.subj [119,114,105,116,101]}
 else if o.kind=4 then {s with cases:=s.cases.modify i fun c=>iH s {c with state:=o.to} o.subj o.to}
 else if o.kind=5 then {s with reviews:=s.reviews.modify (o.review - 1).toNat fun r=> {r with isOpen:=false}}
 else if o.kind=6 then (if uB s.roles ⟨o.case,o.field⟩ then s else {s with roles:=s.roles++ [⟨o.case,o.field⟩]})
 else if o.kind=7 then (if (par o.text).2.1=0 then {s with policy:=(par o.text).1,version:=s.version+1} else s)
 else if o.kind=8 then {s with tick:=s.tick+o.review}
 else s
def dK (par:Txt→bG×Int×Int) (s:an) (o:OpD):an:=if bI s o=0 then doD par s o else s
def i64 (n:Int):Prop:= -9223372036854775808≤n∧n≤9223372036854775807
end Go.Bf
namespace Go.Proofs.YtnlbeamjpefpfaaGreatDoor
open Go Go.Ab
abbrev V8:TI:=⟨.other,1,8, .v .nilFunc,none⟩
def I2:List TI:= [
 ⟨.other,0,0,default,none⟩,
 V8,
 ⟨.int .i64,1,8, .v (.int .i64 0),some (0,[.int .i64])⟩,
 ⟨.int .i64,1,8, .v (.int .i64 0),some (0,[.int .i64])⟩,
 ⟨.bool,1,1, .v (.bool false),some (0,[.bool])⟩,
 ⟨.int .u8,1,1, .v (.int .u8 0),some (0,[.int .u8])⟩,
 ⟨.int .u8,1,1, .v (.int .u8 0),some (0,[.int .u8])⟩,
 ⟨.strct [(0,2),(1,3),(2,4),(3,6)],4,24, .agg [.v (.int .i64 0), .v (.int .i64 0), .v (.bool false), .v (.int .u8 0)],none⟩,
 ⟨.strct [(0,2),(1,3),(2,4),(3,6)],4,24, .agg [.v (.int .i64 0), .v (.int .i64 0), .v (.bool false), .v (.int .u8 0)],none⟩,
 ⟨.str,1,16, .s [],some (0,[.str])⟩,
 ⟨.str,1,16, .s [],some (0,[.str])⟩,
 ⟨.str,1,16, .s [],some (0,[.str])⟩,
 ⟨.int .u64,1,8, .v (.int .u64 0),some (0,[.int .u64])⟩,
 ⟨.strct [(0,9),(1,12)],2,24, .agg [.s [], .v (.int .u64 0)],none⟩,
 ⟨.strct [(0,9),(1,12)],2,24, .agg [.s [], .v (.int .u64 0)],none⟩,
 ⟨.ptr 338,1,8, .v (.pointer none),none⟩,
 ⟨.ptr 341,1,8, .v (.pointer none),none⟩,
 ⟨.ptr 349,1,8, .v (.pointer none),none⟩,
 ⟨.strct [(0,17)],1,8, .agg [.v (.pointer none)],none⟩,
 ⟨.strct [(0,17)],1,8, .agg [.v (.pointer none)],none⟩,
 ⟨.iface,1,16, .v .nilIface,none⟩,
 ⟨.int .i32,1,4, .v (.int .i32 0),some (0,[.int .i32])⟩,
 ⟨.slice 26,1,24, .sl [] .full,none⟩,
 ⟨.strct [(0,3),(1,3),(2,9)],3,32, .agg [.v (.int .i64 0), .v (.int .i64 0), .s []],some (1,[.int .i64, .int .i64, .str])⟩,
 ⟨.strct [(0,3),(1,3),(2,9)],3,32, .agg [.v (.int .i64 0), .v (.int .i64 0), .s []],some (1,[.int .i64, .int .i64, .str])⟩,
 ⟨.strct [(0,3),(1,9),(2,9),(3,9),(4,9),(5,24),(8,3),(9,9),(10,9),(11,4)],12,152, .agg [.v (.int .i64 0), .s [], .s [], .s [], .s [], .v (.int .i64 0), .v (.int .i64 0), .s [], .v (.int .i64 0), .s [], .s [], .v (.bool false)],some (2,[.int .i64, .str, .str, .str, .str, .int .i64, .int .i64, .str, .int .i64, .str, .str, .bool])⟩,
 ⟨.strct [(0,3),(1,9),(2,9),(3,9),(4,9),(5,24),(8,3),(9,9),(10,9),(11,4)],12,152, .agg [.v (.int .i64 0), .s [], .s [], .s [], .s [], .v (.int .i64 0), .v (.int .i64 0), .s [], .v (.int .i64 0), .s [], .s [], .v (.bool false)],some (2,[.int .i64, .str, .str, .str, .str, .int .i64, .int .i64, .str, .int .i64, .str, .str, .bool])⟩,
 ⟨.slice 78,1,24, .sl [] .full,none⟩,
 ⟨.slice 71,1,24, .sl [] .full,none⟩,
 ⟨.slice 84,1,24, .sl [] .full,none⟩,
 ⟨.slice 54,1,24, .sl [] .full,none⟩,
 ⟨.slice 190,1,24, .sl [] .full,none⟩,
 ⟨.slice 190,1,24, .sl [] .full,none⟩,
 ⟨.slice 164,1,24, .sl [] .full,none⟩,
 ⟨.slice 37,1,24, .sl [] .full,none⟩,
 ⟨.slice 64,1,24, .sl [] .full,none⟩,
 ⟨.strct [(0,9),(1,4),(2,3),(3,32),(4,33),(5,34),(6,35)],7,128, .agg [.s [], .v (.bool false), .v (.int .i64 0), .sl [] .full, .sl [] .full, .sl [] .full, .sl [] .full],none⟩,
 ⟨.strct [(0,9),(1,4),(2,3),(3,32),(4,33),(5,34),(6,35)],7,128, .agg [.s [], .v (.bool false), .v (.int .i64 0), .sl [] .full, .sl [] .full, .sl [] .full, .sl [] .full],none⟩,
 ⟨.strct [(0,3),(1,27),(2,28),(3,29),(4,30),(5,37),(12,3)],13,240, .agg [.v (.int .i64 0), .sl [] .full, .sl [] .full, .sl [] .full, .sl [] .full, .s [], .v (.bool false), .v (.int .i64 0), .sl [] .full, .sl [] .full, .sl [] .full, .sl [] .full, .v (.int .i64 0)],none⟩,
 ⟨.strct [(0,3),(1,27),(2,28),(3,29),(4,30),(5,37),(12,3)],13,240, .agg [.v (.int .i64 0), .sl [] .full, .sl [] .full, .sl [] .full, .sl [] .full, .s [], .v (.bool false), .v (.int .i64 0), .sl [] .full, .sl [] .full, .sl [] .full, .sl [] .full, .v (.int .i64 0)],none⟩,
 V8,
 V8,
 ⟨.int .i64,1,8, .v (.int .i64 0),some (0,[.int .i64])⟩,
 ⟨.cplx .f64,1,16, .v (.complex .f64 0 0),some (0,[.cplx .f64])⟩,
 ⟨.cplx .f64,1,16, .v (.complex .f64 0 0),some (0,[.cplx .f64])⟩,
 ⟨.strct [(0,42),(1,44),(2,4),(3,24),(6,4),(7,3)],8,80, .agg [.v (.int .i64 0), .v (.complex .f64 0 0), .v (.bool false), .v (.int .i64 0), .v (.int .i64 0), .s [], .v (.bool false), .v (.int .i64 0)],some (2,[.int .i64, .cplx .f64, .bool, .int .i64, .int .i64, .str, .bool, .int .i64])⟩,
 ⟨.strct [(0,42),(1,44),(2,4),(3,24),(6,4),(7,3)],8,80, .agg [.v (.int .i64 0), .v (.complex .f64 0 0), .v (.bool false), .v (.int .i64 0), .v (.int .i64 0), .s [], .v (.bool false), .v (.int .i64 0)],some (2,[.int .i64, .cplx .f64, .bool, .int .i64, .int .i64, .str, .bool, .int .i64])⟩,
 ⟨.strct [(0,26),(12,3),(13,44),(14,4),(15,35)],16,208, .agg [.v (.int .i64 0), .s [], .s [], .s [], .s [], .v (.int .i64 0), .v (.int .i64 0), .s [], .v (.int .i64 0), .s [], .s [], .v (.bool false), .v (.int .i64 0), .v (.complex .f64 0 0), .v (.bool false), .sl [] .full],none⟩,
 ⟨.strct [(0,26),(12,3),(13,44),(14,4),(15,35)],16,208, .agg [.v (.int .i64 0), .s [], .s [], .s [], .s [], .v (.int .i64 0), .v (.int .i64 0), .s [], .v (.int .i64 0), .s [], .s [], .v (.bool false), .v (.int .i64 0), .v (.complex .f64 0 0), .v (.bool false), .sl [] .full],none⟩,
 ⟨.other,0,0,default,none⟩,
 V8,
 V8,
 V8,
 ⟨.strct [(0,9),(1,9)],2,32, .agg [.s [], .s []],some (1,[.str, .str])⟩,
 ⟨.strct [(0,9),(1,9)],2,32, .agg [.s [], .s []],some (1,[.str, .str])⟩,
 V8,
 ⟨.strct [(0,44),(1,35)],2,40, .agg [.v (.complex .f64 0 0), .sl [] .full],none⟩,
 ⟨.strct [(0,44),(1,35)],2,40, .agg [.v (.complex .f64 0 0), .sl [] .full],none⟩,
 ⟨.other,0,0,default,none⟩,
 V8,
 ⟨.slice 118,1,24, .sl [] .full,none⟩,
 V8,
 V8,
 ⟨.strct [(0,3),(1,3),(2,9)],3,32, .agg [.v (.int .i64 0), .v (.int .i64 0), .s []],some (1,[.int .i64, .int .i64, .str])⟩,
 ⟨.strct [(0,3),(1,3),(2,9)],3,32, .agg [.v (.int .i64 0), .v (.int .i64 0), .s []],some (1,[.int .i64, .int .i64, .str])⟩,
 V8,
 V8,
 V8,
 V8,
 V8,
 ⟨.strct [(0,3),(1,3),(2,9),(3,9),(4,9),(5,9),(6,4)],7,88, .agg [.v (.int .i64 0), .v (.int .i64 0), .s [], .s [], .s [], .s [], .v (.bool false)],some (1,[.int .i64, .int .i64, .str, .str, .str, .str, .bool])⟩,
 ⟨.strct [(0,3),(1,3),(2,9),(3,9),(4,9),(5,9),(6,4)],7,88, .agg [.v (.int .i64 0), .v (.int .i64 0), .s [], .s [], .s [], .s [], .v (.bool false)],some (1,[.int .i64, .int .i64, .str, .str, .str, .str, .bool])⟩,
 V8,
 V8,
 V8,
 ⟨.slice 111,1,24, .sl [] .full,none⟩,
 ⟨.slice 82,1,24, .sl [] .full,none⟩,
 ⟨.strct [(0,9),(1,9),(2,9),(3,75),(4,76)],5,96, .agg [.s [], .s [], .s [], .sl [] .full, .sl [] .full],none⟩,
 ⟨.strct [(0,9),(1,9),(2,9),(3,75),(4,76)],5,96, .agg [.s [], .s [], .s [], .sl [] .full, .sl [] .full],none⟩,
 ⟨.other,0,0,default,none⟩,
 V8,
 ⟨.strct [(0,3),(1,9),(2,9)],3,40, .agg [.v (.int .i64 0), .s [], .s []],some (1,[.int .i64, .str, .str])⟩,
 ⟨.strct [(0,3),(1,9),(2,9)],3,40, .agg [.v (.int .i64 0), .s [], .s []],some (1,[.int .i64, .str, .str])⟩,
 ⟨.strct [(0,3),(1,9),(2,9)],3,40, .agg [.v (.int .i64 0), .s [], .s []],some (1,[.int .i64, .str, .str])⟩,
 ⟨.strct [(0,3),(1,9),(2,9)],3,40, .agg [.v (.int .i64 0), .s [], .s []],some (1,[.int .i64, .str, .str])⟩,
 V8,
 V8,
 V8,
 V8,
 V8,
 V8,
 ⟨.slice 48,1,24, .sl [] .full,none⟩,
 V8,
 ⟨.slice 3,1,24, .sl [] .full,none⟩,
 V8,
 V8,
 V8,
 V8,
 ⟨.other,0,0,default,none⟩,
 V8,
 V8,
 V8,
 V8,
 ⟨.ptr 39,1,8, .v (.pointer none),none⟩,
 V8,
 V8,
 V8,
 V8,
 V8,
 V8,
 ⟨.strct [(0,9),(1,24)],4,48, .agg [.s [], .v (.int .i64 0), .v (.int .i64 0), .s []],some (2,[.str, .int .i64, .int .i64, .str])⟩,
 ⟨.strct [(0,9),(1,24)],4,48, .agg [.s [], .v (.int .i64 0), .v (.int .i64 0), .s []],some (2,[.str, .int .i64, .int .i64, .str])⟩,
 V8,
 V8,
 V8,
 ⟨.slice 24,1,24, .sl [] .full,none⟩,
 V8,
 ⟨.strct [(0,3),(1,9),(2,115)],3,48, .agg [.v (.int .i64 0), .s [], .sl [] .full],none⟩,
 ⟨.strct [(0,3),(1,9),(2,115)],3,48, .agg [.v (.int .i64 0), .s [], .sl [] .full],none⟩,
 V8,
 V8,
 V8,
 V8,
 V8,
 V8,
 ⟨.other,0,0,default,none⟩,
 V8,
 V8,
 V8,
 ⟨.slice 137,1,24, .sl [] .full,none⟩,
 ⟨.other,0,0,default,none⟩,
 V8,
 ⟨.ptr 134,1,8, .v (.pointer none),none⟩,
 ⟨.strct [(0,129),(1,3),(2,3),(3,42),(4,3)],5,56, .agg [.sl [] .full, .v (.int .i64 0), .v (.int .i64 0), .v (.int .i64 0), .v (.int .i64 0)],none⟩,
 ⟨.strct [(0,129),(1,3),(2,3),(3,42),(4,3)],5,56, .agg [.sl [] .full, .v (.int .i64 0), .v (.int .i64 0), .v (.int .i64 0), .v (.int .i64 0)],none⟩,
 V8,
 ⟨.strct [(0,3),(1,3),(2,3),(3,9)],4,40, .agg [.v (.int .i64 0), .v (.int .i64 0), .v (.int .i64 0), .s []],some (1,[.int .i64, .int .i64, .int .i64, .str])⟩,
 ⟨.strct [(0,3),(1,3),(2,3),(3,9)],4,40, .agg [.v (.int .i64 0), .v (.int .i64 0), .v (.int .i64 0), .s []],some (1,[.int .i64, .int .i64, .int .i64, .str])⟩,
 V8,
 V8,
 V8,
 V8,
 V8,
 V8,
 V8,
 V8,
 ⟨.ptr 78,1,8, .v (.pointer none),none⟩,
 V8,
 V8,
 V8,
 V8,
 V8,
 V8,
 V8,
 V8,
 ⟨.ptr 158,1,8, .v (.pointer none),none⟩,
 ⟨.map 9 256,1,8, .v (.map none),none⟩,
 ⟨.strct [(0,156),(1,3)],2,16, .agg [.v (.map none), .v (.int .i64 0)],none⟩,
 ⟨.strct [(0,156),(1,3)],2,16, .agg [.v (.map none), .v (.int .i64 0)],none⟩,
 V8,
 V8,
 ⟨.slice 57,1,24, .sl [] .full,none⟩,
 ⟨.slice 226,1,24, .sl [] .full,none⟩,
 ⟨.strct [(0,9),(1,4),(2,32),(3,162),(4,35)],5,96, .agg [.s [], .v (.bool false), .sl [] .full, .sl [] .full, .sl [] .full],none⟩,
 ⟨.strct [(0,9),(1,4),(2,32),(3,162),(4,35)],5,96, .agg [.s [], .v (.bool false), .sl [] .full, .sl [] .full, .sl [] .full],none⟩,
 V8,
 V8,
 ⟨.slice 9,1,24, .sl [] .full,none⟩,
 V8,
 V8,
 V8,
 V8,
 V8,
 V8,
 ⟨.other,0,0,default,none⟩,
 V8,
 V8,
 V8,
 V8,
 V8,
 V8,
 V8,
 V8,
 V8,
 V8,
 V8,
 V8,
 V8,
 V8,
 V8,
 ⟨.slice 191,1,24, .sl [] .full,none⟩,
 ⟨.slice 216,1,24, .sl [] .full,none⟩,
 V8,
 V8,
 V8,
 ⟨.slice 44,1,24, .sl [] .full,none⟩,
 ⟨.other,0,0,default,none⟩,
 V8,
 V8,
 V8,
 V8,
 V8,
 V8,
 V8,
 ⟨.other,0,0,default,none⟩,
 V8,
 ⟨.other,0,0,default,none⟩,
 V8,
 V8,
 V8,
 V8,
 V8,
 V8,
 ⟨.strct [(0,3),(1,9),(2,4)],3,32, .agg [.v (.int .i64 0), .s [], .v (.bool false)],some (1,[.int .i64, .str, .bool])⟩,
 ⟨.strct [(0,3),(1,9),(2,4)],3,32, .agg [.v (.int .i64 0), .s [], .v (.bool false)],some (1,[.int .i64, .str, .bool])⟩,
 ⟨.strct [(0,214),(3,3),(4,24)],7,72, .agg [.v (.int .i64 0), .s [], .v (.bool false), .v (.int .i64 0), .v (.int .i64 0), .v (.int .i64 0), .s []],some (2,[.int .i64, .str, .bool, .int .i64, .int .i64, .int .i64, .str])⟩,
 ⟨.strct [(0,214),(3,3),(4,24)],7,72, .agg [.v (.int .i64 0), .s [], .v (.bool false), .v (.int .i64 0), .v (.int .i64 0), .v (.int .i64 0), .s []],some (2,[.int .i64, .str, .bool, .int .i64, .int .i64, .int .i64, .str])⟩,
 ⟨.other,0,0,default,none⟩,
 V8,
 V8,
 V8,
 V8,
 V8,
 V8,
 V8,
 ⟨.strct [(0,3),(1,24),(4,214)],7,72, .agg [.v (.int .i64 0), .v (.int .i64 0), .v (.int .i64 0), .s [], .v (.int .i64 0), .s [], .v (.bool false)],some (2,[.int .i64, .int .i64, .int .i64, .str, .int .i64, .str, .bool])⟩,
 ⟨.strct [(0,3),(1,24),(4,214)],7,72, .agg [.v (.int .i64 0), .v (.int .i64 0), .v (.int .i64 0), .s [], .v (.int .i64 0), .s [], .v (.bool false)],some (2,[.int .i64, .int .i64, .int .i64, .str, .int .i64, .str, .bool])⟩,
 V8,
 V8,
 V8,
 V8,
 ⟨.other,0,0,default,none⟩,
 V8,
 ⟨.strct [(0,115),(1,24),(4,42)],5,64, .agg [.sl [] .full, .v (.int .i64 0), .v (.int .i64 0), .s [], .v (.int .i64 0)],none⟩,
 ⟨.strct [(0,115),(1,24),(4,42)],5,64, .agg [.sl [] .full, .v (.int .i64 0), .v (.int .i64 0), .s [], .v (.int .i64 0)],none⟩,
 V8,
 V8,
 V8,
 V8,
 V8,
 V8,
 ⟨.iface,1,16, .v .nilIface,none⟩,
 ⟨.iface,1,16, .v .nilIface,none⟩,
 ⟨.other,0,0,default,none⟩,
 V8,
 ⟨.slice 5,1,24, .sl [] .full,none⟩,
 ⟨.other,0,0,default,none⟩,
 V8,
 V8,
 V8,
 ⟨.other,0,0,default,none⟩,
 V8,
 ⟨.other,0,0,default,none⟩,
 V8,
 V8,
 V8,
 ⟨.strct [],0,0,default,none⟩,
 ⟨.other,0,0,default,none⟩,
 V8,
 ⟨.slice 4,1,24, .sl [] .full,none⟩,
 ⟨.other,0,0,default,none⟩,
 V8,
 ⟨.slice 234,1,24, .sl [] .full,none⟩,
 V8,
 V8,
 V8,
 ⟨.other,0,0,default,none⟩,
 ⟨.other,0,0,default,none⟩,
 V8,
 V8,
 V8,
 V8,
 V8,
 V8,
 V8,
 V8,
 ⟨.other,0,0,default,none⟩,
 V8,
 V8,
 V8,
 V8,
 V8,
 V8,
 V8,
 V8,
 V8,
 V8,
 V8,
 V8,
 V8,
 ⟨.int .i64,1,8, .v (.int .i64 0),some (0,[.int .i64])⟩,
 ⟨.other,0,0,default,none⟩,
 V8,
 ⟨.ptr 313,1,8, .v (.pointer none),none⟩,
 V8,
 V8,
 V8,
 V8,
 ⟨.other,0,0,default,none⟩,
 V8,
 V8,
 V8,
 V8,
 V8,
 V8,
 V8,
 V8,
 V8,
 ⟨.int .u64,1,8, .v (.int .u64 0),some (0,[.int .u64])⟩,
 ⟨.other,0,0,default,none⟩,
 V8,
 ⟨.int .u64,1,8, .v (.int .u64 0),some (0,[.int .u64])⟩,
 ⟨.strct [(0,9),(1,9),(2,242)],3,48, .agg [.s [], .s [], .v .nilIface],none⟩,
 ⟨.strct [(0,9),(1,9),(2,242)],3,48, .agg [.s [], .s [], .v .nilIface],none⟩,
 V8,
 V8,
 V8,
 ⟨.other,0,0,default,none⟩,
 V8,
 ⟨.ptr 5,1,8, .v (.pointer none),none⟩,
 ⟨.ptr 322,1,8, .v (.pointer none),none⟩,
 ⟨.strct [(0,9)],1,16, .agg [.s []],some (1,[.str])⟩,
 ⟨.strct [(0,9)],1,16, .agg [.s []],some (1,[.str])⟩,
 V8,
 ⟨.arr 24 5,24,24, .agg [.v (.int .u8 0), .v (.int .u8 0), .v (.int .u8 0), .v (.int .u8 0), .v (.int .u8 0), .v (.int .u8 0), .v (.int .u8 0), .v (.int .u8 0), .v (.int .u8 0), .v (.int .u8 0), .v (.int .u8 0), .v (.int .u8 0), .v (.int .u8 0), .v (.int .u8 0), .v (.int .u8 0), .v (.int .u8 0), .v (.int .u8 0), .v (.int .u8 0), .v (.int .u8 0), .v (.int .u8 0), .v (.int .u8 0), .v (.int .u8 0), .v (.int .u8 0), .v (.int .u8 0)],some (1,[.int .u8, .int .u8, .int .u8, .int .u8, .int .u8, .int .u8, .int .u8, .int .u8, .int .u8, .int .u8, .int .u8, .int .u8, .int .u8, .int .u8, .int .u8, .int .u8, .int .u8, .int .u8, .int .u8, .int .u8, .int .u8, .int .u8, .int .u8, .int .u8])⟩,
 V8,
 V8,
 ⟨.other,0,0,default,none⟩,
 V8,
 V8,
 ⟨.arr 20 308,20,160, .agg [.v (.int .u64 0), .v (.int .u64 0), .v (.int .u64 0), .v (.int .u64 0), .v (.int .u64 0), .v (.int .u64 0), .v (.int .u64 0), .v (.int .u64 0), .v (.int .u64 0), .v (.int .u64 0), .v (.int .u64 0), .v (.int .u64 0), .v (.int .u64 0), .v (.int .u64 0), .v (.int .u64 0), .v (.int .u64 0), .v (.int .u64 0), .v (.int .u64 0), .v (.int .u64 0), .v (.int .u64 0)],some (1,[.int .u64, .int .u64, .int .u64, .int .u64, .int .u64, .int .u64, .int .u64, .int .u64, .int .u64, .int .u64, .int .u64, .int .u64, .int .u64, .int .u64, .int .u64, .int .u64, .int .u64, .int .u64, .int .u64, .int .u64])⟩,
 ⟨.int .u32,1,4, .v (.int .u32 0),some (0,[.int .u32])⟩,
 ⟨.arr 65 5,65,65, .agg [.v (.int .u8 0), .v (.int .u8 0), .v (.int .u8 0), .v (.int .u8 0), .v (.int .u8 0), .v (.int .u8 0), .v (.int .u8 0), .v (.int .u8 0), .v (.int .u8 0), .v (.int .u8 0), .v (.int .u8 0), .v (.int .u8 0), .v (.int .u8 0), .v (.int .u8 0), .v (.int .u8 0), .v (.int .u8 0), .v (.int .u8 0), .v (.int .u8 0), .v (.int .u8 0), .v (.int .u8 0), .v (.int .u8 0), .v (.int .u8 0), .v (.int .u8 0), .v (.int .u8 0), .v (.int .u8 0), .v (.int .u8 0), .v (.int .u8 0), .v (.int .u8 0), .v (.int .u8 0), .v (.int .u8 0), .v (.int .u8 0), .v (.int .u8 0), .v (.int .u8 0), .v (.int .u8 0), .v (.int .u8 0), .v (.int .u8 0), .v (.int .u8 0), .v (.int .u8 0), .v (.int .u8 0), .v (.int .u8 0), .v (.int .u8 0), .v (.int .u8 0), .v (.int .u8 0), .v (.int .u8 0), .v (.int .u8 0), .v (.int .u8 0), .v (.int .u8 0), .v (.int .u8 0), .v (.int .u8 0), .v (.int .u8 0), .v (.int .u8 0), .v (.int .u8 0), .v (.int .u8 0), .v (.int .u8 0), .v (.int .u8 0), .v (.int .u8 0), .v (.int .u8 0), .v (.int .u8 0), .v (.int .u8 0), .v (.int .u8 0), .v (.int .u8 0), .v (.int .u8 0), .v (.int .u8 0), .v (.int .u8 0), .v (.int .u8 0)],none⟩,
 V8,
 V8,
 ⟨.arr 32 5,32,32, .agg [.v (.int .u8 0), .v (.int .u8 0), .v (.int .u8 0), .v (.int .u8 0), .v (.int .u8 0), .v (.int .u8 0), .v (.int .u8 0), .v (.int .u8 0), .v (.int .u8 0), .v (.int .u8 0), .v (.int .u8 0), .v (.int .u8 0), .v (.int .u8 0), .v (.int .u8 0), .v (.int .u8 0), .v (.int .u8 0), .v (.int .u8 0), .v (.int .u8 0), .v (.int .u8 0), .v (.int .u8 0), .v (.int .u8 0), .v (.int .u8 0), .v (.int .u8 0), .v (.int .u8 0), .v (.int .u8 0), .v (.int .u8 0), .v (.int .u8 0), .v (.int .u8 0), .v (.int .u8 0), .v (.int .u8 0), .v (.int .u8 0), .v (.int .u8 0)],some (1,[.int .u8, .int .u8, .int .u8, .int .u8, .int .u8, .int .u8, .int .u8, .int .u8, .int .u8, .int .u8, .int .u8, .int .u8, .int .u8, .int .u8, .int .u8, .int .u8, .int .u8, .int .u8, .int .u8, .int .u8, .int .u8, .int .u8, .int .u8, .int .u8, .int .u8, .int .u8, .int .u8, .int .u8, .int .u8, .int .u8, .int .u8, .int .u8])⟩,
 ⟨.arr 64 5,64,64, .agg [.v (.int .u8 0), .v (.int .u8 0), .v (.int .u8 0), .v (.int .u8 0), .v (.int .u8 0), .v (.int .u8 0), .v (.int .u8 0), .v (.int .u8 0), .v (.int .u8 0), .v (.int .u8 0), .v (.int .u8 0), .v (.int .u8 0), .v (.int .u8 0), .v (.int .u8 0), .v (.int .u8 0), .v (.int .u8 0), .v (.int .u8 0), .v (.int .u8 0), .v (.int .u8 0), .v (.int .u8 0), .v (.int .u8 0), .v (.int .u8 0), .v (.int .u8 0), .v (.int .u8 0), .v (.int .u8 0), .v (.int .u8 0), .v (.int .u8 0), .v (.int .u8 0), .v (.int .u8 0), .v (.int .u8 0), .v (.int .u8 0), .v (.int .u8 0), .v (.int .u8 0), .v (.int .u8 0), .v (.int .u8 0), .v (.int .u8 0), .v (.int .u8 0), .v (.int .u8 0), .v (.int .u8 0), .v (.int .u8 0), .v (.int .u8 0), .v (.int .u8 0), .v (.int .u8 0), .v (.int .u8 0), .v (.int .u8 0), .v (.int .u8 0), .v (.int .u8 0), .v (.int .u8 0), .v (.int .u8 0), .v (.int .u8 0), .v (.int .u8 0), .v (.int .u8 0), .v (.int .u8 0), .v (.int .u8 0), .v (.int .u8 0), .v (.int .u8 0), .v (.int .u8 0), .v (.int .u8 0), .v (.int .u8 0), .v (.int .u8 0), .v (.int .u8 0), .v (.int .u8 0), .v (.int .u8 0), .v (.int .u8 0)],none⟩,
 ⟨.strct [(0,17),(1,17),(2,17),(3,9)],4,40, .agg [.v (.pointer none), .v (.pointer none), .v (.pointer none), .s []],none⟩,
 ⟨.strct [(0,17),(1,17),(2,17),(3,9)],4,40, .agg [.v (.pointer none), .v (.pointer none), .v (.pointer none), .s []],none⟩,
 ⟨.arr 0 16,0,0,default,none⟩,
 ⟨.other,0,0,default,none⟩,
 ⟨.other,0,0,default,none⟩,
 V8,
 ⟨.int .u8,1,1, .v (.int .u8 0),some (0,[.int .u8])⟩,
 ⟨.int .u8,1,1, .v (.int .u8 0),some (0,[.int .u8])⟩,
 V8,
 ⟨.int .i32,1,4, .v (.int .i32 0),some (0,[.int .i32])⟩,
 ⟨.int .i32,1,4, .v (.int .i32 0),some (0,[.int .i32])⟩,
 ⟨.strct [(0,12),(1,12),(2,331),(3,343),(4,5),(5,5),(6,344),(7,345),(8,319),(9,346),(10,347)],11,48, .agg [.v (.int .u64 0), .v (.int .u64 0), .v (.int .u32 0), .v (.int .u8 0), .v (.int .u8 0), .v (.int .u8 0), .v (.int .u8 0), .v .nilFunc, .v (.pointer none), .v (.int .i32 0), .v (.int .i32 0)],none⟩,
 ⟨.strct [(0,12),(1,12),(2,331),(3,343),(4,5),(5,5),(6,344),(7,345),(8,319),(9,346),(10,347)],11,48, .agg [.v (.int .u64 0), .v (.int .u64 0), .v (.int .u32 0), .v (.int .u8 0), .v (.int .u8 0), .v (.int .u8 0), .v (.int .u8 0), .v .nilFunc, .v (.pointer none), .v (.int .i32 0), .v (.int .i32 0)],none⟩,
 ⟨.other,1,8, .v (.pointer none),none⟩]
def U (t:TypeId):TI:=I2.getD t ⟨.other,0,0,default,none⟩
@[go_sem] theorem U3k:(U 3).k= .int .i64:=rfl
@[go_sem] theorem U3s:(U 3).sz=1:=rfl
@[go_sem] theorem U3b:(U 3).bytes=8:=rfl
@[go_sem] theorem U3z:(U 3).zero= .v (.int .i64 0):=rfl
@[go_sem] theorem U4k:(U 4).k= .bool:=rfl
@[go_sem] theorem U4s:(U 4).sz=1:=rfl
@[go_sem] theorem U4b:(U 4).bytes=1:=rfl
@[go_sem] theorem U4z:(U 4).zero= .v (.bool false):=rfl
@[go_sem] theorem U5k:(U 5).k= .int .u8:=rfl
@[go_sem] theorem U5s:(U 5).sz=1:=rfl
@[go_sem] theorem U5b:(U 5).bytes=1:=rfl
@[go_sem] theorem U5z:(U 5).zero= .v (.int .u8 0):=rfl
@[go_sem] theorem U9k:(U 9).k= .str:=rfl
@[go_sem] theorem U9s:(U 9).sz=1:=rfl
@[go_sem] theorem U9b:(U 9).bytes=16:=rfl
@[go_sem] theorem U9z:(U 9).zero= .s []:=rfl
@[go_sem] theorem T0:(U 22).k= .slice 26:=rfl
@[go_sem] theorem T3:(U 22).sz=1:=rfl
@[go_sem] theorem TZ:(U 22).bytes=24:=rfl
@[go_sem] theorem T4:(U 22).zero= .sl [] .full:=rfl
@[go_sem] theorem T7:(U 24).k= .strct [(0,3),(1,3),(2,9)]:=rfl
@[go_sem] theorem T8:(U 24).sz=3:=rfl
@[go_sem] theorem T5:(U 24).bytes=32:=rfl
@[go_sem] theorem T9:(U 24).zero= .agg [.v (.int .i64 0), .v (.int .i64 0), .s []]:=rfl
@[go_sem] theorem T6:(U 24).eq=some (1,[.int .i64, .int .i64, .str]):=rfl
@[go_sem] theorem Uc:(U 26).k= .strct [(0,3),(1,9),(2,9),(3,9),(4,9),(5,24),(8,3),(9,9),(10,9),(11,4)]:=rfl
@[go_sem] theorem Ud:(U 26).sz=12:=rfl
@[go_sem] theorem Ua:(U 26).bytes=152:=rfl
@[go_sem] theorem Ue:(U 26).zero= .agg [.v (.int .i64 0), .s [], .s [], .s [], .s [], .v (.int .i64 0), .v (.int .i64 0), .s [], .v (.int .i64 0), .s [], .s [], .v (.bool false)]:=rfl
@[go_sem] theorem Ub:(U 26).eq=some (2,[.int .i64, .str, .str, .str, .str, .int .i64, .int .i64, .str, .int .i64, .str, .str, .bool]):=rfl
@[go_sem] theorem Ug:(U 27).k= .slice 78:=rfl
@[go_sem] theorem Uh:(U 27).sz=1:=rfl
@[go_sem] theorem Uf:(U 27).bytes=24:=rfl
@[go_sem] theorem Ui:(U 27).zero= .sl [] .full:=rfl
@[go_sem] theorem Uk:(U 28).k= .slice 71:=rfl
@[go_sem] theorem Ul:(U 28).sz=1:=rfl
@[go_sem] theorem Uj:(U 28).bytes=24:=rfl
@[go_sem] theorem Um:(U 28).zero= .sl [] .full:=rfl
@[go_sem] theorem Uo:(U 29).k= .slice 84:=rfl
@[go_sem] theorem Up:(U 29).sz=1:=rfl
@[go_sem] theorem Un:(U 29).bytes=24:=rfl
@[go_sem] theorem Uq:(U 29).zero= .sl [] .full:=rfl
@[go_sem] theorem Us:(U 30).k= .slice 54:=rfl
@[go_sem] theorem Ut:(U 30).sz=1:=rfl
@[go_sem] theorem Ur:(U 30).bytes=24:=rfl
@[go_sem] theorem Uu:(U 30).zero= .sl [] .full:=rfl
@[go_sem] theorem Uw:(U 32).k= .slice 190:=rfl
@[go_sem] theorem Ux:(U 32).sz=1:=rfl
@[go_sem] theorem Uv:(U 32).bytes=24:=rfl
@[go_sem] theorem Uy:(U 32).zero= .sl [] .full:=rfl
@[go_sem] theorem UA:(U 33).k= .slice 164:=rfl
@[go_sem] theorem UB:(U 33).sz=1:=rfl
@[go_sem] theorem Uz:(U 33).bytes=24:=rfl
@[go_sem] theorem UC:(U 33).zero= .sl [] .full:=rfl
@[go_sem] theorem UE:(U 34).k= .slice 37:=rfl
@[go_sem] theorem UF:(U 34).sz=1:=rfl
@[go_sem] theorem UD:(U 34).bytes=24:=rfl
@[go_sem] theorem UG:(U 34).zero= .sl [] .full:=rfl
@[go_sem] theorem UI:(U 35).k= .slice 64:=rfl
@[go_sem] theorem UJ:(U 35).sz=1:=rfl
@[go_sem] theorem UH:(U 35).bytes=24:=rfl
@[go_sem] theorem UK:(U 35).zero= .sl [] .full:=rfl
@[go_sem] theorem UM:(U 37).k= .strct [(0,9),(1,4),(2,3),(3,32),(4,33),(5,34),(6,35)]:=rfl
@[go_sem] theorem UN:(U 37).sz=7:=rfl
@[go_sem] theorem UL:(U 37).bytes=128:=rfl
@[go_sem] theorem UO:(U 37).zero= .agg [.s [], .v (.bool false), .v (.int .i64 0), .sl [] .full, .sl [] .full, .sl [] .full, .sl [] .full]:=rfl
@[go_sem] theorem UQ:(U 39).k= .strct [(0,3),(1,27),(2,28),(3,29),(4,30),(5,37),(12,3)]:=rfl
@[go_sem] theorem UR:(U 39).sz=13:=rfl
@[go_sem] theorem UP:(U 39).bytes=240:=rfl
@[go_sem] theorem US:(U 39).zero= .agg [.v (.int .i64 0), .sl [] .full, .sl [] .full, .sl [] .full, .sl [] .full, .s [], .v (.bool false), .v (.int .i64 0), .sl [] .full, .sl [] .full, .sl [] .full, .sl [] .full, .v (.int .i64 0)]:=rfl
@[go_sem] theorem UU:(U 42).k= .int .i64:=rfl
@[go_sem] theorem UW:(U 42).sz=1:=rfl
@[go_sem] theorem UT:(U 42).bytes=8:=rfl
@[go_sem] theorem UX:(U 42).zero= .v (.int .i64 0):=rfl
@[go_sem] theorem UZ:(U 44).k= .cplx .f64:=rfl
@[go_sem] theorem U0:(U 44).sz=1:=rfl
@[go_sem] theorem UY:(U 44).bytes=16:=rfl
@[go_sem] theorem U1:(U 44).zero= .v (.complex .f64 0 0):=rfl
@[go_sem] theorem U4:(U 46).k= .strct [(0,42),(1,44),(2,4),(3,24),(6,4),(7,3)]:=rfl
@[go_sem] theorem U5:(U 46).sz=8:=rfl
@[go_sem] theorem U2:(U 46).bytes=80:=rfl
@[go_sem] theorem U6:(U 46).zero= .agg [.v (.int .i64 0), .v (.complex .f64 0 0), .v (.bool false), .v (.int .i64 0), .v (.int .i64 0), .s [], .v (.bool false), .v (.int .i64 0)]:=rfl
@[go_sem] theorem U3:(U 46).eq=some (2,[.int .i64, .cplx .f64, .bool, .int .i64, .int .i64, .str, .bool, .int .i64]):=rfl
@[go_sem] theorem U8:(U 48).k= .strct [(0,26),(12,3),(13,44),(14,4),(15,35)]:=rfl
@[go_sem] theorem U9:(U 48).sz=16:=rfl
@[go_sem] theorem U7:(U 48).bytes=208:=rfl
@[go_sem] theorem Va:(U 48).zero= .agg [.v (.int .i64 0), .s [], .s [], .s [], .s [], .v (.int .i64 0), .v (.int .i64 0), .s [], .v (.int .i64 0), .s [], .s [], .v (.bool false), .v (.int .i64 0), .v (.complex .f64 0 0), .v (.bool false), .sl [] .full]:=rfl
@[go_sem] theorem Vd:(U 54).k= .strct [(0,9),(1,9)]:=rfl
@[go_sem] theorem Ve:(U 54).sz=2:=rfl
@[go_sem] theorem Vb:(U 54).bytes=32:=rfl
@[go_sem] theorem Vf:(U 54).zero= .agg [.s [], .s []]:=rfl
@[go_sem] theorem Vc:(U 54).eq=some (1,[.str, .str]):=rfl
@[go_sem] theorem Vh:(U 57).k= .strct [(0,44),(1,35)]:=rfl
@[go_sem] theorem Vi:(U 57).sz=2:=rfl
@[go_sem] theorem Vg:(U 57).bytes=40:=rfl
@[go_sem] theorem Vj:(U 57).zero= .agg [.v (.complex .f64 0 0), .sl [] .full]:=rfl
@[go_sem] theorem Vl:(U 60).k= .slice 118:=rfl
@[go_sem] theorem Vm:(U 60).sz=1:=rfl
@[go_sem] theorem Vk:(U 60).bytes=24:=rfl
@[go_sem] theorem Vn:(U 60).zero= .sl [] .full:=rfl
@[go_sem] theorem Vq:(U 64).k= .strct [(0,3),(1,3),(2,9)]:=rfl
@[go_sem] theorem Vr:(U 64).sz=3:=rfl
@[go_sem] theorem Vo:(U 64).bytes=32:=rfl
@[go_sem] theorem Vs:(U 64).zero= .agg [.v (.int .i64 0), .v (.int .i64 0), .s []]:=rfl
@[go_sem] theorem Vp:(U 64).eq=some (1,[.int .i64, .int .i64, .str]):=rfl
@[go_sem] theorem Vv:(U 71).k= .strct [(0,3),(1,3),(2,9),(3,9),(4,9),(5,9),(6,4)]:=rfl
@[go_sem] theorem Vw:(U 71).sz=7:=rfl
@[go_sem] theorem Vt:(U 71).bytes=88:=rfl
@[go_sem] theorem Vx:(U 71).zero= .agg [.v (.int .i64 0), .v (.int .i64 0), .s [], .s [], .s [], .s [], .v (.bool false)]:=rfl
@[go_sem] theorem Vu:(U 71).eq=some (1,[.int .i64, .int .i64, .str, .str, .str, .str, .bool]):=rfl
@[go_sem] theorem Vz:(U 75).k= .slice 111:=rfl
@[go_sem] theorem VA:(U 75).sz=1:=rfl
@[go_sem] theorem Vy:(U 75).bytes=24:=rfl
@[go_sem] theorem VB:(U 75).zero= .sl [] .full:=rfl
@[go_sem] theorem VD:(U 76).k= .slice 82:=rfl
@[go_sem] theorem VE:(U 76).sz=1:=rfl
@[go_sem] theorem VC:(U 76).bytes=24:=rfl
@[go_sem] theorem VF:(U 76).zero= .sl [] .full:=rfl
@[go_sem] theorem VH:(U 78).k= .strct [(0,9),(1,9),(2,9),(3,75),(4,76)]:=rfl
@[go_sem] theorem VI:(U 78).sz=5:=rfl
@[go_sem] theorem VG:(U 78).bytes=96:=rfl
@[go_sem] theorem VJ:(U 78).zero= .agg [.s [], .s [], .s [], .sl [] .full, .sl [] .full]:=rfl
@[go_sem] theorem VM:(U 82).k= .strct [(0,3),(1,9),(2,9)]:=rfl
@[go_sem] theorem VN:(U 82).sz=3:=rfl
@[go_sem] theorem VK:(U 82).bytes=40:=rfl
@[go_sem] theorem VO:(U 82).zero= .agg [.v (.int .i64 0), .s [], .s []]:=rfl
@[go_sem] theorem VL:(U 82).eq=some (1,[.int .i64, .str, .str]):=rfl
@[go_sem] theorem VQ:(U 84).k= .strct [(0,3),(1,9),(2,9)]:=rfl
@[go_sem] theorem VR:(U 84).sz=3:=rfl
@[go_sem] theorem VP:(U 84).bytes=40:=rfl
@[go_sem] theorem VS:(U 84).zero= .agg [.v (.int .i64 0), .s [], .s []]:=rfl
@[go_sem] theorem VU:(U 93).k= .slice 3:=rfl
@[go_sem] theorem VV:(U 93).sz=1:=rfl
@[go_sem] theorem VT:(U 93).bytes=24:=rfl
@[go_sem] theorem VW:(U 93).zero= .sl [] .full:=rfl
@[go_sem] theorem RY:(U 111).k= .strct [(0,9),(1,24)]:=rfl
@[go_sem] theorem RZ:(U 111).sz=4:=rfl
@[go_sem] theorem RW:(U 111).bytes=48:=rfl
@[go_sem] theorem R0:(U 111).zero= .agg [.s [], .v (.int .i64 0), .v (.int .i64 0), .s []]:=rfl
@[go_sem] theorem RX:(U 111).eq=some (2,[.str, .int .i64, .int .i64, .str]):=rfl
@[go_sem] theorem R2:(U 115).k= .slice 24:=rfl
@[go_sem] theorem R3:(U 115).sz=1:=rfl
@[go_sem] theorem R1:(U 115).bytes=24:=rfl
@[go_sem] theorem R4:(U 115).zero= .sl [] .full:=rfl
@[go_sem] theorem R6:(U 118).k= .strct [(0,3),(1,9),(2,115)]:=rfl
@[go_sem] theorem R7:(U 118).sz=3:=rfl
@[go_sem] theorem R5:(U 118).bytes=48:=rfl
@[go_sem] theorem R8:(U 118).zero= .agg [.v (.int .i64 0), .s [], .sl [] .full]:=rfl
@[go_sem] theorem Sa:(U 129).k= .slice 137:=rfl
@[go_sem] theorem Sb:(U 129).sz=1:=rfl
@[go_sem] theorem R9:(U 129).bytes=24:=rfl
@[go_sem] theorem Sc:(U 129).zero= .sl [] .full:=rfl
@[go_sem] theorem Se:(U 134).k= .strct [(0,129),(1,3),(2,3),(3,42),(4,3)]:=rfl
@[go_sem] theorem Sf:(U 134).sz=5:=rfl
@[go_sem] theorem Sd:(U 134).bytes=56:=rfl
@[go_sem] theorem Sg:(U 134).zero= .agg [.sl [] .full, .v (.int .i64 0), .v (.int .i64 0), .v (.int .i64 0), .v (.int .i64 0)]:=rfl
@[go_sem] theorem Si:(U 137).k= .strct [(0,3),(1,3),(2,3),(3,9)]:=rfl
@[go_sem] theorem Sj:(U 137).sz=4:=rfl
@[go_sem] theorem Sh:(U 137).bytes=40:=rfl
@[go_sem] theorem Sk:(U 137).zero= .agg [.v (.int .i64 0), .v (.int .i64 0), .v (.int .i64 0), .s []]:=rfl
@[go_sem] theorem Sm:(U 156).k= .map 9 256:=rfl
@[go_sem] theorem Sn:(U 156).sz=1:=rfl
@[go_sem] theorem Sl:(U 156).bytes=8:=rfl
@[go_sem] theorem So:(U 156).zero= .v (.map none):=rfl
@[go_sem] theorem Sq:(U 158).k= .strct [(0,156),(1,3)]:=rfl
@[go_sem] theorem Sr:(U 158).sz=2:=rfl
@[go_sem] theorem Sp:(U 158).bytes=16:=rfl
@[go_sem] theorem Ss:(U 158).zero= .agg [.v (.map none), .v (.int .i64 0)]:=rfl
@[go_sem] theorem Su:(U 161).k= .slice 57:=rfl
@[go_sem] theorem Sv:(U 161).sz=1:=rfl
@[go_sem] theorem St:(U 161).bytes=24:=rfl
@[go_sem] theorem Sw:(U 161).zero= .sl [] .full:=rfl
@[go_sem] theorem Sy:(U 162).k= .slice 226:=rfl
@[go_sem] theorem Sz:(U 162).sz=1:=rfl
@[go_sem] theorem Sx:(U 162).bytes=24:=rfl
@[go_sem] theorem SA:(U 162).zero= .sl [] .full:=rfl
@[go_sem] theorem SC:(U 164).k= .strct [(0,9),(1,4),(2,32),(3,162),(4,35)]:=rfl
@[go_sem] theorem SD:(U 164).sz=5:=rfl
@[go_sem] theorem SB:(U 164).bytes=96:=rfl
@[go_sem] theorem SE:(U 164).zero= .agg [.s [], .v (.bool false), .sl [] .full, .sl [] .full, .sl [] .full]:=rfl
@[go_sem] theorem SG:(U 167).k= .slice 9:=rfl
@[go_sem] theorem SH:(U 167).sz=1:=rfl
@[go_sem] theorem SF:(U 167).bytes=24:=rfl
@[go_sem] theorem SI:(U 167).zero= .sl [] .full:=rfl
@[go_sem] theorem SK:(U 190).k= .slice 191:=rfl
@[go_sem] theorem SL:(U 190).sz=1:=rfl
@[go_sem] theorem SJ:(U 190).bytes=24:=rfl
@[go_sem] theorem SM:(U 190).zero= .sl [] .full:=rfl
@[go_sem] theorem SO:(U 191).k= .slice 216:=rfl
@[go_sem] theorem SP:(U 191).sz=1:=rfl
@[go_sem] theorem SN:(U 191).bytes=24:=rfl
@[go_sem] theorem SQ:(U 191).zero= .sl [] .full:=rfl
@[go_sem] theorem SS:(U 195).k= .slice 44:=rfl
@[go_sem] theorem SU:(U 195).sz=1:=rfl
@[go_sem] theorem SR:(U 195).bytes=24:=rfl
@[go_sem] theorem SV:(U 195).zero= .sl [] .full:=rfl
@[go_sem] theorem SY:(U 214).k= .strct [(0,3),(1,9),(2,4)]:=rfl
@[go_sem] theorem SZ:(U 214).sz=3:=rfl
@[go_sem] theorem SW:(U 214).bytes=32:=rfl
@[go_sem] theorem S0:(U 214).zero= .agg [.v (.int .i64 0), .s [], .v (.bool false)]:=rfl
@[go_sem] theorem SX:(U 214).eq=some (1,[.int .i64, .str, .bool]):=rfl
@[go_sem] theorem S2:(U 216).k= .strct [(0,214),(3,3),(4,24)]:=rfl
@[go_sem] theorem S3:(U 216).sz=7:=rfl
@[go_sem] theorem S1:(U 216).bytes=72:=rfl
@[go_sem] theorem S4:(U 216).zero= .agg [.v (.int .i64 0), .s [], .v (.bool false), .v (.int .i64 0), .v (.int .i64 0), .v (.int .i64 0), .s []]:=rfl
@[go_sem] theorem S6:(U 226).k= .strct [(0,3),(1,24),(4,214)]:=rfl
@[go_sem] theorem S7:(U 226).sz=7:=rfl
@[go_sem] theorem S5:(U 226).bytes=72:=rfl
@[go_sem] theorem S8:(U 226).zero= .agg [.v (.int .i64 0), .v (.int .i64 0), .v (.int .i64 0), .s [], .v (.int .i64 0), .s [], .v (.bool false)]:=rfl
@[go_sem] theorem Ta:(U 234).k= .strct [(0,115),(1,24),(4,42)]:=rfl
@[go_sem] theorem Tb:(U 234).sz=5:=rfl
@[go_sem] theorem S9:(U 234).bytes=64:=rfl
@[go_sem] theorem Tc:(U 234).zero= .agg [.sl [] .full, .v (.int .i64 0), .v (.int .i64 0), .s [], .v (.int .i64 0)]:=rfl
@[go_sem] theorem Te:(U 245).k= .slice 5:=rfl
@[go_sem] theorem Tf:(U 245).sz=1:=rfl
@[go_sem] theorem Td:(U 245).bytes=24:=rfl
@[go_sem] theorem Tg:(U 245).zero= .sl [] .full:=rfl
@[go_sem] theorem Th:(U 256).k= .strct []:=rfl
@[go_sem] theorem Ti:(U 256).sz=0:=rfl
@[go_sem] theorem Tk:(U 259).k= .slice 4:=rfl
@[go_sem] theorem Tl:(U 259).sz=1:=rfl
@[go_sem] theorem Tj:(U 259).bytes=24:=rfl
@[go_sem] theorem Tm:(U 259).zero= .sl [] .full:=rfl
@[go_sem] theorem To:(U 262).k= .slice 234:=rfl
@[go_sem] theorem Tp:(U 262).sz=1:=rfl
@[go_sem] theorem Tn:(U 262).bytes=24:=rfl
@[go_sem] theorem Tq:(U 262).zero= .sl [] .full:=rfl
set_option maxRecDepth 100000 in
theorem hU:∀t,aN Tryz.prog U t:=EE 351 (by kernel_rfl) fun t ht=>by
 unfold U;rw [List.getD_eq_getElem?_getD,List.getElem?_eq_none (show I2.length≤t from ht)]
 rfl
theorem hm:Tryz.prog.follows .mixedOrders=true:=by kernel_rfl
end Go.Proofs.YtnlbeamjpefpfaaGreatDoor
namespace Go.Proofs.YtnlbeamjpefpfaaGreatDoor
open Go Go.Ab Go.Bf
theorem mW (l:Txt) (h:Heap):ak Tryz.prog 89 [.s l] h fun r h' =>r= .v (.bool (bu l))∧h' =h:=by
 refine ak.body hU hm Tryz.func89 rfl (by kernel_rfl) 49 rfl [.tmp 2] rfl (VZ rfl) (fun hwf=> ?_)
 simp only [go_sem];refine .intro (fun m ρ h' =>h' =h∧∃i:Nat,i≤l.length∧m=l.length - i∧tF (l.take i)=true∧lk ρ 0=some (.s l)∧lk ρ 8=some (.v (.int .i64 l.length))∧lk ρ 9=some (.v (.int .i64 i))) l.length ?_ ?_
 ·refine ⟨rfl,0,by omega,rfl,rfl, ?_, ?_, ?_⟩<;>simp only [go_sem]
 ·rintro m ρ h' ⟨rfl,i,hi,rfl,hc,r0,r8,r9⟩
  simp only [go_sem,r8,r9];refine .intro (fun e=> ?_) (fun e=> ?_)
  ·have hlt:i<l.length:=V7 e
   have w1:IntKind.i64.wrap ((i:Int)+1)=((i+1:Nat):Int):=by rw [bx _ (by have:=hwf (.s l) (by simp); simp only [wfA,wf1,lim] at this; omega)]; omega
   have w0:IntKind.i64.wrap (0+1)=1:=rfl;have hb:=EP l i hlt;have hg:=Cr l i hlt;rw [hc] at hg;have hcl:=JF l[i];have h255:=l[i].toNat_lt;simp only [go_sem,r0,r9];refine .at i hlt ?_;generalize hcc:l[i]=c at hb hg hcl h255⊢
   by_cases hi0:i=0
   ·subst hi0
    rcases hcl with ⟨a1,a2,a3,a4,a5⟩|⟨a1,a2,a3,a4,a5⟩|⟨a1,a2,a3,a4,a5⟩|⟨a1,a2,a3,a4,a5⟩|⟨a1,a2,a3,a4,a5⟩|⟨a1,a2,a3,a4,a5⟩
    ·simp only [go_sem,r9,a1,a2,a3,a4,a5,w0]
     refine ⟨_, ?_,rfl,0+1,by omega,rfl,by simp [hg,qT,ltr,a1,a2], ?_, ?_, ?_⟩
     ·omega
     all_goals simp only [go_sem,r0,r8]
    all_goals
     simp only [go_sem,a1,a2,a3,a4,a5];exact .same (.refl _) ⟨by simp [bu,hb (by simp [qT,ltr,a1,a2]),ax],rfl⟩
   ·have hin:((i:Int)==0)=false:=by simp; omega
    rcases hcl with ⟨a1,a2,a3,a4,a5⟩|⟨a1,a2,a3,a4,a5⟩|⟨a1,a2,a3,a4,a5⟩|⟨a1,a2,a3,a4,a5⟩|⟨a1,a2,a3,a4,a5⟩|⟨a1,a2,a3,a4,a5⟩
    ·simp only [go_sem,r9,a1,a2,a3,a4,a5,w1]
     refine ⟨_, ?_,rfl,i+1,by omega,rfl,by simp [hg,qT,ltr,dgt,a1,a2,a3,a4,a5,hi0], ?_, ?_, ?_⟩
     ·omega
     all_goals simp only [go_sem,r0,r8]
    ·simp only [go_sem,r9,a1,a3,a4,w1,hin]
     refine ⟨_, ?_,rfl,i+1,by omega,rfl,by simp [hg,qT,ltr,dgt,a1,a2,a3,a4,a5,hi0], ?_, ?_, ?_⟩
     ·omega
     all_goals simp only [go_sem,r0,r8]
    ·simp only [go_sem,r9,a1,a3,a4,a5,w1,hin]
     refine ⟨_, ?_,rfl,i+1,by omega,rfl,by simp [hg,qT,ltr,dgt,a1,a2,a3,a4,a5,hi0], ?_, ?_, ?_⟩
     ·omega
     all_goals simp only [go_sem,r0,r8]
    ·simp only [go_sem,a1,a3,a5,hin]
     exact .same (.refl _) ⟨by simp [bu,hb (by simp [qT,ltr,dgt,a1,a2,a3,a4,a5]),ax],rfl⟩
    ·simp only [go_sem,a1,a3,a4,a5,hin]
     exact .same (.refl _) ⟨by simp [bu,hb (by simp [qT,ltr,dgt,a1,a2,a3,a4,a5]),ax],rfl⟩
    ·simp only [go_sem,a1,a2,a3,a4,a5,hin]
     exact .same (.refl _) ⟨by simp [bu,hb (by simp [qT,ltr,dgt,a1,a2,a3,a4,a5]),ax],rfl⟩
  ·have hge:i=l.length:=by have:=V3 e; omega
   subst hge;rw [List.take_length] at hc
   by_cases h0:l= []
   ·subst h0
    have b0:((([]:Txt)== [])=true):=rfl;simp only [go_sem,r0,b0];exact .same (.refl _) ⟨rfl,rfl⟩
   ·have b0:(l== [])=false:=by simpa using h0
    have hp:1≤l.length:=List.length_pos_iff.2 h0;simp only [go_sem,r0,b0];exact .same (.refl _) ⟨by simp [bu,hc,ax,hp]; omega,rfl⟩
theorem DP (a:nU) (h:Heap):ak Tryz.prog 214 [Aq a] h fun r h' =>r= .v (.bool (nY a))∧h' =h:=by
 refine ak.body hU hm Tryz.func214 rfl (by kernel_rfl) 16 rfl [.tmp 2] rfl (VZ rfl) (fun hwf=> ?_)
 simp only [go_sem,Aq];intro id hid;cases d1:decide (1≤a.cat)
 ·simp only [go_sem,d1]
  exact .mk _ (.refl _) (.ai hid) ⟨by simp [nY,d1,ax],rfl⟩
 cases d2:decide (a.cat≤4)
 ·simp only [go_sem,d1,d2]
  exact .mk _ (.refl _) (.ai hid) ⟨by simp [nY,d1,d2,ax],rfl⟩
 simp only [go_sem,d1,d2];refine (mW _ _).pthen ?_;simp only [go_sem];exact .mk _ (.refl _) (.ai hid) ⟨by simp [nY,d1,d2,ax],rfl⟩
theorem iT (v:bX) (h:Heap):ak Tryz.prog 92 [aU v] h fun r h' =>r= .v (.bool (cc v))∧h' =h:=by
 refine ak.body hU hm Tryz.func92 rfl (by kernel_rfl) 61 rfl [.tmp 2] rfl (VZ rfl) (fun hwf=> ?_)
 simp only [go_sem,aU];intro id hid;cases k1:(v.kind==1)
 case true=>
  have e1:v.kind=1:=by simpa using k1
  cases d1:(v.n==0)<;>cases d2:(v.n==1)
  ·simp only [go_sem,k1,d1,d2]
   exact .mk _ (.refl _) (.ai hid) ⟨by simp [cc,e1,d1,d2,ax],rfl⟩
  all_goals
   simp only [go_sem,k1,d1,d2];exact .mk _ (.refl _) (.ai hid) ⟨by simp [cc,e1,d1,d2,ax],rfl⟩
 have n1:v.kind≠1:=by simpa using k1
 cases k2:(v.kind==2)
 case true=>
  have e1:v.kind=2:=by simpa using k2
  simp only [go_sem,k1,k2];exact .mk _ (.refl _) (.ai hid) ⟨by simp [cc,e1,ax],rfl⟩
 have n2:v.kind≠2:=by simpa using k2
 cases k3:(v.kind==3)
 case true=>
  have e1:v.kind=3:=by simpa using k3
  cases d1:(v.n==0)
  all_goals
   simp only [go_sem,k1,k2,k3,d1];exact .mk _ (.refl _) (.ai hid) ⟨by simp [cc,e1,d1,ax]<;>omega,rfl⟩
 have n3:v.kind≠3:=by simpa using k3
 cases k4:(v.kind==4)
 case true=>
  have e1:v.kind=4:=by simpa using k4
  cases d1:decide (0≤v.n)<;>cases d2:decide (v.n≤1099511627776)
  all_goals
   simp only [go_sem,k1,k2,k3,k4,d1,d2];exact .mk _ (.refl _) (.ai hid) ⟨by simp [cc,e1,d1,d2,ax],rfl⟩
 have n4:v.kind≠4:=by simpa using k4
 cases k5:(v.kind==5)
 case true=>
  have e1:v.kind=5:=by simpa using k5
  cases d1:(v.n==0)
  ·simp only [go_sem,k1,k2,k3,k4,k5,d1]
   exact .mk _ (.refl _) (.ai hid) ⟨by simp [cc,e1,d1,ax],rfl⟩
  ·simp only [go_sem,k1,k2,k3,k4,k5,d1]
   refine (mW _ _).pthen ?_;simp only [go_sem];exact .mk _ (.refl _) (.ai hid) ⟨by simp [cc,e1,d1,ax],rfl⟩
 have n5:v.kind≠5:=by simpa using k5
 simp only [go_sem,k1,k2,k3,k4,k5];exact .mk _ (.refl _) (.ai hid) ⟨by simp [cc,n1,n2,n3,n4,n5,ax],rfl⟩
theorem HU (m:bN) (h:Heap):ak Tryz.prog 213 [dD m] h fun r h' =>r= .v (.bool (jO m))∧h' =h:=by
 refine ak.body hU hm Tryz.func213 rfl (by kernel_rfl) 21 rfl [.tmp 2] rfl (VZ rfl) (fun hwf=> ?_)
 simp only [go_sem,dD];intro id hid;simp only [go_sem];refine (DP m.attr _).pthen ?_;cases d0:nY m.attr
 ·simp only [go_sem]
  exact .mk _ (.refl _) (.ai hid) ⟨by simp [jO,d0,ax],rfl⟩
 cases d1:decide (1≤m.op)
 ·simp only [go_sem,d1]
  exact .mk _ (.refl _) (.ai hid) ⟨by simp [jO,d0,d1,ax],rfl⟩
 cases d2:decide (m.op≤3)
 ·simp only [go_sem,d1,d2]
  exact .mk _ (.refl _) (.ai hid) ⟨by simp [jO,d0,d1,d2,ax],rfl⟩
 simp only [go_sem,d1,d2];refine (iT m.val _).pthen ?_;simp only [go_sem];exact .mk _ (.refl _) (.ai hid) ⟨by simp [jO,d0,d1,d2,ax],rfl⟩
theorem Ea (n:Nat) (h:Heap):ak Tryz.prog 194 [.v (.int .i64 n)] h fun r h' =>r= .v (.int .i64 (jx n))∧h' =h:=by
 refine ak.body hU hm Tryz.func194 rfl (by kernel_rfl) 9 rfl [.tmp 2] rfl (VZ rfl) (fun hwf=> ?_)
 cases d1:((n:Int)==0)
 case true=>
  have e1:n=0:=by simpa using d1
  simp only [go_sem,d1];exact .same (.refl _) ⟨by simp [jx,e1,ax],rfl⟩
 have e1:n≠0:=by simpa using d1
 cases d2:decide (8<(n:Int))
 ·have e2:¬n>8:=by have:=V3 d2; omega
  simp only [go_sem,d1,d2];exact .same (.refl _) ⟨by simp [jx,e1,e2,ax],rfl⟩
 ·have e2:n>8:=by have:=V2 d2; omega
  simp only [go_sem,d1,d2];exact .same (.refl _) ⟨by simp [jx,e1,e2,ax],rfl⟩
theorem Bn {n:Nat} (h:jx n=0):1≤n∧n≤8:=by
 unfold jx at h;split at h
 ·cases h
 ·split at h
  ·cases h
  ·omega
theorem GJ (l:List bN) (h:Heap):ak Tryz.prog 195 [gR l] h fun r h' =>r= .v (.int .i64 (ux l))∧h' =h:=by
 refine ak.body hU hm Tryz.func195 rfl (by kernel_rfl) 22 rfl [.tmp 2] rfl (VZ rfl) (fun hwf=> ?_)
 simp only [go_sem,gR,V0];refine (Ea _ _).pthen ?_;cases d1:(jx l.length !=0)
 case true=>
  have e1:jx l.length≠0:=by simpa using d1
  simp only [go_sem,d1];exact .same (.refl _) ⟨by simp [ux,e1,ax],rfl⟩
 have e1:jx l.length=0:=by simpa using d1
 have hlen:=Bn e1;simp only [go_sem,d1,V0];refine .intro (fun m ρ h' =>Ab.Sub h h'∧∃i:Nat,i≤l.length∧m=l.length - i∧(l.take i).all jO=true∧lk ρ 12=some (gR l)∧lk ρ 13=some (.v (.int .i64 l.length))∧lk ρ 14=some (.v (.int .i64 i))) l.length ?_ ?_
 ·refine ⟨.refl _,0,by omega,rfl,rfl, ?_, ?_, ?_⟩<;>simp only [go_sem,gR]
 ·rintro m ρ h' ⟨hs,i,hi,rfl,hc,r12,r13,r14⟩
  simp only [go_sem,r13,r14];refine .intro (fun e=> ?_) (fun e=> ?_)
  ·have hlt:i<l.length:=V7 e
   have w1:=V6 i (by omega)
   simp only [go_sem,r12,r14,gR];refine .at i (by simpa using hlt) (by rw [V1]; rfl) ?_
   simp only [go_sem,V1,dD];intro id hid;simp only [go_sem];refine (HU l[i] _).pthen ?_;cases d2:jO l[i]
   ·simp only [go_sem]
    refine .mk _ (.refl _) (hs.new hid _) ⟨?_,rfl⟩;have:l.all jO=false:=List.all_eq_false.2 ⟨_,V5 hlt,by simp [d2]⟩
    simp [ux,e1,this,ax]
   ·simp only [go_sem,r14,w1]
    refine ⟨_, ?_,hs.new hid _,i+1,by omega,rfl, ?_, ?_, ?_, ?_⟩
    ·omega
    ·rw [List.take_succ_eq_append_getElem hlt,List.all_append,hc]; simp [d2]
    all_goals simp only [go_sem,r12,r13,gR]
  ·have hge:i=l.length:=by have:=V3 e; omega
   subst hge;rw [List.take_length] at hc;simp only [go_sem];exact .mk _ (.refl _) hs ⟨by simp [ux,e1,hc,ax],rfl⟩
theorem aD {h:Heap} {i j:Nat} {b:Blk} (e:upd h i (some b) j=none):h j=none:=by rwa [ag _ _ (aH e)] at e
theorem I7 {v:bX} (h:(v.kind==(0:Int) && (v.n==(0:Int) && v.s==([]:Txt)))=false):¬v.kind=0∨¬v.n=0∨¬v.s= []:=by
 by_cases a1:v.kind=0
 ·by_cases a2:v.n=0
  ·by_cases a3:v.s= []
   ·simp [a1,a2,a3] at h
   ·exact .inr (.inr a3)
  ·exact .inr (.inl a2)
 ·exact .inl a1
theorem I6 {v:bX} (h:(v.kind==(0:Int) && (v.n==(0:Int) && v.s==([]:Txt)))=true):v.kind=0∧v.n=0∧v.s= []:=by
 simpa [Bool.and_eq_true] using h
theorem FJ (k:Int) (h:Heap):ak Tryz.prog 122 [.v (.int .i64 k)] h fun r h' =>r= .v (.bool (sR k))∧h' =h:=by
 refine ak.body hU hm Tryz.func122 rfl (by kernel_rfl) 9 rfl [.tmp 2] rfl (VZ rfl) (fun hwf=> ?_)
 cases d1:decide (1≤k)
 ·simp -implicitDefEqProofs only [go_sem,d1]
  exact .same (.refl _) ⟨by simp only [sR,d1,ax,Bool.false_and],rfl⟩
 ·simp -implicitDefEqProofs only [go_sem,d1]
  exact .same (.refl _) ⟨by simp only [sR,d1,ax,Bool.true_and],rfl⟩
theorem vw (s:Txt) (h:Heap):ak Tryz.prog 91 [.s s] h fun r h' =>r= .v (.bool (iZ s))∧h' =h:=by
 refine ak.body hU hm Tryz.func91 rfl (by kernel_rfl) 9 rfl [.tmp 2] rfl (VZ rfl) (fun hwf=> ?_)
 cases d1:(s==([]:Txt))
 ·simp -implicitDefEqProofs only [go_sem,d1]
  refine (mW s h).pthen ?_;simp -implicitDefEqProofs only [go_sem];exact .same (.refl _) ⟨by simp only [iZ,d1,ax,Bool.false_or],rfl⟩
 ·simp -implicitDefEqProofs only [go_sem,d1]
  exact .same (.refl _) ⟨by simp only [iZ,d1,ax,Bool.true_or],rfl⟩
theorem CO (a b:Txt) (h:Heap):ak Tryz.prog 94 [.s a, .s b] h fun r h' =>r= .v (.bool (jY a b))∧h' =h:=by
 refine ak.body hU hm Tryz.func94 rfl (by kernel_rfl) 22 rfl [.tmp 4] rfl (VZ rfl) (fun hwf=> ?_)
 cases d1:(a==gI)<;>cases d2:(a==uv)<;>cases d3:(a==yb)<;>cases d4:(b==uv)<;>simp only [gI,uv,yb] at d1 d2 d3 d4<;>simp -implicitDefEqProofs only [go_sem,d1,d2,d3,d4]<;>
  exact .same (.refl _) ⟨by simp only [jY,d1,d2,d3,d4,ax,gI,uv,yb,gw,if_true,Bool.false_eq_true,if_false,Bool.true_or,Bool.false_or],rfl⟩
theorem xU (k:Int) (hk:i64 k) (h:Heap):ak Tryz.prog 48 [.v (.int .i64 k)] h fun r h' =>r= .s (iW k)∧h' =h:=by
 refine ak.body hU hm Tryz.func48 rfl (by kernel_rfl) 18 rfl [.tmp 2] rfl (VZ rfl) (fun hwf=> ?_)
 simp -implicitDefEqProofs only [go_sem];cases d1:decide (k<1)
 case true=>
  simp -implicitDefEqProofs only [go_sem];exact .same (.refl _) ⟨by simp only [iW,V2 d1,true_or,if_true,ax],rfl⟩
 cases d2:decide ((7:Int)<k)
 case true=>
  simp -implicitDefEqProofs only [go_sem,d2];exact .same (.refl _) ⟨by simp only [iW,show k>7 from V2 d2,or_true,if_true,ax],rfl⟩
 have h1:=V3 d1;have h2:=V3 d2;obtain ⟨j,rfl⟩:∃j:Nat,k=(j:Int)+1:=⟨(k - 1).toNat,by omega⟩
 have hj:j<7:=by omega
 have w1:IntKind.i64.wrap ((j:Int)+1 - 1)=(j:Int):=by rw [bx _ (by omega)]; omega
 simp -implicitDefEqProofs only [go_sem,d2,w1];refine .at j (by simpa using hj) (by rcases j with _|_|_|_|_|_|_|j<;>first|rfl|omega) ?_
 rcases j with _|_|_|_|_|_|_|j
 all_goals first|omega|skip
 all_goals
  simp -implicitDefEqProofs only [go_sem,List.getElem_cons_zero,List.getElem_cons_succ];exact .same (.refl _) ⟨by rfl,rfl⟩
theorem FW (o:OpD) (h:Heap):ak Tryz.prog 90 [opA o] h fun r h' =>r= .v (.bool (lY o))∧h' =h:=by
 refine ak.body hU hm Tryz.func90 rfl (by kernel_rfl) 23 rfl [.tmp 2] rfl (VZ rfl) (fun hwf=> ?_)
 simp -implicitDefEqProofs only [go_sem,opA,opC];intro id hid;cases d1:o.glass
 ·simp -implicitDefEqProofs only [go_sem]
  exact .mk _ (.refl _) (.ai hid) ⟨by simp [lY,d1,ax],rfl⟩
 simp -implicitDefEqProofs only [go_sem];refine (FJ _ _).pthen ?_;cases d2:sR o.kind
 ·simp -implicitDefEqProofs only [go_sem]
  exact .mk _ (.refl _) (.ai hid) ⟨by simp [lY,d1,d2,ax],rfl⟩
 cases d3:(o.reason==([]:Txt))
 ·simp -implicitDefEqProofs only [go_sem,d3]
  exact .mk _ (.refl _) (.ai hid) ⟨by
   simp only [lY,d1,d2,d3,ax,if_true,Bool.not_false,Bool.true_and]
   congr 2
   simp only [decide_eq_decide];omega,rfl⟩
 ·simp -implicitDefEqProofs only [go_sem,d3]
  exact .mk _ (.refl _) (.ai hid) ⟨by simp [lY,d1,d2,d3,ax],rfl⟩
theorem JC (o:OpD) (h:Heap):ak Tryz.prog 123 [opA o] h fun r h' =>r=opA (gu o)∧h' =h:=by
 refine ak.body hU hm Tryz.func123 rfl (by kernel_rfl) 7 rfl [.cell 2 26] rfl (VZ rfl) (fun hwf=> ?_)
 simp -implicitDefEqProofs only [go_sem,opA,opC];intro i1 h1;simp -implicitDefEqProofs only [go_sem];intro i2 h2;have hne:=aH h2;simp -implicitDefEqProofs only [go_sem,aj,hne,hne.symm];have n2:=aD h2;exact .mk _ (.refl _) (((((Sub.refl h).put h1 _).put n2 _).put h1 _).put n2 _) ⟨rfl,rfl⟩
set_option maxRecDepth 100000 in
theorem IW (o:OpD) (h:Heap):ak Tryz.prog 93 [opA o] h fun r h' =>r= .v (.bool (dG o))∧h' =h:=by
 have hb:=fun hh=>JC o hh
 simp only [gu,opA,opC] at hb;refine ak.body hU hm Tryz.func93 rfl (by kernel_rfl) 111 rfl [.tmp 2] rfl (VZ rfl) (fun hwf=> ?_)
 simp -implicitDefEqProofs only [go_sem,opA,opC];intro i1 h1;simp -implicitDefEqProofs only [go_sem];refine (hb _).pthen ?_;simp -implicitDefEqProofs only [go_sem];intro i3 h3;have n31:=aH h3;have n3:=aD h3;simp -implicitDefEqProofs only [go_sem,aj,n31.symm];intro i4 h4;have n43:=aH h4;have h4' :=aD h4;have n41:=aH h4';have n4:=aD h4';have bnd:o.kind≠1→o.kind≠2→o.kind≠3→o.kind≠4→o.kind≠5→o.kind≠6→o.kind≠7→o.kind≠8→(decide (1≤o.kind) && decide (o.kind≤8))=false:=by
  intro a1 a2 a3 a4 a5 a6 a7 a8;simp only [Bool.and_eq_false_iff,decide_eq_false_iff_not];omega
 by_cases k1:o.kind=1
 ·simp -implicitDefEqProofs only [go_sem,aj,n31.symm,n41.symm,k1]
  cases dcase:(o.case==([]:Txt))
  ·simp -implicitDefEqProofs only [go_sem,aj,n43.symm]
   exact .mk _ (.refl _) (by repeat' first|exact .refl _|(refine Sub.put ?_ (by assumption) _)) ⟨by simp [dG,okD,gZ,gu,lI,ay,ax,k1,decide_true,dcase,Bool.and_true,Bool.true_and,Bool.not_false],rfl⟩
  ·simp -implicitDefEqProofs only [go_sem]
   exact .mk _ (.refl _) (by repeat' first|exact .refl _|(refine Sub.put ?_ (by assumption) _)) ⟨by simp [dG,okD,gZ,gu,lI,ay,ax,k1,decide_true,dcase,Bool.and_true,Bool.true_and,Bool.false_and,Bool.and_false,Bool.not_true],rfl⟩
 by_cases k2:o.kind=2
 ·simp -implicitDefEqProofs only [go_sem,aj,n31.symm,n41.symm,k2,Int.reduceBEq]
  refine .calls (hm1 i1 _) [0,1,2,3,4,5,6,7] (.hm1 (by rw [ag _ _ n41.symm,ag _ _ n31.symm,ah])) (by kernel_rfl) rfl ?_
  simp -implicitDefEqProofs only [go_sem,aj,n31.symm,n41.symm];refine ⟨(.hm1 (by simp only [aj,n41.symm,n31.symm,fN,not_false_eq_true])),(.hm1 (by simp only [aj,n41.symm,n31.symm,fN,not_false_eq_true])), ?_⟩
  cases dcase:(o.case==([]:Txt))
  ·simp -implicitDefEqProofs only [go_sem,aj,n31.symm,n41.symm]
   cases dfield:(o.field==([]:Txt))
   ·simp -implicitDefEqProofs only [go_sem,aj,n43.symm]
    exact .mk _ (.refl _) (by repeat' first|exact .refl _|(refine Sub.put ?_ (by assumption) _)) ⟨by simp [dG,okD,gZ,gu,lI,ay,ax,k2,decide_true,dcase,dfield,Bool.and_true,Bool.true_and,Bool.not_false],rfl⟩
   ·simp -implicitDefEqProofs only [go_sem]
    exact .mk _ (.refl _) (by repeat' first|exact .refl _|(refine Sub.put ?_ (by assumption) _)) ⟨by simp [dG,okD,gZ,gu,lI,ay,ax,k2,decide_true,dcase,dfield,Bool.and_true,Bool.true_and,Bool.false_and,Bool.and_false,Bool.not_true,Bool.not_false],rfl⟩
  ·simp -implicitDefEqProofs only [go_sem]
   exact .mk _ (.refl _) (by repeat' first|exact .refl _|(refine Sub.put ?_ (by assumption) _)) ⟨by simp [dG,okD,gZ,gu,lI,ay,ax,k2,decide_true,dcase,Bool.and_true,Bool.true_and,Bool.false_and,Bool.and_false,Bool.not_true],rfl⟩
 by_cases k6:o.kind=6
 ·simp -implicitDefEqProofs only [go_sem,aj,n31.symm,n41.symm,k6,Int.reduceBEq]
  refine .calls (hm1 i1 _) [0,1,2,3,4,5,6,7] (.hm1 (by rw [ag _ _ n41.symm,ag _ _ n31.symm,ah])) (by kernel_rfl) rfl ?_
  simp -implicitDefEqProofs only [go_sem,aj,n31.symm,n41.symm];refine ⟨(.hm1 (by simp only [aj,n41.symm,n31.symm,fN,not_false_eq_true])),(.hm1 (by simp only [aj,n41.symm,n31.symm,fN,not_false_eq_true])), ?_⟩
  cases dcase:(o.case==([]:Txt))
  ·simp -implicitDefEqProofs only [go_sem,aj,n31.symm,n41.symm]
   cases dfield:(o.field==([]:Txt))
   ·simp -implicitDefEqProofs only [go_sem,aj,n43.symm]
    exact .mk _ (.refl _) (by repeat' first|exact .refl _|(refine Sub.put ?_ (by assumption) _)) ⟨by simp [dG,okD,gZ,gu,lI,ay,ax,k6,decide_true,dcase,dfield,Bool.and_true,Bool.true_and,Bool.not_false],rfl⟩
   ·simp -implicitDefEqProofs only [go_sem]
    exact .mk _ (.refl _) (by repeat' first|exact .refl _|(refine Sub.put ?_ (by assumption) _)) ⟨by simp [dG,okD,gZ,gu,lI,ay,ax,k6,decide_true,dcase,dfield,Bool.and_true,Bool.true_and,Bool.false_and,Bool.and_false,Bool.not_true,Bool.not_false],rfl⟩
  ·simp -implicitDefEqProofs only [go_sem]
   exact .mk _ (.refl _) (by repeat' first|exact .refl _|(refine Sub.put ?_ (by assumption) _)) ⟨by simp [dG,okD,gZ,gu,lI,ay,ax,k6,decide_true,dcase,Bool.and_true,Bool.true_and,Bool.false_and,Bool.and_false,Bool.not_true],rfl⟩
 by_cases k3:o.kind=3
 ·simp -implicitDefEqProofs only [go_sem,aj,n31.symm,n41.symm,k3,Int.reduceBEq]
  refine .calls (hm1 i1 _) [0,1,2,3,4,5,6,7,8,9,10,11] (.hm1 (by rw [ag _ _ n41.symm,ag _ _ n31.symm,ah])) (by kernel_rfl) rfl ?_
  simp -implicitDefEqProofs only [go_sem,aj,n31.symm,n41.symm];refine ⟨(.hm1 (by simp only [aj,n41.symm,n31.symm,fN,not_false_eq_true])),(.hm1 (by simp only [aj,n41.symm,n31.symm,fN,not_false_eq_true])),(.hm1 (by simp only [aj,n41.symm,n31.symm,fN,not_false_eq_true])), ?_⟩
  cases dcase:(o.case==([]:Txt))
  ·simp -implicitDefEqProofs only [go_sem,aj,n31.symm,n41.symm]
   cases dfield:(o.field==([]:Txt))
   ·simp -implicitDefEqProofs only [go_sem,aj,n31.symm,n41.symm]
    cases dval:(o.val.kind==(0:Int) && (o.val.n==(0:Int) && o.val.s==([]:Txt)))
    ·simp -implicitDefEqProofs only [go_sem,aj,n43.symm]
     exact .mk _ (.refl _) (by repeat' first|exact .refl _|(refine Sub.put ?_ (by assumption) _)) ⟨by simp [dG,okD,gZ,gu,lI,eqV,ay,ax,k3,decide_true,dcase,dfield,Bool.and_true,Bool.true_and,Bool.not_true,Bool.not_false]; first|exact fun _ _ _=>I7 dval|(intro hh; obtain ⟨a,b,c⟩:=I6 dval; simp [a,b,c] at hh),rfl⟩
    ·simp -implicitDefEqProofs only [go_sem]
     exact .mk _ (.refl _) (by repeat' first|exact .refl _|(refine Sub.put ?_ (by assumption) _)) ⟨by simp [dG,okD,gZ,gu,lI,eqV,ay,ax,k3,decide_true,dcase,dfield,Bool.and_true,Bool.true_and,Bool.not_true,Bool.not_false]; first|exact fun _ _ _=>I7 dval|(intro hh; obtain ⟨a,b,c⟩:=I6 dval; simp [a,b,c] at hh),rfl⟩
   ·simp -implicitDefEqProofs only [go_sem]
    exact .mk _ (.refl _) (by repeat' first|exact .refl _|(refine Sub.put ?_ (by assumption) _)) ⟨by simp [dG,okD,gZ,gu,lI,eqV,ay,ax,k3,decide_true,dcase,dfield,Bool.and_true,Bool.true_and,Bool.false_and,Bool.and_false,Bool.not_true,Bool.not_false],rfl⟩
  ·simp -implicitDefEqProofs only [go_sem]
   exact .mk _ (.refl _) (by repeat' first|exact .refl _|(refine Sub.put ?_ (by assumption) _)) ⟨by simp [dG,okD,gZ,gu,lI,eqV,ay,ax,k3,decide_true,dcase,Bool.and_true,Bool.true_and,Bool.false_and,Bool.and_false,Bool.not_true],rfl⟩
 by_cases k4:o.kind=4
 ·simp -implicitDefEqProofs only [go_sem,aj,n31.symm,n41.symm,k4,Int.reduceBEq]
  refine .calls (hm1 i1 _) [0,1,2,3,4,5,6,7] (.hm1 (by rw [ag _ _ n41.symm,ag _ _ n31.symm,ah])) (by kernel_rfl) rfl ?_
  simp -implicitDefEqProofs only [go_sem,aj,n31.symm,n41.symm];refine ⟨(.hm1 (by simp only [aj,n41.symm,n31.symm,fN,not_false_eq_true])),(.hm1 (by simp only [aj,n41.symm,n31.symm,fN,not_false_eq_true])), ?_⟩
  cases dcase:(o.case==([]:Txt))
  ·simp -implicitDefEqProofs only [go_sem,aj,n31.symm,n41.symm]
   cases dto:(o.to==([]:Txt))
   ·simp -implicitDefEqProofs only [go_sem,aj,n43.symm]
    exact .mk _ (.refl _) (by repeat' first|exact .refl _|(refine Sub.put ?_ (by assumption) _)) ⟨by simp [dG,okD,gZ,gu,lI,ay,ax,k4,decide_true,dcase,dto,Bool.and_true,Bool.true_and,Bool.not_false],rfl⟩
   ·simp -implicitDefEqProofs only [go_sem]
    exact .mk _ (.refl _) (by repeat' first|exact .refl _|(refine Sub.put ?_ (by assumption) _)) ⟨by simp [dG,okD,gZ,gu,lI,ay,ax,k4,decide_true,dcase,dto,Bool.and_true,Bool.true_and,Bool.false_and,Bool.and_false,Bool.not_true,Bool.not_false],rfl⟩
  ·simp -implicitDefEqProofs only [go_sem]
   exact .mk _ (.refl _) (by repeat' first|exact .refl _|(refine Sub.put ?_ (by assumption) _)) ⟨by simp [dG,okD,gZ,gu,lI,ay,ax,k4,decide_true,dcase,Bool.and_true,Bool.true_and,Bool.false_and,Bool.and_false,Bool.not_true],rfl⟩
 by_cases k5:o.kind=5
 ·simp -implicitDefEqProofs only [go_sem,aj,n31.symm,n41.symm,k5,Int.reduceBEq]
  cases drev0:decide ((0:Int)<o.review)
  ·simp -implicitDefEqProofs only [go_sem]
   exact .mk _ (.refl _) (by repeat' first|exact .refl _|(refine Sub.put ?_ (by assumption) _)) ⟨by simp [dG,okD,gZ,gu,lI,ay,ax,k5,decide_true,drev0,Bool.and_true,Bool.true_and,Bool.false_and,Bool.and_false],rfl⟩
  ·simp -implicitDefEqProofs only [go_sem,aj,n43.symm]
   exact .mk _ (.refl _) (by repeat' first|exact .refl _|(refine Sub.put ?_ (by assumption) _)) ⟨by simp [dG,okD,gZ,gu,lI,ay,ax,k5,decide_true,drev0,Bool.and_true,Bool.true_and],rfl⟩
 by_cases k7:o.kind=7
 ·simp -implicitDefEqProofs only [go_sem,aj,n31.symm,n43.symm,n41.symm,k7,Int.reduceBEq]
  exact .mk _ (.refl _) (by repeat' first|exact .refl _|(refine Sub.put ?_ (by assumption) _)) ⟨by simp [dG,okD,gZ,gu,lI,ay,ax,k7,decide_true,Bool.and_true,Bool.true_and],rfl⟩
 by_cases k8:o.kind=8
 ·simp -implicitDefEqProofs only [go_sem,aj,n31.symm,n41.symm,k8,Int.reduceBEq]
  cases drev0:decide ((0:Int)<o.review)
  ·simp -implicitDefEqProofs only [go_sem]
   exact .mk _ (.refl _) (by repeat' first|exact .refl _|(refine Sub.put ?_ (by assumption) _)) ⟨by simp [dG,okD,gZ,gu,lI,ay,ax,k8,decide_true,drev0,Bool.and_true,Bool.true_and,Bool.false_and,Bool.and_false],rfl⟩
  ·simp -implicitDefEqProofs only [go_sem,aj,n31.symm,n41.symm]
   cases drev1:decide (o.review≤(1099511627776:Int))
   ·simp -implicitDefEqProofs only [go_sem]
    exact .mk _ (.refl _) (by repeat' first|exact .refl _|(refine Sub.put ?_ (by assumption) _)) ⟨by simp [dG,okD,gZ,gu,lI,ay,ax,k8,decide_true,drev0,drev1,Bool.and_true,Bool.true_and,Bool.false_and,Bool.and_false],rfl⟩
   ·simp -implicitDefEqProofs only [go_sem,aj,n43.symm]
    exact .mk _ (.refl _) (by repeat' first|exact .refl _|(refine Sub.put ?_ (by assumption) _)) ⟨by simp [dG,okD,gZ,gu,lI,ay,ax,k8,decide_true,drev0,drev1,Bool.and_true,Bool.true_and],rfl⟩
 simp -implicitDefEqProofs only [go_sem,aj,n31.symm,n41.symm,beq_eq_false_iff_ne.2 k1,beq_eq_false_iff_ne.2 k2,beq_eq_false_iff_ne.2 k6,beq_eq_false_iff_ne.2 k3,beq_eq_false_iff_ne.2 k4,beq_eq_false_iff_ne.2 k5,beq_eq_false_iff_ne.2 k7,beq_eq_false_iff_ne.2 k8];exact .mk _ (.refl _) (by repeat' first|exact .refl _|(refine Sub.put ?_ (by assumption) _)) ⟨by simp only [dG,bnd k1 k2 k3 k4 k5 k6 k7 k8,Bool.false_and,ax],rfl⟩
theorem JP (o:OpD) (h:Heap):ak Tryz.prog 55 [opA o] h fun r h' =>r= .v (.bool (fE o))∧h' =h:=by
 have hr:=fun hh=>FW o hh
 have ht:=fun hh=>IW o hh
 have hv:=fun hh=>iT o.val hh
 simp only [opA,opC,aU] at hr ht hv;refine ak.body hU hm Tryz.func55 rfl (by kernel_rfl) 48 rfl [.tmp 2] rfl (VZ rfl) (fun hwf=> ?_)
 simp -implicitDefEqProofs only [go_sem,opA,opC];intro i1 h1;simp -implicitDefEqProofs only [go_sem];refine (mW o.subj _).pthen ?_;cases d1:bu o.subj
 ·simp -implicitDefEqProofs only [go_sem]
  exact .mk _ (.refl _) (.ai h1) ⟨by simp only [fE,d1,Bool.false_and,ax],rfl⟩
 simp -implicitDefEqProofs only [go_sem];refine (hr _).pthen ?_;cases d2:lY o
 ·simp -implicitDefEqProofs only [go_sem]
  exact .mk _ (.refl _) (.ai h1) ⟨by simp only [fE,d1,d2,Bool.false_and,Bool.true_and,ax],rfl⟩
 cases d3:decide ((4096:Int)<(o.text.length:Int))
 case true=>
  have e3:decide (o.text.length≤4096)=false:=decide_eq_false (by have:=V2 d3; omega)
  simp -implicitDefEqProofs only [go_sem,d3];exact .mk _ (.refl _) (.ai h1) ⟨by simp only [fE,d1,d2,e3,Bool.false_and,Bool.true_and,ax],rfl⟩
 have e3:decide (o.text.length≤4096)=true:=decide_eq_true (by have:=V3 d3; omega)
 simp -implicitDefEqProofs only [go_sem,d3];refine (vw o.case _).pthen ?_;cases d4:iZ o.case
 ·simp -implicitDefEqProofs only [go_sem]
  exact .mk _ (.refl _) (.ai h1) ⟨by simp only [fE,d1,d2,e3,d4,Bool.false_and,Bool.true_and,ax],rfl⟩
 simp -implicitDefEqProofs only [go_sem];refine (vw o.field _).pthen ?_;cases d5:iZ o.field
 ·simp -implicitDefEqProofs only [go_sem]
  exact .mk _ (.refl _) (.ai h1) ⟨by simp only [fE,d1,d2,e3,d4,d5,Bool.false_and,Bool.true_and,ax],rfl⟩
 simp -implicitDefEqProofs only [go_sem];refine (vw o.to _).pthen ?_;cases d6:iZ o.to
 ·simp -implicitDefEqProofs only [go_sem]
  exact .mk _ (.refl _) (.ai h1) ⟨by simp only [fE,d1,d2,e3,d4,d5,d6,Bool.false_and,Bool.true_and,ax],rfl⟩
 cases d7:(o.val.kind==(0:Int) && (o.val.n==(0:Int) && o.val.s==([]:Txt)))
 ·simp -implicitDefEqProofs only [go_sem,d7]
  refine (hv _).pthen ?_;have e7:eqV o.val ay=false:=d7;cases d8:cc o.val
  ·simp -implicitDefEqProofs only [go_sem]
   exact .mk _ (.refl _) (.ai h1) ⟨by simp only [fE,d1,d2,e3,d4,d5,d6,e7,d8,Bool.or_self,Bool.false_and,Bool.true_and,ax],rfl⟩
  simp -implicitDefEqProofs only [go_sem];refine (ht _).pthen ?_;simp -implicitDefEqProofs only [go_sem];exact .mk _ (.refl _) (.ai h1) ⟨by simp only [fE,d1,d2,e3,d4,d5,d6,e7,d8,Bool.false_or,Bool.true_and,ax],rfl⟩
 ·simp -implicitDefEqProofs only [go_sem,d7]
  have e7:eqV o.val ay=true:=d7;refine (ht _).pthen ?_;simp -implicitDefEqProofs only [go_sem];exact .mk _ (.refl _) (.ai h1) ⟨by simp only [fE,d1,d2,e3,d4,d5,d6,e7,Bool.true_or,Bool.true_and,ax],rfl⟩
end Go.Proofs.YtnlbeamjpefpfaaGreatDoor
namespace Go.Bf
open Go Go.Ab
def ixD {α:Type} (q:α→Bool) (l:List α):Int:=if l.findIdx q<l.length then (l.findIdx q:Nat) else -1
theorem mo {α:Type} {q:α→Bool} {l:List α} {i:Nat} (hi:i<l.length) (h1:q l[i]=true) (h2:∀j (hj:j<i),q (l[j]'(by omega))=false):ixD q l=(i:Nat):=by
 have e:l.findIdx q=i:=(List.findIdx_eq hi).2 ⟨h1,fun j hj=>h2 j hj⟩
 rw [ixD,e,if_pos hi]
theorem iD {α:Type} {q:α→Bool} {l:List α} (h:∀j (hj:j<l.length),q l[j]=false):ixD q l= -1:=by
 have e:l.findIdx q=l.length:=List.findIdx_eq_length.2 fun x hx=>by
  obtain ⟨j,hj,rfl⟩:=List.mem_iff_getElem.1 hx;exact h j hj
 rw [ixD,e,if_neg (Nat.lt_irrefl _)]
end Go.Bf
namespace Go.Proofs.YtnlbeamjpefpfaaGreatDoor
open Go Go.Ab Go.Bf
theorem sJ {α:Type} (y:AV) (xs:List AV) (ds:List α) (q:α→Bool) (g:FuncId) (cap:List AV) (h:Heap) (hb:Rd h 5 y xs) (hn:xs.length=ds.length) (hl:xs.length≤1000000000) (hx:∀x∈xs,bA x=true)
  (hp:∀i (h1:i<xs.length) (h2:i<ds.length),ak Tryz.prog g (xs[i]::cap) h fun r h' =>r= .v (.bool (q ds[i]))∧h' =h):
  ak Tryz.prog 86 [y, .fn g cap] h fun r h' =>r= .v (.int .i64 (ixD q ds))∧h' =h:=by
 refine ak.body hU hm Tryz.func86 rfl (by kernel_rfl) 19 rfl [.tmp 4] rfl (VZ rfl) (fun hwf=> ?_)
 simp only [go_sem,hb.len];refine .intro (fun m ρ h' =>h' =h∧∃i:Nat,i≤xs.length∧m=xs.length - i∧(∀j (hj:j<i) (h2:j<ds.length),q ds[j]=false)∧lk ρ 0=some y∧lk ρ 1=some (.fn g cap)∧lk ρ 7=some (.v (.int .i64 xs.length))∧lk ρ 8=some (.v (.int .i64 i))) xs.length ?_ ?_
 ·refine ⟨rfl,0,by omega,rfl,fun j hj=>(by omega), ?_, ?_, ?_, ?_⟩<;>simp only [go_sem]
 ·rintro m ρ h' ⟨rfl,i,hi,rfl,hc,r0,r1,r7,r8⟩
  simp only [go_sem,r7,r8];refine .intro (fun e=> ?_) (fun e=> ?_)
  ·have hlt:i<xs.length:=V7 e
   have hlt2:i<ds.length:=by omega
   have w1:=V6 i (by omega)
   simp only [go_sem,r0,r1,r8];refine hb.idx (e:=78) i rfl hlt (by simp only [go_sem]) (by decide) fun p hp1=> ?_
   have hld:=hp1.all (U:=U) (ty:=78) (by simp only [go_sem]) (by simp only [go_sem]; exact hb.1 _ (V5 hlt)) (by simp only [go_sem]; rw [hx _ (V5 hlt)])
   simp only [go_sem,hld];refine (show ak Tryz.prog g (xs[i]::cap) _ _ from hp i hlt hlt2).pthen ?_
   cases d1:q ds[i]
   ·simp only [go_sem,r8,w1]
    refine ⟨_, ?_,rfl,i+1,by omega,rfl,fun j hj h2=> ?_, ?_, ?_, ?_, ?_⟩
    ·omega
    ·by_cases hji:j=i
     ·subst hji; exact d1
     ·exact hc j (by omega) h2
    all_goals simp only [go_sem,r0,r1,r7]
   ·simp only [go_sem]
    exact .same (.refl _) ⟨by rw [mo hlt2 d1 fun j hj=>hc j hj (by omega)]; rfl,rfl⟩
  ·have hge:i=xs.length:=by have:=V3 e; omega
   simp only [go_sem];exact .same (.refl _) ⟨by rw [iD fun j hj=>hc j (by omega) hj]; rfl,rfl⟩
theorem vR {α:Type} (y:AV) (xs:List AV) (ds:List α) (q:α→Bool) (g:FuncId) (cap:List AV) (h:Heap) (hb:Rd h 4 y xs) (hn:xs.length=ds.length) (hl:xs.length≤1000000000) (hx:∀x∈xs,bA x=true)
  (hp:∀i (h1:i<xs.length) (h2:i<ds.length),ak Tryz.prog g (xs[i]::cap) h fun r h' =>r= .v (.bool (q ds[i]))∧h' =h):
  ak Tryz.prog 74 [y, .fn g cap] h fun r h' =>r= .v (.int .i64 (ixD q ds))∧h' =h:=by
 refine ak.body hU hm Tryz.func74 rfl (by kernel_rfl) 19 rfl [.tmp 4] rfl (VZ rfl) (fun hwf=> ?_)
 simp only [go_sem,hb.len];refine .intro (fun m ρ h' =>h' =h∧∃i:Nat,i≤xs.length∧m=xs.length - i∧(∀j (hj:j<i) (h2:j<ds.length),q ds[j]=false)∧lk ρ 0=some y∧lk ρ 1=some (.fn g cap)∧lk ρ 7=some (.v (.int .i64 xs.length))∧lk ρ 8=some (.v (.int .i64 i))) xs.length ?_ ?_
 ·refine ⟨rfl,0,by omega,rfl,fun j hj=>(by omega), ?_, ?_, ?_, ?_⟩<;>simp only [go_sem]
 ·rintro m ρ h' ⟨rfl,i,hi,rfl,hc,r0,r1,r7,r8⟩
  simp only [go_sem,r7,r8];refine .intro (fun e=> ?_) (fun e=> ?_)
  ·have hlt:i<xs.length:=V7 e
   have hlt2:i<ds.length:=by omega
   have w1:=V6 i (by omega)
   simp only [go_sem,r0,r1,r8];refine hb.idx (e:=111) i rfl hlt (by simp only [go_sem]) (by decide) fun p hp1=> ?_
   have hld:=hp1.all (U:=U) (ty:=111) (by simp only [go_sem]) (by simp only [go_sem]; exact hb.1 _ (V5 hlt)) (by simp only [go_sem]; rw [hx _ (V5 hlt)])
   simp only [go_sem,hld];refine (show ak Tryz.prog g (xs[i]::cap) _ _ from hp i hlt hlt2).pthen ?_
   cases d1:q ds[i]
   ·simp only [go_sem,r8,w1]
    refine ⟨_, ?_,rfl,i+1,by omega,rfl,fun j hj h2=> ?_, ?_, ?_, ?_, ?_⟩
    ·omega
    ·by_cases hji:j=i
     ·subst hji; exact d1
     ·exact hc j (by omega) h2
    all_goals simp only [go_sem,r0,r1,r7]
   ·simp only [go_sem]
    exact .same (.refl _) ⟨by rw [mo hlt2 d1 fun j hj=>hc j hj (by omega)]; rfl,rfl⟩
  ·have hge:i=xs.length:=by have:=V3 e; omega
   simp only [go_sem];exact .same (.refl _) ⟨by rw [iD fun j hj=>hc j (by omega) hj]; rfl,rfl⟩
def RdC (h:Heap) (x:AV) (c:aJ):Prop:=∃f l,x= .agg [.s c.id, .s c.owner, .s c.state,f,l]∧Rd h 4 f (c.fields.map bw)∧Rd h 3 l (c.log.map fF)
def xo (h:Heap) (y:AV) (cs:List aJ):Prop:=∃xs,Rd h 5 y xs∧xs.length=cs.length∧∀i (h1:i<xs.length) (h2:i<cs.length),RdC h xs[i] cs[i]
def RdS (h:Heap) (x:AV) (s:an):Prop:=∃y1 y2 y3 y4,x= .agg ([.v (.int .i64 s.tick),y1,y2,y3,y4]++fB s.policy++ [.v (.int .i64 s.version)])∧xo h y1 s.cases∧Rd h 7 y2 (s.reviews.map fL)∧Rd h 3 y3 (s.notices.map ku)∧Rd h 2 y4 (s.roles.map cD)
theorem RdC.sub {h h' :Heap} {x:AV} {c:aJ} (hb:RdC h x c) (hs:Ab.Sub h h'):RdC h' x c:=by
 obtain ⟨f,l,e,h1,h2⟩:=hb;exact ⟨f,l,e,h1.sub hs,h2.sub hs⟩
theorem xo.sub {h h' :Heap} {y:AV} {cs:List aJ} (hb:xo h y cs) (hs:Ab.Sub h h'):xo h' y cs:=by
 obtain ⟨xs,h1,h2,h3⟩:=hb;exact ⟨xs,h1.sub hs,h2,fun i a b=>(h3 i a b).sub hs⟩
theorem RdS.sub {h h' :Heap} {x:AV} {s:an} (hb:RdS h x s) (hs:Ab.Sub h h'):RdS h' x s:=by
 obtain ⟨y1,y2,y3,y4,e,h1,h2,h3,h4⟩:=hb;exact ⟨y1,y2,y3,y4,e,h1.sub hs,h2.sub hs,h3.sub hs,h4.sub hs⟩
theorem bl {α:Type} {f:α→AV} {n:Nat} (hf:∀a,(f a).cells.length=n) (l:List α):Sized n (l.map f):=fun z hz=>by
 obtain ⟨a,_,rfl⟩:=List.mem_map.1 hz;exact hf a
theorem mP {α:Type} {f:α→AV} (hf:∀a,bA (f a)=true) (l:List α):∀x∈l.map f,bA x=true:=fun z hz=>by
 obtain ⟨a,_,rfl⟩:=List.mem_map.1 hz;exact hf a
theorem eC {α:Type} (f:α→AV) (n:Nat) (hf:∀a,(f a).cells.length=n) (h:Heap) (l:List α):Rd h n (.sl (l.map f) .no) (l.map f):= .sl (bl hf l) _
theorem rdC (h:Heap) (c:aJ):RdC h (bJ c) c:=⟨_,_,rfl,eC bw 4 (fun _=>rfl) h _,eC fF 3 (fun _=>rfl) h _⟩
theorem RQ (h:Heap) (cs:List aJ):xo h (iY cs) cs:=⟨_,eC bJ 5 (fun _=>rfl) h cs,by simp,fun i h1 h2=>by rw [V1]; exact rdC h _⟩
theorem rdS (h:Heap) (s:an):RdS h (cU s) s:=⟨_,_,_,_,rfl,RQ h _,eC fL 7 (fun _=>rfl) h _,eC ku 3 (fun _=>rfl) h _,eC cD 2 (fun _=>rfl) h _⟩
theorem RdC.agg {h:Heap} {x:AV} {c:aJ} (hb:RdC h x c):bA x=true:=by
 obtain ⟨f,l,rfl,_⟩:=hb;rfl
theorem xo.agg {h:Heap} {xs:List AV} {cs:List aJ} (hn:xs.length=cs.length) (hb:∀i (h1:i<xs.length) (h2:i<cs.length),RdC h xs[i] cs[i]):∀x∈xs,bA x=true:=fun x hx=>by
 obtain ⟨i,hi,rfl⟩:=List.mem_iff_getElem.1 hx;exact (hb i hi (by omega)).agg
theorem l8:(U 78).sz=5:=by simp only [go_sem]
theorem DC:(U 111).sz=4:=by simp only [go_sem]
theorem Gg:(U 9).sz≠0:=by simp only [go_sem]
theorem I4:(U 9).sz=1:=by simp only [go_sem]
theorem Hq {h:Heap} {x:AV} {c:aJ} (hb:RdC h x c) {k:Nat} {id:Txt} (hk:h k=some (.obj [.s id] 9)):ak Tryz.prog 87 [x, .ptr k 0] h fun r h' =>r= .v (.bool (geB c.id id))∧h' =h:=by
 obtain ⟨f,l,rfl,hf,hl⟩:=hb;refine ak.body hU hm Tryz.func87 rfl (by kernel_rfl) 8 rfl [.tmp 3] rfl (VZ rfl) (fun hwf=> ?_)
 simp only [go_sem];intro i1 h1;have n1:k≠i1:=fun e=>by subst e; rw [hk] at h1; cases h1
 simp only [go_sem,aj,n1,hk];exact .mk _ (.refl _) (.ai h1) ⟨rfl,rfl⟩
structure Few (s:an):Prop where
 cases:s.cases.length≤1000000
 fields:∀c∈s.cases,c.fields.length≤1000000
 log:∀c∈s.cases,c.log.length≤1000000
 reviews:s.reviews.length≤1000000
 notices:s.notices.length≤1000000
 roles:s.roles.length≤1000000
theorem gX {cs:List aJ} {id:Txt} (h:bM cs id=true):findD cs id<cs.length:=by
 unfold bM at h;split at h
 ·rename_i c hc
  exact (List.getElem?_eq_some_iff.1 hc).1
 ·cases h
theorem Ga {cs:List aJ} {id:Txt} (h:findD cs id<cs.length):bM cs id=(cs[findD cs id].id==id):=by
 unfold bM;rw [List.getElem?_eq_getElem h]
theorem Gb {cs:List aJ} {id:Txt} (h:¬findD cs id<cs.length):bM cs id=false:=by
 unfold bM;rw [List.getElem?_eq_none (by omega)]
theorem zE {h:Heap} {x:AV} {s:an} (hb:RdS h x s) (id:Txt) (hl:s.cases.length≤1000000):ak Tryz.prog 53 [x, .s id] h fun r h' =>r= .tup [.v (.int .i64 (findD s.cases id:Nat)), .v (.bool (bM s.cases id))]∧h' =h:=by
 obtain ⟨y1,y2,y3,y4,rfl,⟨xs,hc,hn,hcs⟩,h2,h3,h4⟩:=hb;cases hp:s.policy with
 |mk pid pset palg ptgt prules pkids pobls=>
 refine ak.body hU hm Tryz.func53 rfl (by kernel_rfl) 25 rfl [.tmp 4, .tmp 5] rfl (VZ rfl) (fun hwf=> ?_)
 simp only [go_sem,fB,List.cons_append,List.nil_append];intro i1 h1;simp only [go_sem];intro i2 h2;have n21:=aH h2;have n2:=aD h2;have hs:∀a b,Ab.Sub h (upd (upd h i1 a) i2 b):=fun a b=>((Sub.refl h).put h1 a).put n2 b
 simp only [go_sem,aj,n21.symm];refine (sJ y1 xs s.cases (fun c=>geB c.id id) _ [.ptr i2 0] _ (hc.sub (hs _ _)) hn (by omega) (xo.agg hn hcs) fun i a b=>Hq ((hcs i a b).sub (hs _ _)) (ah ..)).pthen ?_
 by_cases hf:findD s.cases id<s.cases.length
 ·have e1:ixD (fun c=>geB c.id id) s.cases=(findD s.cases id:Nat):=by rw [ixD]; exact if_pos hf
  have d1:decide (((findD s.cases id:Nat):Int)<0)=false:=decide_eq_false (by omega)
  rw [e1];simp only [go_sem,aj,n21.symm,d1];refine ⟨.of (by kernel_rfl), ?_⟩
  obtain ⟨f,l,ex,hfl,hlg⟩:=hcs (findD s.cases id) (by omega) hf
  refine hc.idx (e:=78) (findD s.cases id) rfl (by omega) l8 (by decide) fun p hp1=> ?_
  simp only [go_sem];refine hp1.field (f:=0) (off:=0) (t:=9) rfl Gg fun p2 hp2=> ?_
  have hld:=fun a b=>(hp2.sub (hs a b)).part (U:=U) (ty:=9) Gg (by rw [ex,I4]; exact VZ rfl)
  simp only [go_sem,hld,ex];exact .mk _ (.refl _) (hs _ _) ⟨by rw [Ga hf]; rfl,rfl⟩
 ·have e1:ixD (fun c=>geB c.id id) s.cases= -1:=by rw [ixD]; exact if_neg hf
  have e2:findD s.cases id=s.cases.length:=by
   have:findD s.cases id≤s.cases.length:=List.findIdx_le_length;omega
  have d1:decide ((-1:Int)<0)=true:=rfl;rw [e1];simp only [go_sem,aj,n21.symm,d1];simp only [go_sem,hc.len];exact .mk _ (.refl _) (hs _ _) ⟨by rw [Gb hf,e2,hn]; rfl,rfl⟩
theorem Ez:(U 54).sz=2:=by simp only [go_sem]
theorem FB (y:AV) (ds:List fQ) (r:fQ) (h:Heap) (hb:Rd h 2 y (ds.map cD)) (hl:ds.length≤1000000000):
  ak Tryz.prog 84 [y,cD r] h fun x h' =>x= .v (.int .i64 (ixD (oo r) ds))∧h' =h:=by
 refine ak.body hU hm Tryz.func84 rfl (by kernel_rfl) 19 rfl [.tmp 4] rfl (VZ rfl) (fun hwf=> ?_)
 simp only [go_sem,cD];intro i1 h1;have hs:∀a,Ab.Sub h (upd h i1 a):=fun a=>(Sub.refl h).put h1 a
 simp only [go_sem,hb.len,V0];refine .intro (fun m ρ h' =>h' =upd h i1 (some (.obj [.s r.subj, .s r.role] 54))∧∃i:Nat,i≤ds.length∧m=ds.length - i∧(∀j (hj:j<i) (h2:j<ds.length),oo r ds[j]=false)∧lk ρ 0=some y∧lk ρ 3=some (.ptr i1 0)∧lk ρ 7=some (.v (.int .i64 ds.length))∧lk ρ 8=some (.v (.int .i64 i))) ds.length ?_ ?_
 ·refine ⟨rfl,0,by omega,rfl,fun j hj=>(by omega), ?_, ?_, ?_, ?_⟩<;>simp only [go_sem]
 ·rintro m ρ h' ⟨rfl,i,hi,rfl,hc,r0,r3,r7,r8⟩
  simp only [go_sem,r7,r8];refine .intro (fun e=> ?_) (fun e=> ?_)
  ·have hlt:i<ds.length:=V7 e
   have w1:=V6 i (by omega)
   simp only [go_sem,r0,r3,r8];refine ⟨.of (by kernel_rfl), ?_⟩
   refine hb.idx (e:=54) i rfl (by simpa using hlt) Ez (by decide) fun p hp1=> ?_
   have hld:=fun a=>(hp1.sub (hs a)).all (U:=U) (ty:=54) (by simp only [go_sem]) (by rw [Ez,V1]; rfl) (by simp only [go_sem]; rw [V1]; rfl)
   cases d1:oo r ds[i]
   ·have d2:=d1
    simp only [oo] at d2;simp only [go_sem,r8,hld,V1,cD,d2,w1];refine ⟨_, ?_,rfl,i+1,by omega,rfl,fun j hj h2=> ?_, ?_, ?_, ?_, ?_⟩
    ·omega
    ·by_cases hji:j=i
     ·subst hji; exact d1
     ·exact hc j (by omega) h2
    all_goals simp only [go_sem,r0,r3,r7]
   ·have d2:=d1
    simp only [oo] at d2;simp only [go_sem,hld,V1,cD,d2];exact .mk _ (.refl _) (hs _) ⟨by rw [mo hlt d1 fun j hj=>hc j hj (by omega)]; rfl,rfl⟩
  ·have hge:i=ds.length:=by have:=V3 e; omega
   simp only [go_sem];exact .mk _ (.refl _) (hs _) ⟨by rw [iD fun j hj=>hc j (by omega) hj]; rfl,rfl⟩
theorem CV (y:AV) (ds:List fQ) (r:fQ) (h:Heap) (hb:Rd h 2 y (ds.map cD)) (hl:ds.length≤1000000000):
  ak Tryz.prog 50 [y,cD r] h fun x h' =>x= .v (.bool (uB ds r))∧h' =h:=by
 have hq:=fun H (hH:Ab.Sub h H)=>FB y ds r H (hb.sub hH) hl
 simp only [cD] at hq;refine ak.body hU hm Tryz.func50 rfl (by kernel_rfl) 9 rfl [.tmp 4] rfl (VZ rfl) (fun hwf=> ?_)
 simp only [go_sem,cD];intro i1 h1;simp only [go_sem];refine (hq _ (.ai h1)).pthen ?_;simp only [go_sem];refine .mk _ (.refl _) (.ai h1) ⟨?_,rfl⟩;simp only [ax]
 congr 2
 unfold uB ixD;split
 ·rename_i hlt
  rw [decide_eq_true (by omega)]
  exact (List.any_eq_true.2 ⟨_,V5 hlt,List.findIdx_getElem (w:=hlt)⟩).symm
 ·rename_i hge
  rw [decide_eq_false (by omega)]
  refine (List.any_eq_false.2 fun x hx=> ?_).symm
  have e:ds.findIdx (oo r)=ds.length:=by
   have:ds.findIdx (oo r)≤ds.length:=List.findIdx_le_length;omega
  have:=List.findIdx_eq_length.1 e x hx;rw [this]; simp
theorem zK {h:Heap} {x:AV} {s:an} (hb:RdS h x s) (subj role:Txt) (hl:s.roles.length≤1000000000):ak Tryz.prog 20 [x, .s subj, .s role] h fun r h' =>r= .v (.bool (uB s.roles ⟨subj,role⟩))∧h' =h:=by
 obtain ⟨y1,y2,y3,y4,rfl,hc,h2,h3,h4⟩:=hb;have hq:=fun H (hH:Ab.Sub h H)=>CV y4 s.roles ⟨subj,role⟩ H (h4.sub hH) hl
 simp only [cD] at hq;cases hp:s.policy with
 |mk pid pset palg ptgt prules pkids pobls=>
 refine ak.body hU hm Tryz.func20 rfl (by kernel_rfl) 13 rfl [.tmp 6] rfl (VZ rfl) (fun hwf=> ?_)
 simp only [go_sem,fB,List.cons_append,List.nil_append];intro i1 h1;simp only [go_sem];refine (hq _ (.ai h1)).pthen ?_;simp only [go_sem];exact .mk _ (.refl _) (.ai h1) ⟨rfl,rfl⟩
theorem E1 {h:Heap} (f:cI) {k:Nat} {name:Txt} (hk:h k=some (.obj [.s name] 9)):ak Tryz.prog 75 [bw f, .ptr k 0] h fun r h' =>r= .v (.bool (f.name==name))∧h' =h:=by
 refine ak.body hU hm Tryz.func75 rfl (by kernel_rfl) 8 rfl [.tmp 3] rfl (VZ rfl) (fun hwf=> ?_)
 simp only [go_sem,bw];intro i1 h1;have n1:k≠i1:=fun e=>by subst e; rw [hk] at h1; cases h1
 simp only [go_sem,aj,n1,hk];exact .mk _ (.refl _) (.ai h1) ⟨rfl,rfl⟩
theorem E2 {fs:List cI} {name:Txt} (h:fs.findIdx (fun f=>f.name==name)<fs.length):dZ fs name=fs[fs.findIdx fun f=>f.name==name].val:=by
 unfold dZ;rw [show fs.find? (fun f=>f.name==name)=some fs[fs.findIdx fun f=>f.name==name] from List.find?_eq_some_iff_getElem.2 ⟨List.findIdx_getElem (w:=h),_,h,rfl,fun j hj=>by simpa using List.not_of_lt_findIdx hj⟩]
theorem E3 {fs:List cI} {name:Txt} (h:¬fs.findIdx (fun f=>f.name==name)<fs.length):dZ fs name=ay:=by
 unfold dZ;have e:fs.findIdx (fun f=>f.name==name)=fs.length:=by
  have:fs.findIdx (fun f=>f.name==name)≤fs.length:=List.findIdx_le_length
  omega
 rw [List.find?_eq_none.2 fun x hx=>by simpa using List.findIdx_eq_length.1 e x hx]
theorem AR {h:Heap} {x:AV} {c:aJ} (hb:RdC h x c) (name:Txt) (hl:c.fields.length≤1000000000):ak Tryz.prog 39 [x, .s name] h fun r h' =>r=aU (dZ c.fields name)∧h' =h:=by
 obtain ⟨f,l,rfl,hf,hlg⟩:=hb;refine ak.body hU hm Tryz.func39 rfl (by kernel_rfl) 19 rfl [.cell 4 24] rfl (VZ rfl) (fun hwf=> ?_)
 simp only [go_sem];intro i1 h1;simp only [go_sem];intro i2 h2;have n21:=aH h2;have n2:=aD h2;simp only [go_sem];intro i3 h3;have n32:=aH h3;have h3' :=aD h3;have n31:=aH h3';have n3:=aD h3';have hs:∀a b d,Ab.Sub h (upd (upd (upd h i1 a) i2 b) i3 d):=fun a b d=>(((Sub.refl h).put h1 a).put n2 b).put n3 d
 simp only [go_sem,aj,n21.symm,n31.symm];refine (vR f _ c.fields (fun f=>f.name==name) _ [.ptr i2 0] _ (hf.sub (hs _ _ _)) (by simp) (by simpa using hl) (mP (fun _=>rfl) _) fun i a b=>by
  rw [V1]; exact E1 _ (by simp only [aj,n32.symm,fN,not_false_eq_true])).pthen ?_
 by_cases hx:c.fields.findIdx (fun f=>f.name==name)<c.fields.length
 ·have e1:ixD (fun f=>f.name==name) c.fields=(c.fields.findIdx (fun f=>f.name==name):Nat):=by rw [ixD]; exact if_pos hx
  have d1:decide ((0:Int)≤((c.fields.findIdx (fun f=>f.name==name):Nat):Int))=true:=decide_eq_true (by omega)
  rw [e1];simp only [go_sem,aj,n21.symm,n31.symm,d1];refine hf.idx (e:=111) (c.fields.findIdx fun f=>f.name==name) rfl (by simpa using hx) DC (by decide) fun p hp1=> ?_
  simp only [go_sem];refine hp1.field (f:=1) (off:=1) (t:=24) rfl (by simp only [go_sem]) fun p2 hp2=> ?_
  have hld:=fun a b d=>(hp2.sub (hs a b d)).part (U:=U) (ty:=24) (by simp only [go_sem]) (by rw [V1,show (U 24).sz=3 by simp only [go_sem]]; exact VZ rfl)
  simp only [go_sem,hld,V1,bw];exact .mk _ (.refl _) (by repeat' first|exact .refl _|(refine Sub.put ?_ (by assumption) _)) ⟨by rw [E2 hx]; rfl,rfl⟩
 ·have e1:ixD (fun f=>f.name==name) c.fields= -1:=by rw [ixD]; exact if_neg hx
  have d1:decide ((0:Int)≤ -1)=false:=rfl;rw [e1];simp only [go_sem,d1];exact .mk _ (.refl _) (by repeat' first|exact .refl _|(refine Sub.put ?_ (by assumption) _)) ⟨by rw [E3 hx]; rfl,rfl⟩
end Go.Proofs.YtnlbeamjpefpfaaGreatDoor
namespace Go.Ab
open Go
mutual
def cC:AV→Bool
 | .v _=>true
 | .s _=>true
 | .agg xs=>gy xs
 | .tup xs=>gy xs
 | .sl xs (.own _)=>false
 | .sl xs _=>gy xs
 | .pe x _=>cC x
 | .ifc _ x=>cC x
 |_=>false
def gy:List AV→Bool
 | []=>true
 |x::r=>cC x && gy r
end
mutual
theorem rT {F:Nat→Prop}:∀x:AV,cC x=true→Av F x
 | .v x,_=> .v x
 | .s l,_=> .s l
 | .agg xs,h=> .agg xs (oX xs (by simpa [cC] using h))
 | .tup xs,h=> .tup xs (oX xs (by simpa [cC] using h))
 | .sl xs .no,h=> .sl xs .no (oX xs (by simpa [cC] using h)) fun _ e=>by cases e
 | .sl xs .full,h=> .sl xs .full (oX xs (by simpa [cC] using h)) fun _ e=>by cases e
 | .sl xs (.own _),h=>by simp [cC] at h
 | .pe x o,h=> .pe x o (rT x (by simpa [cC] using h))
 | .ptr i o,h=>by simp [cC] at h
 | .oa i o l,h=>by simp [cC] at h
 | .ifc t x,h=> .ifc t x (rT x (by simpa [cC] using h))
 | .fn f c,h=>by simp [cC] at h
 | .mp i,h=>by simp [cC] at h
 | .ob i o l c z,h=>by simp [cC] at h
theorem oX {F:Nat→Prop}:∀xs:List AV,gy xs=true→∀x∈xs,Av F x
 | [],_,x,hx=>by cases hx
 |y::r,h,x,hx=>by
  simp only [gy,Bool.and_eq_true] at h;rcases List.mem_cons.1 hx with e|e
  ·rw [e]; exact rT y h.1
  ·exact oX r h.2 x e
end
theorem bn {α:Type} {f:α→AV} (hf:∀a,cC (f a)=true):∀l:List α,gy (l.map f)=true
 | []=>rfl
 |a::r=>by simp [gy,hf a,bn hf r]
theorem yI {xs:List AV} (h:gy xs=true):∀x∈xs,cC x=true:=by
 induction xs with
 |nil=>intro x hx; cases hx
 |cons y r ih=>
  simp only [gy,Bool.and_eq_true] at h;intro x hx;rcases List.mem_cons.1 hx with e|e
  ·rw [e]; exact h.1
  ·exact ih h.2 x e
theorem lX {x:AV} (h:cC x=true):∀c∈x.cells,cC c=true:=by
 cases x with
 |agg cs=>exact yI (show gy cs=true by simpa [cC] using h)
 |_=>intro c hc; rw [List.mem_singleton.1 hc]; exact h
theorem Frz.pure {g h:Heap} {x:AV} (hx:cC x=true):Frz g h x x:= .keep x (rT x hx)
theorem Ow.frz {g h:Heap} {tb:TypeId} {sz id:Nat} {y:AV} {xs ys:List AV} (hw:Ow tb h sz id y xs) (hg:g id=Option.none) (hn:xs.length=ys.length) (hz:∀i (h1:i<xs.length) (h2:i<ys.length),xs[i].cells.length=ys[i].cells.length)
  (hr:∀i (h1:i<xs.length) (h2:i<ys.length) j (h3:j<xs[i].cells.length) (h4:j<ys[i].cells.length),Frz g h xs[i].cells[j] ys[i].cells[j]):Frz g h y (.sl ys .no):=by
 obtain ⟨cap,rest,rfl,h1,h2,h3,h4⟩:=hw;have hl:=aW h4;refine .ob id 0 _ cap sz _ tb ys hg h1 (by rw [V4]; omega) hn.symm (fun i hi=>by rw [←hz i (by omega) hi]; exact h4 _ (V5 _)) fun i hi j hj hb=> ?_
 have hj' :j<sz:=by rw [←h4 xs[i] (V5 _),hz i (by omega) hi]; exact hj
 have hbd:i*sz+j<xs.length*sz:=by
  have:(i+1)*sz≤xs.length*sz:=Nat.mul_le_mul_right _ (by omega)
  rw [Nat.add_mul,Nat.one_mul] at this;omega
 have hjx:j<xs[i].cells.length:=by rw [hz i (by omega) hi]; exact hj
 have e:(aq xs++rest)[0+(i*sz+j)]? =some (xs[i].cells[j]):=by
  rw [Nat.zero_add,List.getElem?_append_left (by omega),sC h4 (by omega) hj',List.getElem?_eq_getElem hjx]
 rw [List.getElem?_eq_getElem hb,Option.some.injEq] at e;rw [e];exact hr i (by omega) hi j hjx hj
theorem OwE.frz {g h:Heap} {tb:TypeId} {sz:Nat} {y:AV} {xs:List AV} (hw:OwE tb g h sz y xs) (hp:gy xs=true):Frz g h y (.sl xs .no):=by
 rcases hw with ⟨rfl,rfl⟩|⟨id,hg,hw⟩
 ·exact .sl [] [] .full rfl (fun i h1=>by cases h1) (fun i h1=>by cases h1)
 ·exact hw.frz hg rfl (fun _ _ _=>rfl) fun i h1 h2 j h3 h4=> .pure (lX (yI hp _ (V5 h1)) _ (V5 h3))
theorem OwE.kq {U:TypeId→TI} {h:Heap} {sz:Nat} {tb:TypeId} {xs:List AV} {Q:AV→Heap→Prop} (hz:(U tb).sz=sz) (hf:Ab.fit (U tb).zero sz) (hb:Sized sz xs) (hk:∀y' h',OwE tb h h' sz y' xs→Sub h h'→Q y' h'):qp U h [] xs tb Q:=by
 subst hz;refine ⟨fun hn=> ?_,fun hn=> ?_⟩
 ·subst hn
  exact hk _ _ (.inl ⟨rfl,rfl⟩) (.refl _)
 ·refine .ob hf (jy.ow hb (by simp [aq]) (by simp) fun id y' h' hid hw ho=> ?_)
  exact hk _ _ (.inr ⟨id,hid,hw⟩) fun j b hj=>by rw [ho j (fun e=>by subst e; rw [hid] at hj; cases hj)]; exact hj
theorem Rd.nil {h:Heap} {sz:Nat} {y:AV} {xs:List AV} {e:TypeId} {Q:AV→Heap→Prop} (hb:Rd h sz y xs) (hk:∀b:Bool,(xs≠ []→b=false)→Q (.v (.bool b)) h):Pq h .eql y Q (.slice e):=by
 obtain ⟨_,⟨q,rfl⟩|⟨id,off,cap,cs,t,rfl,_⟩⟩:=hb
 ·exact hk
 ·exact hk false fun _=>rfl
def nid:AV→Option Nat
 | .ob id _ _ _ _=>some id
 |_=>none
theorem OwE.nid {tb:TypeId} {h0 h:Heap} {sz:Nat} {y:AV} {xs:List AV} (hw:OwE tb h0 h sz y xs) {id:Nat} (e:Ab.nid y=some id):h0 id=Option.none∧h id≠Option.none∧Ow tb h sz id y xs:=by
 rcases hw with ⟨rfl,rfl⟩|⟨id',h1,hw⟩
 ·cases e
 ·obtain ⟨cap,rest,rfl,h2,h3⟩:=hw
  cases e;exact ⟨h1,by rw [h2]; simp,cap,rest,rfl,h2,h3⟩
theorem Ow.nid {tb:TypeId} {h:Heap} {sz id:Nat} {y:AV} {xs:List AV} (hw:Ow tb h sz id y xs):Ab.nid y=some id:=by
 obtain ⟨cap,rest,rfl,h2,h3⟩:=hw;rfl
theorem OwE.keep {tb:TypeId} {h0 h h' :Heap} {sz:Nat} {y:AV} {xs:List AV} (hw:OwE tb h0 h sz y xs) (hs:∀id,Ab.nid y=some id→h' id=h id):OwE tb h0 h' sz y xs:=by
 rcases hw with hw|⟨id,h1,hw⟩
 ·exact .inl hw
 ·exact .inr ⟨id,h1,hw.same (hs id hw.nid)⟩
theorem OwE.less {tb:TypeId} {h0 h1 h:Heap} {sz:Nat} {y:AV} {xs:List AV} (hw:OwE tb h1 h sz y xs) (hs:Sub h0 h1):OwE tb h0 h sz y xs:=by
 rcases hw with hw|⟨id,a,hw⟩
 ·exact .inl hw
 ·exact .inr ⟨id,hs.none a,hw⟩
end Go.Ab
namespace Go.Proofs.YtnlbeamjpefpfaaGreatDoor
open Go Go.Ab Go.Bf
theorem xY (y:AV) (xs:List AV) (h:Heap) (hb:Rd h 5 y xs) (hl:xs.length≤1000000):ak Tryz.prog 66 [y] h fun r h' =>OwE 78 h h' 5 r xs∧Ab.Sub h h' :=by
 refine ak.body hU hm Tryz.func66 rfl (by kernel_rfl) 8 rfl [.tmp 2] rfl (VZ rfl) (fun hwf=> ?_)
 simp only [go_sem];refine hb.nil fun b hxs=> ?_
 cases b
 ·simp only [go_sem]
  refine hb.src (U:=U) (e:=78) (by simp only [go_sem]) ⟨hb.1,by omega,OwE.kq (U:=U) (sz:=5) (by simp only [go_sem]) (by simp only [go_sem]) hb.1 fun y' h' hw hs=> ?_⟩
  simp only [go_sem];exact .same (.refl _) ⟨hw,hs⟩
 ·have hx:xs= []:=by
   by_cases hx:xs= []
   ·exact hx
   ·cases hxs hx
  simp only [go_sem];exact .same (.refl _) ⟨.inl ⟨hx,rfl⟩, .refl _⟩
theorem tH (y:AV) (xs:List AV) (h:Heap) (hb:Rd h 7 y xs) (hl:xs.length≤1000000):ak Tryz.prog 64 [y] h fun r h' =>OwE 71 h h' 7 r xs∧Ab.Sub h h' :=by
 refine ak.body hU hm Tryz.func64 rfl (by kernel_rfl) 8 rfl [.tmp 2] rfl (VZ rfl) (fun hwf=> ?_)
 simp only [go_sem];refine hb.nil fun b hxs=> ?_
 cases b
 ·simp only [go_sem]
  refine hb.src (U:=U) (e:=71) (by simp only [go_sem]) ⟨hb.1,by omega,OwE.kq (U:=U) (sz:=7) (by simp only [go_sem]) (by simp only [go_sem]) hb.1 fun y' h' hw hs=> ?_⟩
  simp only [go_sem];exact .same (.refl _) ⟨hw,hs⟩
 ·have hx:xs= []:=by
   by_cases hx:xs= []
   ·exact hx
   ·cases hxs hx
  simp only [go_sem];exact .same (.refl _) ⟨.inl ⟨hx,rfl⟩, .refl _⟩
theorem tG (y:AV) (xs:List AV) (h:Heap) (hb:Rd h 3 y xs) (hl:xs.length≤1000000):ak Tryz.prog 65 [y] h fun r h' =>OwE 84 h h' 3 r xs∧Ab.Sub h h' :=by
 refine ak.body hU hm Tryz.func65 rfl (by kernel_rfl) 8 rfl [.tmp 2] rfl (VZ rfl) (fun hwf=> ?_)
 simp only [go_sem];refine hb.nil fun b hxs=> ?_
 cases b
 ·simp only [go_sem]
  refine hb.src (U:=U) (e:=84) (by simp only [go_sem]) ⟨hb.1,by omega,OwE.kq (U:=U) (sz:=3) (by simp only [go_sem]) (by simp only [go_sem]) hb.1 fun y' h' hw hs=> ?_⟩
  simp only [go_sem];exact .same (.refl _) ⟨hw,hs⟩
 ·have hx:xs= []:=by
   by_cases hx:xs= []
   ·exact hx
   ·cases hxs hx
  simp only [go_sem];exact .same (.refl _) ⟨.inl ⟨hx,rfl⟩, .refl _⟩
theorem ES (y:AV) (xs:List AV) (h:Heap) (hb:Rd h 2 y xs) (hl:xs.length≤1000000):ak Tryz.prog 104 [y] h fun r h' =>OwE 54 h h' 2 r xs∧Ab.Sub h h' :=by
 refine ak.body hU hm Tryz.func104 rfl (by kernel_rfl) 8 rfl [.tmp 2] rfl (VZ rfl) (fun hwf=> ?_)
 simp only [go_sem];refine hb.nil fun b hxs=> ?_
 cases b
 ·simp only [go_sem]
  refine hb.src (U:=U) (e:=54) (by simp only [go_sem]) ⟨hb.1,by omega,OwE.kq (U:=U) (sz:=2) (by simp only [go_sem]) (by simp only [go_sem]) hb.1 fun y' h' hw hs=> ?_⟩
  simp only [go_sem];exact .same (.refl _) ⟨hw,hs⟩
 ·have hx:xs= []:=by
   by_cases hx:xs= []
   ·exact hx
   ·cases hxs hx
  simp only [go_sem];exact .same (.refl _) ⟨.inl ⟨hx,rfl⟩, .refl _⟩
theorem Cs (y:AV) (xs:List AV) (h:Heap) (hb:Rd h 4 y xs) (hl:xs.length≤1000000):ak Tryz.prog 88 [y] h fun r h' =>OwE 111 h h' 4 r xs∧Ab.Sub h h' :=by
 refine ak.body hU hm Tryz.func88 rfl (by kernel_rfl) 8 rfl [.tmp 2] rfl (VZ rfl) (fun hwf=> ?_)
 simp only [go_sem];refine hb.nil fun b hxs=> ?_
 cases b
 ·simp only [go_sem]
  refine hb.src (U:=U) (e:=111) (by simp only [go_sem]) ⟨hb.1,by omega,OwE.kq (U:=U) (sz:=4) (by simp only [go_sem]) (by simp only [go_sem]) hb.1 fun y' h' hw hs=> ?_⟩
  simp only [go_sem];exact .same (.refl _) ⟨hw,hs⟩
 ·have hx:xs= []:=by
   by_cases hx:xs= []
   ·exact hx
   ·cases hxs hx
  simp only [go_sem];exact .same (.refl _) ⟨.inl ⟨hx,rfl⟩, .refl _⟩
theorem og (y:AV) (xs:List AV) (h:Heap) (hb:Rd h 3 y xs) (hl:xs.length≤1000000):ak Tryz.prog 67 [y] h fun r h' =>OwE 82 h h' 3 r xs∧Ab.Sub h h' :=by
 refine ak.body hU hm Tryz.func67 rfl (by kernel_rfl) 8 rfl [.tmp 2] rfl (VZ rfl) (fun hwf=> ?_)
 simp only [go_sem];refine hb.nil fun b hxs=> ?_
 cases b
 ·simp only [go_sem]
  refine hb.src (U:=U) (e:=82) (by simp only [go_sem]) ⟨hb.1,by omega,OwE.kq (U:=U) (sz:=3) (by simp only [go_sem]) (by simp only [go_sem]) hb.1 fun y' h' hw hs=> ?_⟩
  simp only [go_sem];exact .same (.refl _) ⟨hw,hs⟩
 ·have hx:xs= []:=by
   by_cases hx:xs= []
   ·exact hx
   ·cases hxs hx
  simp only [go_sem];exact .same (.refl _) ⟨.inl ⟨hx,rfl⟩, .refl _⟩
theorem uA (y:AV) (xs:List AV) (h:Heap) (hb:Rd h 3 y xs) (hl:xs.length≤1000000) (hp:gy xs=true):ak Tryz.prog 67 [y] h fun r h' =>r= .sl xs .no∧h' =h:=
 ak.freeze fun g hg _=>(og y xs g (hb.sub hg) hl).mono fun r h' ⟨h1,h2⟩=>⟨h2,_,h1.frz hp,rfl⟩
theorem GU (y:AV) (xs:List AV) (h:Heap) (hb:Rd h 3 y xs) (hl:xs.length≤1000000):ak Tryz.prog 138 [y] h fun r h' =>OwE 64 h h' 3 r xs∧Ab.Sub h h' :=by
 refine ak.body hU hm Tryz.func138 rfl (by kernel_rfl) 8 rfl [.tmp 2] rfl (VZ rfl) (fun hwf=> ?_)
 simp only [go_sem];refine hb.nil fun b hxs=> ?_
 cases b
 ·simp only [go_sem]
  refine hb.src (U:=U) (e:=64) (by simp only [go_sem]) ⟨hb.1,by omega,OwE.kq (U:=U) (sz:=3) (by simp only [go_sem]) (by simp only [go_sem]) hb.1 fun y' h' hw hs=> ?_⟩
  simp only [go_sem];exact .same (.refl _) ⟨hw,hs⟩
 ·have hx:xs= []:=by
   by_cases hx:xs= []
   ·exact hx
   ·cases hxs hx
  simp only [go_sem];exact .same (.refl _) ⟨.inl ⟨hx,rfl⟩, .refl _⟩
theorem xZ (y:AV) (xs:List AV) (h:Heap) (hb:Rd h 3 y xs) (hl:xs.length≤1000000) (hp:gy xs=true):ak Tryz.prog 138 [y] h fun r h' =>r= .sl xs .no∧h' =h:=
 ak.freeze fun g hg _=>(GU y xs g (hb.sub hg) hl).mono fun r h' ⟨h1,h2⟩=>⟨h2,_,h1.frz hp,rfl⟩
theorem ET (y:AV) (xs:List AV) (h:Heap) (hb:Rd h 5 y xs) (hl:xs.length≤1000000):ak Tryz.prog 139 [y] h fun r h' =>OwE 164 h h' 5 r xs∧Ab.Sub h h' :=by
 refine ak.body hU hm Tryz.func139 rfl (by kernel_rfl) 8 rfl [.tmp 2] rfl (VZ rfl) (fun hwf=> ?_)
 simp only [go_sem];refine hb.nil fun b hxs=> ?_
 cases b
 ·simp only [go_sem]
  refine hb.src (U:=U) (e:=164) (by simp only [go_sem]) ⟨hb.1,by omega,OwE.kq (U:=U) (sz:=5) (by simp only [go_sem]) (by simp only [go_sem]) hb.1 fun y' h' hw hs=> ?_⟩
  simp only [go_sem];exact .same (.refl _) ⟨hw,hs⟩
 ·have hx:xs= []:=by
   by_cases hx:xs= []
   ·exact hx
   ·cases hxs hx
  simp only [go_sem];exact .same (.refl _) ⟨.inl ⟨hx,rfl⟩, .refl _⟩
theorem Ax (y:AV) (xs:List AV) (h:Heap) (hb:Rd h 7 y xs) (hl:xs.length≤1000000):ak Tryz.prog 140 [y] h fun r h' =>OwE 37 h h' 7 r xs∧Ab.Sub h h' :=by
 refine ak.body hU hm Tryz.func140 rfl (by kernel_rfl) 8 rfl [.tmp 2] rfl (VZ rfl) (fun hwf=> ?_)
 simp only [go_sem];refine hb.nil fun b hxs=> ?_
 cases b
 ·simp only [go_sem]
  refine hb.src (U:=U) (e:=37) (by simp only [go_sem]) ⟨hb.1,by omega,OwE.kq (U:=U) (sz:=7) (by simp only [go_sem]) (by simp only [go_sem]) hb.1 fun y' h' hw hs=> ?_⟩
  simp only [go_sem];exact .same (.refl _) ⟨hw,hs⟩
 ·have hx:xs= []:=by
   by_cases hx:xs= []
   ·exact hx
   ·cases hxs hx
  simp only [go_sem];exact .same (.refl _) ⟨.inl ⟨hx,rfl⟩, .refl _⟩
theorem ER (y:AV) (xs:List AV) (h:Heap) (hb:Rd h 7 y xs) (hl:xs.length≤1000000):ak Tryz.prog 141 [y] h fun r h' =>OwE 226 h h' 7 r xs∧Ab.Sub h h' :=by
 refine ak.body hU hm Tryz.func141 rfl (by kernel_rfl) 8 rfl [.tmp 2] rfl (VZ rfl) (fun hwf=> ?_)
 simp only [go_sem];refine hb.nil fun b hxs=> ?_
 cases b
 ·simp only [go_sem]
  refine hb.src (U:=U) (e:=226) (by simp only [go_sem]) ⟨hb.1,by omega,OwE.kq (U:=U) (sz:=7) (by simp only [go_sem]) (by simp only [go_sem]) hb.1 fun y' h' hw hs=> ?_⟩
  simp only [go_sem];exact .same (.refl _) ⟨hw,hs⟩
 ·have hx:xs= []:=by
   by_cases hx:xs= []
   ·exact hx
   ·cases hxs hx
  simp only [go_sem];exact .same (.refl _) ⟨.inl ⟨hx,rfl⟩, .refl _⟩
theorem Cv (y:AV) (xs:List AV) (h:Heap) (hb:Rd h 7 y xs) (hl:xs.length≤1000000) (hp:gy xs=true):ak Tryz.prog 141 [y] h fun r h' =>r= .sl xs .no∧h' =h:=
 ak.freeze fun g hg _=>(ER y xs g (hb.sub hg) hl).mono fun r h' ⟨h1,h2⟩=>⟨h2,_,h1.frz hp,rfl⟩
theorem Ct (y:AV) (xs:List AV) (h:Heap) (hb:Rd h 7 y xs) (hl:xs.length≤1000000):ak Tryz.prog 169 [y] h fun r h' =>OwE 216 h h' 7 r xs∧Ab.Sub h h' :=by
 refine ak.body hU hm Tryz.func169 rfl (by kernel_rfl) 8 rfl [.tmp 2] rfl (VZ rfl) (fun hwf=> ?_)
 simp only [go_sem];refine hb.nil fun b hxs=> ?_
 cases b
 ·simp only [go_sem]
  refine hb.src (U:=U) (e:=216) (by simp only [go_sem]) ⟨hb.1,by omega,OwE.kq (U:=U) (sz:=7) (by simp only [go_sem]) (by simp only [go_sem]) hb.1 fun y' h' hw hs=> ?_⟩
  simp only [go_sem];exact .same (.refl _) ⟨hw,hs⟩
 ·have hx:xs= []:=by
   by_cases hx:xs= []
   ·exact hx
   ·cases hxs hx
  simp only [go_sem];exact .same (.refl _) ⟨.inl ⟨hx,rfl⟩, .refl _⟩
theorem Az (y:AV) (xs:List AV) (h:Heap) (hb:Rd h 7 y xs) (hl:xs.length≤1000000) (hp:gy xs=true):ak Tryz.prog 169 [y] h fun r h' =>r= .sl xs .no∧h' =h:=
 ak.freeze fun g hg _=>(Ct y xs g (hb.sub hg) hl).mono fun r h' ⟨h1,h2⟩=>⟨h2,_,h1.frz hp,rfl⟩
theorem Cu (y:AV) (xs:List AV) (h:Heap) (hb:Rd h 3 y xs) (hl:xs.length≤1000000):ak Tryz.prog 191 [y] h fun r h' =>OwE 24 h h' 3 r xs∧Ab.Sub h h' :=by
 refine ak.body hU hm Tryz.func191 rfl (by kernel_rfl) 8 rfl [.tmp 2] rfl (VZ rfl) (fun hwf=> ?_)
 simp only [go_sem];refine hb.nil fun b hxs=> ?_
 cases b
 ·simp only [go_sem]
  refine hb.src (U:=U) (e:=24) (by simp only [go_sem]) ⟨hb.1,by omega,OwE.kq (U:=U) (sz:=3) (by simp only [go_sem]) (by simp only [go_sem]) hb.1 fun y' h' hw hs=> ?_⟩
  simp only [go_sem];exact .same (.refl _) ⟨hw,hs⟩
 ·have hx:xs= []:=by
   by_cases hx:xs= []
   ·exact hx
   ·cases hxs hx
  simp only [go_sem];exact .same (.refl _) ⟨.inl ⟨hx,rfl⟩, .refl _⟩
theorem AA (y:AV) (xs:List AV) (h:Heap) (hb:Rd h 3 y xs) (hl:xs.length≤1000000) (hp:gy xs=true):ak Tryz.prog 191 [y] h fun r h' =>r= .sl xs .no∧h' =h:=
 ak.freeze fun g hg _=>(Cu y xs g (hb.sub hg) hl).mono fun r h' ⟨h1,h2⟩=>⟨h2,_,h1.frz hp,rfl⟩
def Lt (h0 h:Heap) (x:AV) (c:aJ):Prop:=∃f l,x= .agg [.s c.id, .s c.owner, .s c.state,f,l]∧OwE 111 h0 h 4 f (c.fields.map bw)∧OwE 82 h0 h 3 l (c.log.map fF)∧∀i,nid f=some i→nid l≠some i
theorem cF {h:Heap} {i j:Nat} {b:Blk} (h1:h i=none) (h2:h j=some b):i≠j:=fun e=>by subst e; rw [h2] at h1; cases h1
theorem wC {h:Heap} {x:AV} {c:aJ} (hb:RdC h x c) (hl:c.fields.length≤1000000) (hl2:c.log.length≤1000000):ak Tryz.prog 54 [x] h fun r h' =>Lt h h' r c∧Ab.Sub h h' :=by
 obtain ⟨f,l,rfl,hf,hlg⟩:=hb;refine ak.body hU hm Tryz.func54 rfl (by kernel_rfl) 12 rfl [.cell 2 78] rfl (VZ rfl) (fun hwf=> ?_)
 simp only [go_sem];intro i1 h1;simp only [go_sem];intro i2 h2;have n21:=aH h2;have n2:=aD h2;simp only [go_sem];obtain ⟨H,eH⟩:∃H,upd (upd h i1 (some (.obj [.s c.id, .s c.owner, .s c.state,f,l] 78))) i2 (some (.obj [.s [], .s [], .s [], .sl [] .full, .sl [] .full] 78))=H:=⟨_,rfl⟩;have hH:Ab.Sub h H:=by rw [←eH]; exact ((Sub.refl h).put h1 _).put n2 _
 have g1:H i1=some (.obj [.s c.id, .s c.owner, .s c.state,f,l] 78):=by rw [←eH,ag _ _ n21.symm,ah]
 have g2:H i2=some (.obj [.s [], .s [], .s [], .sl [] .full, .sl [] .full] 78):=by rw [←eH,ah]
 rw [eH];refine .stage (hm1 i1 _) [0,1,3,4,2,6,5] [7,8,9] (.hm1 g1) (by kernel_rfl) ?_
 simp only [go_sem,fJ];refine (Cs f _ H (hf.sub hH) (by simpa using hl)).mono fun f' H1 ⟨hf',s1⟩=> ?_
 refine ⟨.hm1 (s1 _ _ g1), ?_⟩;simp only [go_sem];refine (og l _ H1 ((hlg.sub hH).sub s1) (by simpa using hl2)).mono fun l' H2 ⟨hl',s2⟩=> ?_
 refine ⟨.hm1 (s2 _ _ (s1 _ _ g1)),cN,(fun _ _ e=>by cases e), ?_⟩
 have g1' :=s2 _ _ (s1 _ _ g1);have g2' :=s2 _ _ (s1 _ _ g2);simp only [go_sem,g1',hf'.rd.fit,hf'.rd.cells,hl'.rd.fit,hl'.rd.cells];have n1:∀b,upd H2 i1 b i2=some (.obj [.s [], .s [], .s [], .sl [] .full, .sl [] .full] 78):=fun b=>by rw [ag _ _ n21]; exact g2'
 refine ⟨fun _ _ e=>(by cases e),fun _ _ e=>(by cases e), ?_⟩
 simp only [go_sem,n1];have hid:∀ {y:AV} {xs:List AV} {G:Heap} {tb:TypeId} {z:Nat},Ab.Sub H G→OwE tb G H2 z y xs→∀a b,OwE tb h (upd (upd H2 i1 a) i2 b) z y xs:=fun hG hw a b=>(hw.less (hH.trans hG)).keep fun id e=>by
  have h0:=hG.none (hw.nid e).1;rw [ag _ _ (cF h0 g2),ag _ _ (cF h0 g1)]
 refine .mk _ (.refl _) (.refl _) ⟨⟨f',l',rfl,hid (.refl _) (hf'.sub s2) _ _,hid s1 hl' _ _,fun i ef el=> ?_⟩,((hH.trans (s1.trans s2)).put h1 _).put n2 _⟩
 exact (hf'.nid ef).2.1 ((hl'.nid el).1)
theorem uc {h:Heap} {x:AV} {c:aJ} (hb:RdC h x c) (hl:c.fields.length≤1000000) (hl2:c.log.length≤1000000):ak Tryz.prog 54 [x] h fun r h' =>r=bJ c∧h' =h:=
 ak.freeze fun g hg _=>(wC (hb.sub hg) hl hl2).mono fun r h' ⟨⟨f,l,e,hf,hlg,_⟩,h2⟩=>⟨h2,bJ c,by
  subst e;refine .agg _ _ rfl fun i h1 h2=> ?_
  rcases i with _|_|_|_|_|i
  ·exact .pure rfl
  ·exact .pure rfl
  ·exact .pure rfl
  ·exact hf.frz (bn (fun _=>rfl) _)
  ·exact hlg.frz (bn (fun _=>rfl) _)
  ·simp at h1; omega,rfl⟩
theorem Iw (l:List bN):gy (l.map dD)=true:=bn (fun _=>rfl) l
theorem M0:(U 191).sz=1:=by simp only [go_sem]
theorem M1:(U 190).sz=1:=by simp only [go_sem]
theorem rL (t:fP) (ht:j9 t=0) (h:Heap):ak Tryz.prog 137 [aT t] h fun r h' =>r=aT t∧h' =h:=by
 obtain ⟨hl,he⟩:=yU ht;refine ak.body hU hm Tryz.func137 rfl (by kernel_rfl) 33 rfl [.tmp 2] rfl (VZ rfl) (fun hwf=> ?_)
 simp only [go_sem,aT,V0];refine .intro (fun m ρ h' =>∃(i:Nat) (y:AV) (ys:List AV),Acc U 190 h h' y ys∧ys.length=i∧(∀j (h1:j<ys.length) (h2:j<t.length),∃q,ys[j]= .sl (t[j].map gR) q)∧i≤t.length∧m=t.length - i∧lk ρ 3=some y∧lk ρ 9=some (.sl (t.map cH) .no)∧lk ρ 10=some (.v (.int .i64 t.length))∧lk ρ 11=some (.v (.int .i64 i))) t.length ?_ ?_
 ·refine ⟨0,_,[], .full (.refl _),rfl,fun j h1=>(by cases h1),by omega,rfl, ?_, ?_, ?_, ?_⟩<;>simp only [go_sem]
 ·rintro m ρ h' ⟨i,y,ys,hy,hn,hys,hi,rfl,r3,r9,r10,r11⟩
  simp only [go_sem,r10,r11];refine .intro (fun e=> ?_) (fun e=> ?_)
  ·have hlt:i<t.length:=V7 e
   have w1:=V6 i (by omega)
   obtain ⟨ha0,hal,hae⟩:=xW (he _ (V5 hlt));simp only [go_sem,r9,r11];refine .at i (by simpa using hlt) (by rw [V1]; rfl) ?_
   simp only [go_sem,V1,cH,V0];refine .intro (fun m ρ H=>∃(j:Nat) (z:AV) (zs:List AV),Acc U 191 h' H z zs∧zs=(t[i].take j).map gR∧j≤t[i].length∧m=t[i].length - j∧lk ρ 3=some y∧lk ρ 9=some (.sl (t.map cH) .no)∧lk ρ 10=some (.v (.int .i64 t.length))∧lk ρ 11=some (.v (.int .i64 i))∧lk ρ 6=some z∧lk ρ 15=some (.sl (t[i].map gR) .no)∧lk ρ 16=some (.v (.int .i64 t[i].length))∧lk ρ 17=some (.v (.int .i64 j))) t[i].length ?_ ?_
   ·refine ⟨0,_,[], .full (.refl _),rfl,by omega,rfl, ?_, ?_, ?_, ?_, ?_, ?_, ?_, ?_⟩<;>simp only [go_sem,r3,r9,r10,r11]
   ·rintro m ρ H ⟨j,z,zs,hz,rfl,hj,rfl,r3,r9,r10,r11,r6,r15,r16,r17⟩
    simp only [go_sem,r16,r17];refine .intro (fun e=> ?_) (fun e=> ?_)
    ·have hlt2:j<t[i].length:=V7 e
     have w2:=V6 j (by omega)
     have hml:=(xV (hae _ (V5 hlt2))).2.1;simp only [go_sem,r15,r17];refine .at j (by simpa using hlt2) (by rw [V1]; rfl) ?_
     simp only [go_sem,r6,V1,gR];refine (Az _ (t[i][j].map dD) _ (eC dD 7 (fun _=>rfl) _ _) (by simp; omega) (Iw _)).pthen ?_
     simp only [go_sem];refine hz.app (zs:= [gR t[i][j]]) (by rw [M0]; decide) (by simp only [go_sem,ne_eq,not_false_eq_true]) (fun k hk=>hk) (by rw [M0]; exact bl (f:=gR) (fun _=>rfl) _) (by rw [M0]; exact bl (f:=gR) (fun _=>rfl) [t[i][j]]) (by simp only [go_sem,V0,List.length_cons,List.length_nil,List.length_take]; omega) fun z' H' hz' _=> ?_
     simp only [go_sem,r17,w2];refine ⟨_, ?_,j+1,z',_,hz', ?_,by omega,rfl, ?_, ?_, ?_, ?_, ?_, ?_, ?_, ?_⟩
     ·omega
     ·rw [List.take_succ_eq_append_getElem hlt2,List.map_append]; rfl
     all_goals simp only [go_sem,r3,r9,r10,r11,r15,r16]
    ·have hge:j=t[i].length:=by have:=V3 e; omega
     subst hge;rw [List.take_length] at hz;have hyH:=hy.sub hz.1;obtain ⟨q,rfl⟩:=hz.row;simp only [go_sem,r3,r6];refine hyH.app (zs:= [.sl (t[i].map gR) q]) (by rw [M1]; decide) (by simp only [go_sem,ne_eq,not_false_eq_true]) (fun k hk=>hk) (by rw [M1]; intro w hw; obtain ⟨k,hk,rfl⟩:=List.mem_iff_getElem.1 hw; obtain ⟨q',e'⟩:=hys k hk (by omega); rw [e']; rfl) (by rw [M1]; intro w hw; rw [List.mem_singleton.1 hw]; rfl) (by simp only [go_sem,hn,List.length_cons,List.length_nil]; omega) fun y' H' hy' _=> ?_
     simp only [go_sem,r11,w1];refine ⟨_, ?_,i+1,y',_,hy',by simp [hn],fun k h1 h2=> ?_,by omega,rfl, ?_, ?_, ?_, ?_⟩
     ·omega
     ·by_cases hk:k<ys.length
      ·rw [List.getElem_append_left hk]; exact hys k hk h2
      ·have:k=i:=by simp at h1; omega
       subst this;exact ⟨q,by rw [List.getElem_append_right (by omega)]; simp [hn]⟩
     all_goals simp only [go_sem,r9,r10]
  ·have hge:i=t.length:=by have:=V3 e; omega
   simp only [go_sem,r3];obtain ⟨q,rfl⟩:=hy.row;refine .mk (aT t) ?_ hy.1 ⟨rfl,rfl⟩;refine .deep _ _ q (by simp; omega) (fun k h1 h2=> ?_) fun k h1 h2 j h3 h4=> ?_
   ·obtain ⟨q',e'⟩:=hys k h1 (by omega)
    rw [e',V1]; rfl
   ·obtain ⟨q',e'⟩:=hys k h1 (by omega)
    simp only [e',AV.cells,List.length_singleton] at h3;obtain rfl:j=0:=by omega
    simp only [e',V1,cH,AV.cells,List.getElem_singleton];exact .sl _ _
theorem wK (t:fP):cC (aT t)=true:=by
 simp only [aT,cC];refine bn (fun a=> ?_) t
 simp only [cH,cC];refine bn (fun b=> ?_) a
 simp only [gR,cC];exact bn (fun _=>rfl) b
theorem FU (l:List aO):cC (eV l)=true:=by simp only [eV,cC]; exact bn (fun _=>rfl) l
theorem sX (l:List cw):cC (au l)=true:=by simp only [au,cC]; exact bn (fun _=>rfl) l
theorem yJ (r:cO):cC (aB r)=true:=by simp [aB,cC,gy,wK,FU,sX]
mutual
theorem BK:∀p:bG,cC (aK p)=true
 | .mk id set alg tgt rules kids obls=>by simp [aK,cC,gy,wK,sX,bn yJ rules,sW kids]
theorem sW:∀l:List bG,gy (fh l)=true
 | []=>rfl
 |k::r=>by simp [fh,gy,BK k,sW r]
end
theorem iM (p:bG):(aK p).cells.length=7:=by cases p; simp [aK,AV.cells]
theorem JG {l:List aO} (h:jw l=0):l.length≤32:=by
 by_cases hn:l= []
 ·subst hn; simp
 ·exact (vD h hn).1
theorem Eg {l:List cw} (h:gH l=0):l.length≤8:=(jG h).1
theorem tg {H:Heap} {i:Nat} {x:Option Blk} (h:H i=x):upd H i x=H:=by
 funext j
 by_cases e:j=i
 ·rw [e,ah,h]
 ·rw [ag _ _ e]
theorem kD {tb:TypeId} {h:Heap} {sz id i:Nat} {y:AV} {xs cs:List AV} {t:TypeId} (hw:Ow tb h sz id y xs) (hi:h i=some (.obj cs t)) (ht:t≠tb):id≠i:=by
 obtain ⟨cap,rest,rfl,h1,_⟩:=hw;intro e;rw [e,hi] at h1;injection h1 with h1
 injection h1 with _ h1
 exact ht h1
theorem j5 {sz:Nat} {xs:List AV} (hs:Sized sz xs) (j:Nat) (hj:j<xs.length) (o:Nat) (c:List AV) (ho:o+c.length≤sz) {rest:List AV}:
  (aq xs++rest).take (j*sz+o)++c++(aq xs++rest).drop (j*sz+o+c.length)=aq (xs.set j (.agg (Ab.over xs[j].cells o c)))++rest:=by
 have hl:=aW hs;have hb:(j+1)*sz≤xs.length*sz:=Nat.mul_le_mul_right _ (by omega)
 rw [Nat.add_mul,Nat.one_mul] at hb;have:=Ij (us:=aq xs) (vs:=rest) (o:=j*sz+o) (c:=c) (by omega)
 rw [Ab.over] at this;rw [this,E9 hs j hj o c ho]
theorem o8 {α:Type} {xs:List α} {i:Nat} {x:α} (h:xs[i]? =some x):xs.set i x=xs:=by
 obtain ⟨hi,rfl⟩:=List.getElem?_eq_some_iff.1 h;exact List.set_getElem_self hi
theorem lW (id:Txt) (set:Bool) (alg:Int) (tgt:fP) (rules:List cO) (kids:List bG) (obls:List cw):aK (.mk id set alg tgt rules kids obls)= .agg [.s id, .v (.bool set), .v (.int .i64 alg),aT tgt, .sl (rules.map aB) .no, .sl (kids.map aK) .no,au obls]:=by simp [aK,aV]
set_option maxRecDepth 100000 in
theorem rK:∀(p:bG) (d:Nat),lD d p→∀h,ak Tryz.prog 105 [aK p] h fun r h' =>r=aK p∧h' =h
 | .mk pid pset palg ptgt prules pkids pobls,d,hp,h=>by
  obtain ⟨_,_,_,_,_,_,ht,ho,hr16,hk16,hre,hke⟩:=hp;rw [oJ] at hke;have ih:∀(j:Nat) (hj:j<pkids.length) (h:Heap),ak Tryz.prog 105 [aK pkids[j]] h fun r h' =>r=aK pkids[j]∧h' =h:=fun j hj h=>rK pkids[j] (d+1) (hke _ (V5 hj)) h
  have hob:=Eg ho;refine ak.freeze fun g hg _=> ?_
  rw [lW];refine ak.body hU hm Tryz.func105 rfl (by kernel_rfl) 72 rfl [.cell 2 37] rfl (VZ rfl) (fun hwf=> ?_)
  simp only [go_sem];intro i1 h1;simp only [go_sem];intro i2 h2;have n21:=aH h2;have n2:=aD h2;simp only [go_sem];obtain ⟨H,eH⟩:∃H,upd (upd g i1 (some (.obj [.s pid, .v (.bool pset), .v (.int .i64 palg),aT ptgt, .sl (prules.map aB) .no, .sl (pkids.map aK) .no,au pobls] 37))) i2 (some (.obj [.s [], .v (.bool false), .v (.int .i64 0), .sl [] .full, .sl [] .full, .sl [] .full, .sl [] .full] 37))=H:=⟨_,rfl⟩;have hH:Ab.Sub g H:=by rw [←eH]; exact ((Sub.refl g).put h1 _).put n2 _
  have g1:H i1=some (.obj [.s pid, .v (.bool pset), .v (.int .i64 palg),aT ptgt, .sl (prules.map aB) .no, .sl (pkids.map aK) .no,au pobls] 37):=by rw [←eH,ag _ _ n21.symm,ah]
  have g2:H i2=some (.obj [.s [], .v (.bool false), .v (.int .i64 0), .sl [] .full, .sl [] .full, .sl [] .full, .sl [] .full] 37):=by rw [←eH,ah]
  rw [eH];refine .stage (hm1 i1 _) [0,1,3,4,2,6,5] [7,8,9] (.hm1 g1) (by kernel_rfl) ?_
  simp only [go_sem,fJ];refine (rL ptgt ht H).pthen ?_;refine ⟨.hm1 g1, ?_⟩;simp only [go_sem];refine (xZ _ (pobls.map bf) H (eC bf 3 (fun _=>rfl) _ _) (by simp; omega) (bn (fun _=>rfl) _)).pthen ?_
  refine ⟨.hm1 g1,cN,(fun _ _ e=>by cases e), ?_⟩
  have cT:(aT ptgt).cells= [aT ptgt]:=rfl;simp only [go_sem,g1,show fit (aT ptgt) 1=(1=1) from rfl,cT]
  have eo:(.sl (pobls.map bf) .no:AV)=au pobls:=rfl;rw [eo];refine ⟨fun _ _ e=>(by cases e),fun _ _ e=>(by cases e), ?_⟩
  rw [tg g1];refine .stage (hm1 i1 _) [0,1,3,4,2,6,5] [7,8,9] (.hm1 g1) (by kernel_rfl) ?_
  simp only [go_sem,fJ];refine (ET _ (prules.map aB) H (eC aB 5 (fun _=>rfl) _ _) (by simp; omega)).mono fun y4 H1 ⟨w4,s1⟩=> ?_
  refine ⟨.hm1 (s1 _ _ g1), ?_⟩;simp only [go_sem];refine (Ax _ (pkids.map aK) H1 (eC aK 7 iM _ _) (by simp; omega)).mono fun y5 H2 ⟨w5,s2⟩=> ?_
  have g1' :=s2 _ _ (s1 _ _ g1);have g2' :=s2 _ _ (s1 _ _ g2);refine ⟨.hm1 g1',cN,(fun _ _ e=>by cases e), ?_⟩
  simp only [go_sem,g1',w4.rd.fit,w4.rd.cells,w5.rd.fit,w5.rd.cells];refine ⟨fun _ _ e=>(by cases e),fun _ _ e=>(by cases e), ?_⟩
  have hn4:∀id,nid y4=some id→id≠i2:=fun id e=>cF (w4.nid e).1 g2
  have hn5:∀id,nid y5=some id→id≠i2:=fun id e=>cF (w5.nid e).1 (s1 _ _ g2)
  have hnd:∀i,nid y4=some i→nid y5≠some i:=fun i e4 e5=>(w4.nid e4).2.1 (w5.nid e5).1
  have v4:∀b,OwE 164 g (upd H2 i1 b) 5 y4 (prules.map aB):=fun b=>((w4.sub s2).less hH).keep fun id e=>ag _ _ (cF (w4.nid e).1 g1)
  have v5:∀b,OwE 37 g (upd H2 i1 b) 7 y5 (pkids.map aK):=fun b=>(w5.less (hH.trans s1)).keep fun id e=>ag _ _ (cF (s1.none (w5.nid e).1) g1)
  have vs:∀b,Ab.Sub g (upd H2 i1 b):=fun b=>(hH.trans (s1.trans s2)).put h1 b
  have vz:∀b,upd H2 i1 b i2=some (.obj [.s [], .v (.bool false), .v (.int .i64 0), .sl [] .full, .sl [] .full, .sl [] .full, .sl [] .full] 37):=fun b=>by rw [ag _ _ n21]; exact g2'
  obtain ⟨H3,eH3⟩:∃H3,upd H2 i1 (some (.obj [.s pid, .v (.bool pset), .v (.int .i64 palg),aT ptgt,y4,y5,au pobls] 37))=H3:=⟨_,rfl⟩;have q1:H3 i1=some (.obj [.s pid, .v (.bool pset), .v (.int .i64 palg),aT ptgt,y4,y5,au pobls] 37):=by rw [←eH3,ah]
  replace v4:=v4 (some (.obj [.s pid, .v (.bool pset), .v (.int .i64 palg),aT ptgt,y4,y5,au pobls] 37));replace v5:=v5 (some (.obj [.s pid, .v (.bool pset), .v (.int .i64 palg),aT ptgt,y4,y5,au pobls] 37));replace vs:=vs (some (.obj [.s pid, .v (.bool pset), .v (.int .i64 palg),aT ptgt,y4,y5,au pobls] 37));replace vz:=vz (some (.obj [.s pid, .v (.bool pset), .v (.int .i64 palg),aT ptgt,y4,y5,au pobls] 37));rw [eH3] at v4 v5 vs vz;rw [eH3];clear eH3;have hi1:∀id,g id=none→∀ {K:Heap} {b:Blk},K id=some b→K id≠none:=fun id _ K b e=>by rw [e]; simp
  simp only [go_sem,v4.rd.len,V0];refine .intro (fun m ρ G=>∃i:Nat,G i1=some (.obj [.s pid, .v (.bool pset), .v (.int .i64 palg),aT ptgt,y4,y5,au pobls] 37)∧G i2=some (.obj [.s [], .v (.bool false), .v (.int .i64 0), .sl [] .full, .sl [] .full, .sl [] .full, .sl [] .full] 37)∧Ab.Sub g G∧OwE 164 g G 5 y4 (prules.map aB)∧OwE 37 g G 7 y5 (pkids.map aK)∧i≤prules.length∧m=prules.length - i∧
   lk ρ 1=some (.ptr i1 0)∧lk ρ 2=some (.ptr i2 0)∧lk ρ 24=some y4∧lk ρ 25=some (.v (.int .i64 prules.length))∧lk ρ 26=some (.v (.int .i64 i))) prules.length ?_ ?_
  ·refine ⟨0,q1,vz,vs,v4,v5,by omega,rfl, ?_, ?_, ?_, ?_, ?_⟩<;>simp only [go_sem]
  ·rintro m ρ G ⟨i,q1,vz,vs,v4,v5,hi,rfl,r1,r2,r24,r25,r26⟩
   simp only [go_sem,r25,r26];refine .intro (fun e=> ?_) (fun e=> ?_)
   ·have hlt:i<prules.length:=V7 e
    have w1:=V6 i (by omega)
    obtain ⟨_,rt,rc,ro⟩:=hre _ (V5 hlt);have hrc:=JG rc;have hro:=Eg ro;simp only [go_sem,r24,r26];refine v4.rd.idx (e:=164) i rfl (by simpa using hlt) (by simp only [go_sem]) (by decide) fun p hp1=> ?_
    have hld:=hp1.all (U:=U) (ty:=164) (by simp only [go_sem]) (by simp only [go_sem]; rw [V1]; rfl) (by simp only [go_sem]; rw [V1]; rfl)
    simp only [go_sem,hld,V1,aB];intro i4 h4;have n41:i4≠i1:=cF h4 q1;simp only [go_sem];obtain ⟨G4,eG4⟩:∃G4,upd G i4 (some (.obj [.s prules[i].id, .v (.bool prules[i].deny),aT prules[i].tgt,eV prules[i].cond,au prules[i].obls] 164))=G4:=⟨_,rfl⟩;rw [eG4];have p1:G4 i1=some (.obj [.s pid, .v (.bool pset), .v (.int .i64 palg),aT ptgt,y4,y5,au pobls] 37):=by rw [←eG4,ag _ _ n41.symm]; exact q1
    have p4:G4 i4=some (.obj [.s prules[i].id, .v (.bool prules[i].deny),aT prules[i].tgt,eV prules[i].cond,au prules[i].obls] 164):=by rw [←eG4,ah]
    have sG:Ab.Sub G G4:=by rw [←eG4]; exact .ai h4
    refine .calls (hm2 i1 (.obj [.s pid, .v (.bool pset), .v (.int .i64 palg),aT ptgt,y4,y5,au pobls] 37) i4 (.obj [.s prules[i].id, .v (.bool prules[i].deny),aT prules[i].tgt,eV prules[i].cond,au prules[i].obls] 164)) [0,1,2,3,4,5,6,7,8,9,10,12,13,15,16,11,14,17,18,19,20,21,22,23,24,25,26] (.hm2 p1 p4) (by kernel_rfl) rfl ?_
    simp only [go_sem,r1,ry _ _ n41.symm,rz];refine (rL prules[i].tgt rt G4).pthen ?_;refine ⟨.hm2 p1 p4, ?_⟩;simp only [go_sem];refine (Cv _ (prules[i].cond.map cZ) G4 (eC cZ 7 (fun _=>rfl) _ _) (by simp; omega) (bn (fun _=>rfl) _)).pthen ?_
    refine ⟨.hm2 p1 p4, ?_⟩;simp only [go_sem];refine (xZ _ (prules[i].obls.map bf) G4 (eC bf 3 (fun _=>rfl) _ _) (by simp; omega) (bn (fun _=>rfl) _)).pthen ?_
    refine ⟨.hm2 p1 p4, ?_⟩;simp only [go_sem];obtain ⟨id4,hg4,o4⟩:=(v4.sub sG).ow (by intro e; rw [List.map_eq_nil_iff] at e; rw [e] at hlt; cases hlt)
    have m1:id4≠i1:=kD o4 p1 (by decide)
    have m4:id4≠i4:=fun e=>(v4.nid o4.nid).2.1 (by rw [e]; exact h4)
    refine o4.idx (U:=U) (e:=164) i rfl (by simpa using hlt) (by simp only [go_sem]) (by decide) ?_
    simp only [go_sem];have o4' :=o4;obtain ⟨cap,rest,ey,hid,hr,hc,hsz⟩:=o4';have hbd:i*5+5≤(aq (prules.map aB)++rest).length:=by
     rw [V4,aW hsz,V0]; omega
    have e2:List.take (i*5+2) (aq (prules.map aB)++rest)++(aT prules[i].tgt).cells++List.drop (i*5+2+(aT prules[i].tgt).cells.length) (aq (prules.map aB)++rest)=aq (prules.map aB)++rest:=by
     refine (j5 hsz i (by simpa using hlt) 2 ((aT prules[i].tgt).cells) (VZ rfl)).trans ?_
     rw [o8];rw [List.getElem?_eq_getElem (by simpa using hlt),V1]; rfl
    have e3:List.take (i*5+3) (aq (prules.map aB)++rest)++ [.sl (prules[i].cond.map cZ) .no]++List.drop (i*5+3+1) (aq (prules.map aB)++rest)=aq (prules.map aB)++rest:=by
     refine (j5 hsz i (by simpa using hlt) 3 ([.sl (prules[i].cond.map cZ) .no]) (VZ rfl)).trans ?_
     rw [o8];rw [List.getElem?_eq_getElem (by simpa using hlt),V1]; rfl
    have e4:List.take (i*5+4) (aq (prules.map aB)++rest)++ [.sl (prules[i].obls.map bf) .no]++List.drop (i*5+4+1) (aq (prules.map aB)++rest)=aq (prules.map aB)++rest:=by
     refine (j5 hsz i (by simpa using hlt) 4 ([.sl (prules[i].obls.map bf) .no]) (VZ rfl)).trans ?_
     rw [o8];rw [List.getElem?_eq_getElem (by simpa using hlt),V1]; rfl
    simp only [go_sem,hid];rw [e2,tg hid];refine ⟨rfl,by omega, .hm2 p1 p4, ?_⟩
    refine o4.idx (U:=U) (e:=164) i rfl (by simpa using hlt) (by simp only [go_sem]) (by decide) ?_
    simp only [go_sem,hid];rw [e3,tg hid];refine ⟨by omega, .hm2 p1 p4, ?_⟩
    refine o4.idx (U:=U) (e:=164) i rfl (by simpa using hlt) (by simp only [go_sem]) (by decide) ?_
    simp only [go_sem,hid];rw [e4,tg hid];refine ⟨by omega, .hm2 p1 p4, ?_⟩
    simp only [go_sem,r26,w1];refine ⟨_, ?_,i+1,p1,sG _ _ vz,vs.trans sG,v4.sub sG,v5.sub sG,by omega,rfl, ?_, ?_, ?_, ?_, ?_⟩
    ·omega
    all_goals simp only [go_sem,r1,r2,r24,r25]
   ·have hge:i=prules.length:=by have:=V3 e; omega
    clear hge;simp only [go_sem,r1,q1,v5.rd.len,V0];refine .intro (fun m ρ G=>∃i:Nat,G i1=some (.obj [.s pid, .v (.bool pset), .v (.int .i64 palg),aT ptgt,y4,y5,au pobls] 37)∧G i2=some (.obj [.s [], .v (.bool false), .v (.int .i64 0), .sl [] .full, .sl [] .full, .sl [] .full, .sl [] .full] 37)∧Ab.Sub g G∧OwE 164 g G 5 y4 (prules.map aB)∧OwE 37 g G 7 y5 (pkids.map aK)∧i≤pkids.length∧m=pkids.length - i∧
     lk ρ 1=some (.ptr i1 0)∧lk ρ 2=some (.ptr i2 0)∧lk ρ 57=some y5∧lk ρ 58=some (.v (.int .i64 pkids.length))∧lk ρ 59=some (.v (.int .i64 i))) pkids.length ?_ ?_
    ·refine ⟨0,q1,vz,vs,v4,v5,by omega,rfl, ?_, ?_, ?_, ?_, ?_⟩<;>simp only [go_sem,r1,r2]
    ·clear r1 r2 r24 r25 r26 q1 vz vs v4 v5 e hi
     rintro m ρ G ⟨i,q1,vz,vs,v4,v5,hi,rfl,r1,r2,r57,r58,r59⟩
     simp only [go_sem,r58,r59];refine .intro (fun e=> ?_) (fun e=> ?_)
     ·have hlt:i<pkids.length:=V7 e
      have w1:=V6 i (by omega)
      have ihi:=ih i hlt;have hci:=iM pkids[i];cases hpk:pkids[i] with
      |mk kid kset kalg ktgt krules kkids kobls=>
      rw [hpk,lW] at ihi;simp only [go_sem,r57,r59];refine v5.rd.idx (e:=37) i rfl (by simpa using hlt) (by simp only [go_sem]) (by decide) fun p hp1=> ?_
      have hld:=hp1.all (U:=U) (ty:=37) (by simp only [go_sem]) (by simp only [go_sem]; rw [V1]; exact hci) (by simp only [go_sem]; rw [V1,hpk,lW]; rfl)
      simp only [go_sem,hld,V1,hpk,lW];intro i4 h4;have n41:i4≠i1:=cF h4 q1;simp only [go_sem];obtain ⟨G4,eG4⟩:∃G4,upd G i4 (some (.obj [.s kid, .v (.bool kset), .v (.int .i64 kalg),aT ktgt, .sl (krules.map aB) .no, .sl (kkids.map aK) .no,au kobls] 37))=G4:=⟨_,rfl⟩;rw [eG4];have p1:G4 i1=some (.obj [.s pid, .v (.bool pset), .v (.int .i64 palg),aT ptgt,y4,y5,au pobls] 37):=by rw [←eG4,ag _ _ n41.symm]; exact q1
      have p4:G4 i4=some (.obj [.s kid, .v (.bool kset), .v (.int .i64 kalg),aT ktgt, .sl (krules.map aB) .no, .sl (kkids.map aK) .no,au kobls] 37):=by rw [←eG4,ah]
      have sG:Ab.Sub G G4:=by rw [←eG4]; exact .ai h4
      refine .calls (hm2 i1 (.obj [.s pid, .v (.bool pset), .v (.int .i64 palg),aT ptgt,y4,y5,au pobls] 37) i4 (.obj [.s kid, .v (.bool kset), .v (.int .i64 kalg),aT ktgt, .sl (krules.map aB) .no, .sl (kkids.map aK) .no,au kobls] 37)) [0,1,2,3,4,5,6] (.hm2 p1 p4) (by kernel_rfl) rfl ?_
      simp only [go_sem,r1,ry _ _ n41.symm,rz];refine (ihi G4).pthen ?_;refine ⟨.hm2 p1 p4, ?_⟩;simp only [go_sem];obtain ⟨id4,hg4,o4⟩:=(v5.sub sG).ow (by intro e; rw [List.map_eq_nil_iff] at e; rw [e] at hlt; cases hlt)
      have o4' :=o4;obtain ⟨cap,rest,ey,hid,hr,hc,hsz⟩:=o4';have hbd:i*7+7≤(aq (pkids.map aK)++rest).length:=by
       rw [V4,aW hsz,V0]; omega
      have e2:List.take (i*7) (aq (pkids.map aK)++rest)++ [.s kid, .v (.bool kset), .v (.int .i64 kalg),aT ktgt, .sl (krules.map aB) .no, .sl (kkids.map aK) .no,au kobls]++List.drop (i*7+7) (aq (pkids.map aK)++rest)=aq (pkids.map aK)++rest:=by
       refine (j5 hsz i (by simpa using hlt) 0 [.s kid, .v (.bool kset), .v (.int .i64 kalg),aT ktgt, .sl (krules.map aB) .no, .sl (kkids.map aK) .no,au kobls] (VZ rfl)).trans ?_
       rw [o8];rw [List.getElem?_eq_getElem (by simpa using hlt),V1,hpk,lW]; rfl
      refine o4.idx (U:=U) (e:=37) i rfl (by simpa using hlt) (by simp only [go_sem]) (by decide) ?_
      simp only [go_sem,hid];rw [e2,tg hid];refine ⟨by omega, .hm2 p1 p4, ?_⟩
      simp only [go_sem,r59,w1];refine ⟨_, ?_,i+1,p1,sG _ _ vz,vs.trans sG,v4.sub sG,v5.sub sG,by omega,rfl, ?_, ?_, ?_, ?_, ?_⟩
      ·omega
      all_goals simp only [go_sem,r1,r2,r57,r58]
     ·simp only [go_sem,r1,r2,q1,vz]
      refine .mk _ (.refl _) (.refl _) ⟨vs.put n2 _,aK (.mk pid pset palg ptgt prules pkids pobls), ?_,lW ..⟩;rw [lW];have z4:∀b,Frz g (upd G i2 b) y4 (.sl (prules.map aB) .no):=fun b=>(v4.keep fun id e=>ag _ _ (hn4 id e)).frz (bn yJ prules)
      have z5:∀b,Frz g (upd G i2 b) y5 (.sl (pkids.map aK) .no):=fun b=>(v5.keep fun id e=>ag _ _ (hn5 id e)).frz (by rw [←aV]; exact sW pkids)
      refine .agg _ _ rfl fun k k1 k2=> ?_
      rcases k with _|_|_|_|_|_|_|k
      ·exact .pure rfl
      ·exact .pure rfl
      ·exact .pure rfl
      ·exact .pure (wK _)
      ·exact z4 _
      ·exact z5 _
      ·exact .pure (sX _)
      ·simp at k1; omega
termination_by p=>SizeOf.sizeOf p
decreasing_by
 have:=List.sizeOf_lt_of_mem (V5 hj);simp only [bG.mk.sizeOf_spec];omega
end Go.Proofs.YtnlbeamjpefpfaaGreatDoor
namespace Go.Ab
open Go
def apart (a b:AV):Prop:=∀i,nid a=some i→nid b≠some i
theorem apart.symm {a b:AV} (h:apart a b):apart b a:=fun i e1 e2=>h i e2 e1
theorem dP {a y:AV} {tb:TypeId} {g h:Heap} {sz:Nat} {xs:List AV} (hw:OwE tb g h sz y xs) (ha:∀i,nid a=some i→g i≠none):apart a y:=fun i e1 e2=>ha i e1 (hw.nid e2).1
theorem OwE.there {tb:TypeId} {h0 h h' :Heap} {sz:Nat} {y:AV} {xs:List AV} (hw:OwE tb h0 h sz y xs) (hs:∀i,h i≠Option.none→h' i≠Option.none):∀i,Ab.nid y=some i→h' i≠Option.none:=fun i e=>hs i (hw.nid e).2.1
theorem Sub.some {h h' :Heap} (hs:Sub h h'):∀i,h i≠Option.none→h' i≠Option.none:=fun i e e' =>e (hs.none e')
end Go.Ab
namespace Go.Proofs.YtnlbeamjpefpfaaGreatDoor
open Go Go.Ab Go.Bf
def eT (h0 h:Heap) (ys:List AV) (x:AV) (c:aJ):Prop:=∃f l,x= .agg [.s c.id, .s c.owner, .s c.state,f,l]∧OwE 111 h0 h 4 f (c.fields.map bw)∧OwE 82 h0 h 3 l (c.log.map fF)∧apart f l∧∀y∈ys,apart f y∧apart l y
def kE (h0 h:Heap) (ys:List AV) (y1:AV) (cs:List aJ) (i0:Nat):Prop:=∃xs,OwE 78 h0 h 5 y1 xs∧xs.length=cs.length∧(∀j (h1:j<xs.length) (h2:j<cs.length),j≠i0→xs[j]=bJ cs[j])∧∀(h1:i0<xs.length) (h2:i0<cs.length),eT h0 h ys xs[i0] cs[i0]
def qP (h0 h:Heap) (x:AV) (s:an) (i0:Nat):Prop:=∃y1 y2 y3 y4,x= .agg ([.v (.int .i64 s.tick),y1,y2,y3,y4]++fB s.policy++ [.v (.int .i64 s.version)])∧kE h0 h [y1,y2,y3,y4] y1 s.cases i0∧
 OwE 71 h0 h 7 y2 (s.reviews.map fL)∧OwE 84 h0 h 3 y3 (s.notices.map ku)∧OwE 54 h0 h 2 y4 (s.roles.map cD)∧apart y1 y2∧apart y1 y3∧apart y1 y4∧apart y2 y3∧apart y2 y4∧apart y3 y4
theorem FO {cs L:List AV} (h:L.length=cs.length):Ab.over cs 0 L=L:=by
 rw [Ab.over,List.take_zero,List.nil_append,Nat.zero_add,List.drop_of_length_le (by omega),List.append_nil]
theorem BC {h:Heap} {x:AV} {c:aJ} (i i0:Nat) (hb:RdC h x c) (hl:c.fields.length≤1000000) (hl2:c.log.length≤1000000):ak Tryz.prog 54 [x] h fun r h' =>
  ∃f l,r= .agg [.s c.id, .s c.owner, .s c.state,f,l]∧Ab.Sub h h'∧f.cells= [f]∧l.cells= [l]∧(i≠i0→f=fG c.fields∧l=pX c.log)∧(i=i0→OwE 111 h h' 4 f (c.fields.map bw)∧OwE 82 h h' 3 l (c.log.map fF)∧apart f l):=by
 by_cases e:i=i0
 ·exact (wC hb hl hl2).mono fun r h' ⟨⟨f,l,e1,a,b,c⟩,d⟩=>⟨f,l,e1,d,a.rd.cells,b.rd.cells,fun hh=>(hh e).elim,fun _=>⟨a,b,c⟩⟩
 ·exact (uc hb hl hl2).mono fun r h' ⟨e1,e2⟩=>⟨_,_,e1,by rw [e2]; exact .refl _,rfl,rfl,fun _=>⟨rfl,rfl⟩,fun hh=>(e hh).elim⟩
theorem eT.sub {h0 h h' :Heap} {ys:List AV} {x:AV} {c:aJ} (hm:eT h0 h ys x c) (hs:Ab.Sub h h'):eT h0 h' ys x c:=by
 obtain ⟨f,l,e,a,b,c,d⟩:=hm;exact ⟨f,l,e,a.sub hs,b.sub hs,c,d⟩
theorem eT.keep {h0 h h' :Heap} {ys:List AV} {x:AV} {c:aJ} (hm:eT h0 h ys x c) (hs:∀f l,x= .agg [.s c.id, .s c.owner, .s c.state,f,l]→(∀y∈ys,apart f y∧apart l y)→∀i,(nid f=some i∨nid l=some i)→h' i=h i):eT h0 h' ys x c:=by
 obtain ⟨f,l,e,a,b,c,d⟩:=hm;exact ⟨f,l,e,a.keep fun i hi=>hs f l e d i (.inl hi),b.keep fun i hi=>hs f l e d i (.inr hi),c,d⟩
set_option maxRecDepth 100000 in
theorem MH {h:Heap} {x:AV} {s:an} (hb:RdS h x s) (i0:Nat) (hf:Few s) (hp:lD 1 s.policy):ak Tryz.prog 68 [x] h fun r h' =>qP h h' r s i0∧Ab.Sub h h' :=by
 obtain ⟨y1,y2,y3,y4,rfl,⟨xs0,hc,hn,hcs⟩,h2,h3,h4⟩:=hb;have hpo:=rK s.policy 1 hp;cases hpp:s.policy with
 |mk pid pset palg ptgt prules pkids pobls=>
 rw [hpp,lW] at hpo;have hcC:fB (.mk pid pset palg ptgt prules pkids pobls)= [.s pid, .v (.bool pset), .v (.int .i64 palg),aT ptgt, .sl (prules.map aB) .no, .sl (pkids.map aK) .no,au pobls]:=by simp [fB,aV]
 have hfc:=hf.cases;refine ak.body hU hm Tryz.func68 rfl (by kernel_rfl) 41 rfl [.cell 2 39] rfl (VZ rfl) (fun hwf=> ?_)
 simp only [go_sem,hcC,List.cons_append,List.nil_append];intro i1 h1;simp only [go_sem];intro i2 h2';have n21:=aH h2';have n2:=aD h2';simp only [go_sem,aj,n21.symm];obtain ⟨H,eH⟩:∃H,upd (upd h i1 (some (.obj [.v (.int .i64 s.tick),y1,y2,y3,y4, .s pid, .v (.bool pset), .v (.int .i64 palg),aT ptgt, .sl (prules.map aB) .no, .sl (pkids.map aK) .no,au pobls, .v (.int .i64 s.version)] 39))) i2 (some (.obj [.v (.int .i64 0), .sl [] .full, .sl [] .full, .sl [] .full, .sl [] .full, .s [], .v (.bool false), .v (.int .i64 0), .sl [] .full, .sl [] .full, .sl [] .full, .sl [] .full, .v (.int .i64 0)] 39))=H:=⟨_,rfl⟩;have hH:Ab.Sub h H:=by rw [←eH]; exact ((Sub.refl h).put h1 _).put n2 _
 have g1:H i1=some (.obj [.v (.int .i64 s.tick),y1,y2,y3,y4, .s pid, .v (.bool pset), .v (.int .i64 palg),aT ptgt, .sl (prules.map aB) .no, .sl (pkids.map aK) .no,au pobls, .v (.int .i64 s.version)] 39):=by rw [←eH,ag _ _ n21.symm,ah]
 have g2:H i2=some (.obj [.v (.int .i64 0), .sl [] .full, .sl [] .full, .sl [] .full, .sl [] .full, .s [], .v (.bool false), .v (.int .i64 0), .sl [] .full, .sl [] .full, .sl [] .full, .sl [] .full, .v (.int .i64 0)] 39):=by rw [←eH,ah]
 rw [eH];clear eH;refine (xY y1 xs0 H (hc.sub hH) (by omega)).mono fun z1 H1 ⟨w1,s1⟩=> ?_
 simp only [go_sem,s1 _ _ g1,w1.rd.fit,w1.rd.cells];have v1:∀b,OwE 78 h (upd H1 i1 b) 5 z1 xs0:=fun b=>(w1.less hH).keep fun id e=>ag _ _ (cF (w1.nid e).1 g1)
 have vs:∀b,Ab.Sub h (upd H1 i1 b):=fun b=>(hH.trans s1).put h1 b
 have vz:∀b,upd H1 i1 b i2=some (.obj [.v (.int .i64 0), .sl [] .full, .sl [] .full, .sl [] .full, .sl [] .full, .s [], .v (.bool false), .v (.int .i64 0), .sl [] .full, .sl [] .full, .sl [] .full, .sl [] .full, .v (.int .i64 0)] 39):=fun b=>by rw [ag _ _ n21]; exact s1 _ _ g2
 have hz1:∀id,nid z1=some id→id≠i1:=fun id e=>cF (w1.nid e).1 g1
 have hz2:∀id,nid z1=some id→id≠i2:=fun id e=>cF (w1.nid e).1 g2
 obtain ⟨H2,eH2⟩:∃H2,upd H1 i1 (some (.obj [.v (.int .i64 s.tick),z1,y2,y3,y4, .s pid, .v (.bool pset), .v (.int .i64 palg),aT ptgt, .sl (prules.map aB) .no, .sl (pkids.map aK) .no,au pobls, .v (.int .i64 s.version)] 39))=H2:=⟨_,rfl⟩;replace v1:=v1 (some (.obj [.v (.int .i64 s.tick),z1,y2,y3,y4, .s pid, .v (.bool pset), .v (.int .i64 palg),aT ptgt, .sl (prules.map aB) .no, .sl (pkids.map aK) .no,au pobls, .v (.int .i64 s.version)] 39));replace vs:=vs (some (.obj [.v (.int .i64 s.tick),z1,y2,y3,y4, .s pid, .v (.bool pset), .v (.int .i64 palg),aT ptgt, .sl (prules.map aB) .no, .sl (pkids.map aK) .no,au pobls, .v (.int .i64 s.version)] 39));replace vz:=vz (some (.obj [.v (.int .i64 s.tick),z1,y2,y3,y4, .s pid, .v (.bool pset), .v (.int .i64 palg),aT ptgt, .sl (prules.map aB) .no, .sl (pkids.map aK) .no,au pobls, .v (.int .i64 s.version)] 39));have q1:H2 i1=some (.obj [.v (.int .i64 s.tick),z1,y2,y3,y4, .s pid, .v (.bool pset), .v (.int .i64 palg),aT ptgt, .sl (prules.map aB) .no, .sl (pkids.map aK) .no,au pobls, .v (.int .i64 s.version)] 39):=by rw [←eH2,ah]
 rw [eH2] at v1 vs vz;rw [eH2];clear eH2;simp only [go_sem,v1.rd.len,hn];refine .intro (fun m ρ G=>∃(i:Nat) (xs:List AV),G i1=some (.obj [.v (.int .i64 s.tick),z1,y2,y3,y4, .s pid, .v (.bool pset), .v (.int .i64 palg),aT ptgt, .sl (prules.map aB) .no, .sl (pkids.map aK) .no,au pobls, .v (.int .i64 s.version)] 39)∧G i2=some (.obj [.v (.int .i64 0), .sl [] .full, .sl [] .full, .sl [] .full, .sl [] .full, .s [], .v (.bool false), .v (.int .i64 0), .sl [] .full, .sl [] .full, .sl [] .full, .sl [] .full, .v (.int .i64 0)] 39)∧Ab.Sub h G∧OwE 78 h G 5 z1 xs∧xs.length=s.cases.length∧(∀j (h1:j<xs.length) (h2:j<s.cases.length),j<i→j≠i0→xs[j]=bJ s.cases[j])∧(∀(h1:i0<xs.length) (h2:i0<s.cases.length),i0<i→eT h G [z1] xs[i0] s.cases[i0])∧(∀j (h1:j<xs.length) (h2:j<s.cases.length),i≤j→RdC h xs[j] s.cases[j])∧i≤s.cases.length∧m=s.cases.length - i∧
  lk ρ 1=some (.ptr i1 0)∧lk ρ 2=some (.ptr i2 0)∧lk ρ 10=some z1∧lk ρ 11=some (.v (.int .i64 s.cases.length))∧lk ρ 12=some (.v (.int .i64 i))) s.cases.length ?_ ?_
 ·refine ⟨0,xs0,q1,vz,vs,v1,hn,fun j _ _ hj=>(by omega),fun _ _ hj=>(by omega),fun j a b _=>hcs j a b,by omega,rfl, ?_, ?_, ?_, ?_, ?_⟩<;>simp only [go_sem]
 ·rintro m ρ G ⟨i,xs,q1,vz,vs,v1,hn,hlo,hmy,hhi,hi,rfl,r1,r2,r10,r11,r12⟩
  simp only [go_sem,r11,r12];refine .intro (fun e=> ?_) (fun e=> ?_)
  ·have hlt:i<s.cases.length:=V7 e
   have hltx:i<xs.length:=by omega
   have w1:=V6 i (by omega)
   obtain ⟨f,l,ex,hfl,hlg⟩:=hhi i hltx hlt (Nat.le_refl _);have hff:=hf.fields _ (V5 hlt);have hfg:=hf.log _ (V5 hlt);simp only [go_sem,r10,r12];refine v1.rd.idx (e:=78) i rfl hltx l8 (by decide) fun p hp1=> ?_
   have hld:=hp1.all (U:=U) (ty:=78) (by simp only [go_sem]) (by rw [l8,ex]; rfl) (by simp only [go_sem]; rw [ex]; rfl)
   simp only [go_sem,hld,ex];intro i4 h4;have n41:i4≠i1:=cF h4 q1;simp only [go_sem];obtain ⟨G4,eG4⟩:∃G4,upd G i4 (some (.obj [.s s.cases[i].id, .s s.cases[i].owner, .s s.cases[i].state,f,l] 78))=G4:=⟨_,rfl⟩;rw [eG4];have p1:G4 i1=some (.obj [.v (.int .i64 s.tick),z1,y2,y3,y4, .s pid, .v (.bool pset), .v (.int .i64 palg),aT ptgt, .sl (prules.map aB) .no, .sl (pkids.map aK) .no,au pobls, .v (.int .i64 s.version)] 39):=by rw [←eG4,ag _ _ n41.symm]; exact q1
   have p4:G4 i4=some (.obj [.s s.cases[i].id, .s s.cases[i].owner, .s s.cases[i].state,f,l] 78):=by rw [←eG4,ah]
   have sG:Ab.Sub G G4:=by rw [←eG4]; exact .ai h4
   refine .calls (hm2 i1 (.obj [.v (.int .i64 s.tick),z1,y2,y3,y4, .s pid, .v (.bool pset), .v (.int .i64 palg),aT ptgt, .sl (prules.map aB) .no, .sl (pkids.map aK) .no,au pobls, .v (.int .i64 s.version)] 39) i4 (.obj [.s s.cases[i].id, .s s.cases[i].owner, .s s.cases[i].state,f,l] 78)) [0,1,2,3,4,5,6] (.hm2 p1 p4) (by kernel_rfl) rfl ?_
   simp only [go_sem,r1,ry _ _ n41.symm,rz];refine (BC i i0 (show RdC G4 (.agg [.s s.cases[i].id, .s s.cases[i].owner, .s s.cases[i].state,f,l]) s.cases[i] from ⟨f,l,rfl,hfl.sub (vs.trans sG),hlg.sub (vs.trans sG)⟩) hff hfg).mono fun r G5 ⟨f',l',er,s5,cf,cl,hne,heq⟩=> ?_
   subst er;have p1' :=s5 _ _ p1;have p4' :=s5 _ _ p4;refine ⟨.hm2 p1' p4', ?_⟩;simp only [go_sem];obtain ⟨id1,hg1,o1⟩:=((v1.sub sG).sub s5).ow (by intro e; rw [e] at hltx; cases hltx)
   have t1:id1≠i1:=kD o1 p1' (by decide)
   have t2:id1≠i2:=hz2 id1 o1.nid;have t3:G4 id1≠none:=fun e=>(v1.nid o1.nid).2.1 (sG.none e)
   have o1' :=o1;obtain ⟨cap,rest,ey,hid,hr,hcap,hsz⟩:=o1';have hbd:i*5+5≤(aq xs++rest).length:=by
    rw [V4,aW hsz]; omega
   have hx5:xs[i].cells.length=5:=hsz _ (V5 hltx);have e2:List.take (i*5) (aq xs++rest)++ [.s s.cases[i].id, .s s.cases[i].owner, .s s.cases[i].state,f',l']++List.drop (i*5+5) (aq xs++rest)=aq (xs.set i (.agg [.s s.cases[i].id, .s s.cases[i].owner, .s s.cases[i].state,f',l']))++rest:=by
    refine (j5 hsz i hltx 0 [.s s.cases[i].id, .s s.cases[i].owner, .s s.cases[i].state,f',l'] (VZ rfl)).trans ?_;rw [FO (by rw [hx5]; rfl)]
   refine o1.idx (U:=U) (e:=78) i rfl hltx l8 (by decide) ?_
   simp only [go_sem,hid];rw [e2];have t4:id1≠i4:=fun e=>(v1.nid o1.nid).2.1 (by rw [e]; exact h4)
   refine ⟨by omega, .hm2 (by rw [ag _ _ t1.symm]; exact p1') (by rw [ag _ _ t4.symm]; exact p4'), ?_⟩
   simp only [go_sem,r12,w1];have ho:∀b k,k≠id1→upd G5 id1 b k=G5 k:=fun b k hk=>ag _ _ hk
   have hs6:∀b,Ab.Sub h (upd G5 id1 b):=fun b=>((vs.trans sG).trans s5).put hg1 b
   refine ⟨_, ?_,i+1,xs.set i (.agg [.s s.cases[i].id, .s s.cases[i].owner, .s s.cases[i].state,f',l']),(ho _ _ t1.symm).trans p1',(ho _ _ t2.symm).trans (s5 _ _ (sG _ _ vz)),hs6 _, .inr ⟨id1,hg1,cap,rest,by rw [List.length_set]; exact ey,ah ..,by rw [List.length_set]; exact hr,by rw [List.length_set]; exact hcap, ?_⟩,by rw [List.length_set]; exact hn,fun j a b hj hj0=> ?_,fun a b hj=> ?_,fun j a b hj=> ?_,by omega,rfl, ?_, ?_, ?_, ?_, ?_⟩
   ·omega
   ·intro z hz
    rcases List.mem_or_eq_of_mem_set hz with hz|rfl
    ·exact hsz z hz
    ·rfl
   ·have a' :j<xs.length:=by rw [List.length_set] at a; exact a
    by_cases hji:j=i
    ·subst hji
     obtain ⟨ef,el⟩:=hne hj0;rw [List.getElem_set_self,ef,el]; rfl
    ·rw [List.getElem_set_ne (Ne.symm hji)]
     exact hlo j a' b (by omega) hj0
   ·have a' :i0<xs.length:=by rw [List.length_set] at a; exact a
    by_cases hji:i=i0
    ·subst hji
     obtain ⟨of,ol,hap⟩:=heq rfl;have kf:∀k,G4 k=none→upd G5 id1 (some (.obj (aq (xs.set i (.agg [.s s.cases[i].id, .s s.cases[i].owner, .s s.cases[i].state,f',l']))++rest) 78)) k=G5 k:=fun k hk=>ag _ _ fun e=>t3 (by rw [←e]; exact hk)
     rw [List.getElem_set_self];refine ⟨f',l',rfl,(of.less (vs.trans sG)).keep fun k hk=>kf k (of.nid hk).1,(ol.less (vs.trans sG)).keep fun k hk=>kf k (ol.nid hk).1,hap,fun y hy=> ?_⟩
     rw [List.mem_singleton.1 hy];have hz1:∀k,nid z1=some k→G4 k≠none:=(v1.sub sG).there fun k hk=>hk
     exact ⟨(dP of hz1).symm,(dP ol hz1).symm⟩
    ·rw [List.getElem_set_ne hji]
     have hm:=hmy a' b (by omega)
     refine eT.keep (h:=G5) ((hm.sub sG).sub s5) fun f l ex hap k hk=> ?_
     refine ag _ _ fun e=> ?_
     subst e;rcases hk with hk|hk
     ·exact (hap z1 (List.mem_singleton.2 rfl)).1 _ hk o1.nid
     ·exact (hap z1 (List.mem_singleton.2 rfl)).2 _ hk o1.nid
   ·have a' :j<xs.length:=by rw [List.length_set] at a; exact a
    rw [List.getElem_set_ne (by omega)]
    exact hhi j a' b (by omega)
   all_goals simp only [go_sem,r1,r2,r10,r11]
  ·have hge:i=s.cases.length:=by have:=V3 e; omega
   simp only [go_sem];refine .stage (hm1 i1 (.obj [.v (.int .i64 s.tick),z1,y2,y3,y4, .s pid, .v (.bool pset), .v (.int .i64 palg),aT ptgt, .sl (prules.map aB) .no, .sl (pkids.map aK) .no,au pobls, .v (.int .i64 s.version)] 39)) [0,1,3,4,6,7,2,9,5,8] [10,11,12,13,14] (.hm1 q1) (by kernel_rfl) ?_
   simp only [go_sem,r1,fJ];refine (tH y2 _ G (h2.sub vs) (by rw [V0]; exact hf.reviews)).mono fun z2 G1 ⟨o2,s1⟩=> ?_
   refine ⟨.hm1 (s1 _ _ q1), ?_⟩;simp only [go_sem,r1];refine (tG y3 _ G1 ((h3.sub vs).sub s1) (by rw [V0]; exact hf.notices)).mono fun z3 G2 ⟨o3,s2⟩=> ?_
   refine ⟨.hm1 (s2 _ _ (s1 _ _ q1)), ?_⟩;simp only [go_sem];refine (ES y4 _ G2 (((h4.sub vs).sub s1).sub s2) (by rw [V0]; exact hf.roles)).mono fun z4 G3 ⟨o4,s3⟩=> ?_
   have s03:Ab.Sub G G3:=s1.trans (s2.trans s3);have q1' :=s03 _ _ q1;have q2' :=s03 _ _ vz;refine ⟨.hm1 q1',cN,(fun _ _ e=>by cases e), ?_⟩
   simp only [go_sem,r1,q1',o2.rd.fit,o2.rd.cells,o3.rd.fit,o3.rd.cells,o4.rd.fit,o4.rd.cells];refine ⟨fun _ _ e=>(by cases e),fun _ _ e=>(by cases e),fun _ _ e=>(by cases e), ?_⟩
   refine (show ak Tryz.prog 105 [_] _ _ from hpo _).pthen ?_
   have vz' :∀b,upd G3 i1 b i2=some (.obj [.v (.int .i64 0), .sl [] .full, .sl [] .full, .sl [] .full, .sl [] .full, .s [], .v (.bool false), .v (.int .i64 0), .sl [] .full, .sl [] .full, .sl [] .full, .sl [] .full, .v (.int .i64 0)] 39):=fun b=>by rw [ag _ _ n21]; exact q2'
   simp only [go_sem,r1,r2,vz'];have k1:∀ {tb:TypeId} {z:AV} {xs:List AV} {n:Nat} {g:Heap},OwE tb g G3 n z xs→Ab.Sub h g→(∀id,nid z=some id→id≠i1∧id≠i2)→∀a b,OwE tb h (upd (upd G3 i1 a) i2 b) n z xs:=fun w hg hn a b=>(w.less hg).keep fun id e=>by
    rw [ag _ _ (hn id e).2,ag _ _ (hn id e).1]
   have new:∀ {tb:TypeId} {z:AV} {xs:List AV} {n:Nat} {g:Heap},OwE tb g G3 n z xs→Ab.Sub G g→∀id,nid z=some id→id≠i1∧id≠i2:=fun w hg id e=>⟨cF (w.nid e).1 (hg _ _ q1),cF (w.nid e).1 (hg _ _ vz)⟩
   have n2' :=new (o2.sub (s2.trans s3)) (.refl _);have n3' :=new (o3.sub s3) s1;have n4' :=new o4 (s1.trans s2);have n1' :∀id,nid z1=some id→id≠i1∧id≠i2:=fun id e=>⟨hz1 id e,hz2 id e⟩
   have aG:∀k,nid z1=some k→G k≠none:=v1.there fun k hk=>hk
   refine .mk _ (.refl _) (.refl _) ⟨⟨z1,z2,z3,z4,by rw [hpp,hcC]; rfl,⟨xs,k1 (v1.sub s03) (.refl _) n1' _ _,hn,fun j a b hj=>hlo j a b (by omega) hj,fun a b=> ?_⟩,k1 (o2.sub (s2.trans s3)) vs n2' _ _,k1 (o3.sub s3) (vs.trans s1) n3' _ _,k1 o4 (vs.trans (s1.trans s2)) n4' _ _, ?_, ?_, ?_, ?_, ?_, ?_⟩,((vs.trans s03).put h1 _).put n2 _⟩
   ·have hm:=(hmy a b (by omega)).sub s03
    obtain ⟨f,l,ex,of,ol,hap,hy⟩:=hm;obtain ⟨af,al⟩:=hy z1 (List.mem_singleton.2 rfl);have kf:∀k,nid f=some k→k≠i1∧k≠i2:=fun k hk=>⟨kD (of.nid hk).2.2 q1' (by decide),kD (of.nid hk).2.2 q2' (by decide)⟩
    have kl:∀k,nid l=some k→k≠i1∧k≠i2:=fun k hk=>⟨kD (ol.nid hk).2.2 q1' (by decide),kD (ol.nid hk).2.2 q2' (by decide)⟩
    obtain ⟨f0,l0,ex0,of0,ol0,_⟩:=hmy a b (by omega)
    obtain ⟨rfl,rfl⟩:f0=f∧l0=l:=by
     rw [ex0] at ex;simp only [AV.agg.injEq,List.cons.injEq,true_and,and_true] at ex;exact ex
    have gf:∀k,nid f0=some k→G k≠none:=of0.there fun k hk=>hk
    have gl:∀k,nid l0=some k→G k≠none:=ol0.there fun k hk=>hk
    refine ⟨f0,l0,ex,k1 of (.refl _) kf _ _,k1 ol (.refl _) kl _ _,hap,fun y hy=> ?_⟩
    simp only [List.mem_cons,List.not_mem_nil,or_false] at hy;rcases hy with rfl|rfl|rfl|rfl
    ·exact ⟨af,al⟩
    ·exact ⟨dP o2 gf,dP o2 gl⟩
    ·exact ⟨dP o3 fun k hk=>s1.some k (gf k hk),dP o3 fun k hk=>s1.some k (gl k hk)⟩
    ·exact ⟨dP o4 fun k hk=>(s1.trans s2).some k (gf k hk),dP o4 fun k hk=>(s1.trans s2).some k (gl k hk)⟩
   ·exact dP o2 aG
   ·exact dP o3 fun k hk=>s1.some k (aG k hk)
   ·exact dP o4 fun k hk=>(s1.trans s2).some k (aG k hk)
   ·exact dP o3 (o2.there fun k hk=>hk)
   ·exact dP o4 ((o2.sub s2).there fun k hk=>hk)
   ·exact dP o4 (o3.there fun k hk=>hk)
end Go.Proofs.YtnlbeamjpefpfaaGreatDoor
namespace Go.Ab
open Go
theorem mV {A B C X:List AV} {k m:Nat} (hk:k=A.length) (hm:m=X.length) (h:X.length=B.length):(A++(B++C)).take k++X++(A++(B++C)).drop (k+m)=A++(X++C):=by
 subst hk; subst hm
 rw [List.take_left,←List.drop_drop,List.drop_left,h,List.drop_left,List.append_assoc]
theorem D6 {A B C X:List AV} {k1 k2 k3 k4:Nat} (h1:k1=A.length+X.length) (h2:k2=k1+B.length) (h3:k3=A.length) (h4:k4=k3+X.length) (hc:X.length≤C.length):
  List.take k3 (List.take k1 (A++(B++C))++B++List.drop k2 (A++(B++C)))++X++List.drop k4 (List.take k1 (A++(B++C))++B++List.drop k2 (A++(B++C)))=A++(X++(B++C.drop X.length)):=by
 subst h1; subst h2; subst h3; subst h4
 have e1:List.take (A.length+X.length) (A++(B++C))=A++List.take X.length (B++C):=by rw [List.take_append,List.take_of_length_le (by omega),Nat.add_sub_cancel_left]
 have e2:List.drop (A.length+X.length+B.length) (A++(B++C))=C.drop X.length:=by
  rw [Nat.add_assoc,←List.drop_drop,List.drop_left,Nat.add_comm,←List.drop_drop,List.drop_left]
 rw [e1,e2,List.append_assoc A];have e3:(List.take X.length (B++C)).length=X.length:=by rw [List.length_take,V4]; omega
 have e4:A++(List.take X.length (B++C)++B++List.drop X.length C)=A++(List.take X.length (B++C)++(B++C.drop X.length)):=by simp only [List.append_assoc]
 rw [List.append_assoc A,e4];exact mV rfl rfl e3.symm
theorem D7 {A Z R X B:List AV} {k1 k2 k3 k4:Nat} (h1:k1=A.length) (h2:k2=k1+X.length) (h3:k3=A.length+X.length) (h4:k4=k3+B.length) (hz:Z.length=X.length+B.length):
  List.take k3 (List.take k1 (A++Z++R)++X++List.drop k2 (A++Z++R))++B++List.drop k4 (List.take k1 (A++Z++R)++X++List.drop k2 (A++Z++R))=A++(X++(B++R)):=by
 subst h1; subst h2; subst h3; subst h4
 obtain ⟨Z1,Z2,rfl,e1⟩:∃Z1 Z2,Z=Z1++Z2∧Z1.length=X.length:=⟨Z.take X.length,Z.drop X.length,(List.take_append_drop _ _).symm,by rw [List.length_take]; omega⟩
 have e2:Z2.length=B.length:=by rw [V4] at hz; omega
 have e3:A++(Z1++Z2)++R=A++(Z1++(Z2++R)):=by simp only [List.append_assoc]
 rw [e3,mV rfl rfl e1.symm,←List.append_assoc A X,mV (by rw [V4]) rfl e2.symm,List.append_assoc]
end Go.Ab
namespace Go.Proofs.YtnlbeamjpefpfaaGreatDoor
open Go Go.Ab Go.Bf
theorem FM {h:Heap} {v:AV} {id off len cap:Nat} {cs:List AV} {t:TypeId} (hv:v.cells.length=5) (hid:h id=some (.obj cs t)) (hcs:cs≠ []):ak Tryz.prog 106 [.sl [v] .full, .ob id off len cap 5] h fun r h' =>r= .v (.bool false)∧h' =h:=
 ua (U:=U) (tS:=27) (tR:=4) (e:=78) hU Tryz.func106 (by kernel_rfl) (by kernel_rfl) (by kernel_rfl) (by kernel_rfl) (by simp only [go_sem]) (by simp only [go_sem]) (by simp only [go_sem]; exact hv) (by simp) hid hcs
set_option maxRecDepth 100000 in
theorem CW (y:AV) (xs:List AV) (v:AV) (i:Nat) (h0 h:Heap) (hw:OwE 78 h0 h 5 y xs) (hs0:Ab.Sub h0 h) (hi:i≤xs.length) (hl:xs.length≤1000000) (hv:v.cells.length=5) (hva:fit v 5):
  ak Tryz.prog 70 [y, .v (.int .i64 i), .sl [v] .full] h fun r h' =>OwE 78 h0 h' 5 r (xs.take i++([v]++xs.drop i))∧(∀k,h k≠none→nid y≠some k→h' k=h k)∧∀k,nid r=some k→h k=none∨nid y=some k:=by
 rcases hw with ⟨rfl,rfl⟩|⟨id,hg,cap,rest,rfl,hid,hr,hc,hsz⟩
 ·obtain rfl:i=0:=by simpa using hi
  refine ak.body hU hm Tryz.func70 rfl (by kernel_rfl) 95 rfl [.tmp 6] rfl (VZ rfl) (fun hwf=> ?_)
  simp -implicitDefEqProofs only [go_sem];refine ⟨by omega,by omega,hv, .ob (by simp only [go_sem]) (jy.ow (xs:= [v]) (by intro z hz; rw [List.mem_singleton.1 hz]; simp only [go_sem]; exact hv) (by simp [aq]) rfl fun id y' h' hid hw ho=> ?_)⟩
  have hw' :Ow 78 h' 5 id y' [v]:=by have:=hw; simp only [go_sem] at this; exact this
  simp -implicitDefEqProofs only [go_sem];refine .same (.refl _) ⟨.inr ⟨id,hs0.none hid,hw'⟩,fun k hk _=>ho k (fun e=>hk (by rw [e]; exact hid)),fun k hk=> ?_⟩
  rw [show ax [y']=y' from rfl,hw'.nid] at hk
  cases hk;exact .inl hid
 ·have how:OwE 78 h0 h 5 (.ob id 0 xs.length cap 5) xs:= .inr ⟨id,hg,cap,rest,rfl,hid,hr,hc,hsz⟩
  have hfl:=aW hsz;refine ak.body hU hm Tryz.func70 rfl (by kernel_rfl) 95 rfl [.tmp 6] rfl (VZ rfl) (fun hwf=> ?_)
  simp -implicitDefEqProofs only [go_sem];refine ⟨by omega,by omega, ?_⟩
  cases d1:((i:Int)==(xs.length:Int))
  case true=>
   have hin:i=xs.length:=by
    have:(i:Int)=(xs.length:Int):=by simpa using d1
    omega
   simp -implicitDefEqProofs only [go_sem];subst hin;refine ⟨by omega, ?_⟩
   refine OwE.app (U:=U) (tb:=78) how hs0 (.sl (by intro z hz; rw [List.mem_singleton.1 hz]; exact hv) .full:Rd h 5 (.sl [v] .full) [v]) (by simp only [go_sem]) (by decide) (by simp only [go_sem,ne_eq,not_false_eq_true]) (by simp only [go_sem]) (by simp) (by simp only [go_sem,List.length_cons,List.length_nil]; omega) fun id2 y' h' g2 hor hw ho=> ?_
   simp -implicitDefEqProofs only [go_sem];have e1:xs.take xs.length++([v]++xs.drop xs.length)=xs++ [v]:=by simp
   refine .same (.refl _) ⟨by have:OwE 78 h0 h' 5 y' (xs++ [v]):= .inr ⟨id2,g2,hw⟩; rw [←e1] at this; exact this,fun k hk hk2=>ho k fun e=> ?_,fun k hk=> ?_⟩
   ·rcases hor with hor|⟨l,c,ey⟩
    ·exact hk (by rw [e]; exact hor)
    ·cases ey
     exact hk2 (by rw [e]; rfl)
   ·rw [show ax [y']=y' from rfl,hw.nid] at hk
    cases hk;rcases hor with hor|⟨l,c,ey⟩
    ·exact .inl hor
    ·cases ey; exact .inr rfl
  have hne:i<xs.length:=by
   have:¬(i:Int)=(xs.length:Int):=by simpa using d1
   omega
  have wn:IntKind.i64.wrap ((xs.length:Int)+1)=((xs.length+1:Nat):Int):=by rw [bx _ (by omega)]; omega
  have wi:=V6 i (by omega)
  have wm:IntKind.i64.wrap (((xs.length+1:Nat):Int) - (i:Int))=((xs.length+1 - i:Nat):Int):=by rw [bx _ (by omega)]; omega
  have f1:aq xs=aq (xs.take i)++aq (xs.drop i):=by rw [←kO,List.take_append_drop]
  have f2:(aq (xs.take i)).length=i*5:=by rw [aW (sz:=5) fun z hz=>hsz z (List.mem_of_mem_take hz),List.length_take,Nat.min_eq_left hi]
  have f3:(aq (xs.drop i)).length=(xs.length - i)*5:=by rw [aW (sz:=5) fun z hz=>hsz z (List.mem_of_mem_drop hz),List.length_drop]
  have f4:aq (xs.take i++([v]++xs.drop i))=aq (xs.take i)++(v.cells++aq (xs.drop i)):=by simp [aq]
  have f5:Sized 5 (xs.take i++([v]++xs.drop i)):=fun z hz=>by
   rcases List.mem_append.1 hz with hz|hz
   ·exact hsz z (List.mem_of_mem_take hz)
   ·rcases List.mem_append.1 hz with hz|hz
    ·rw [List.mem_singleton.1 hz]; exact hv
    ·exact hsz z (List.mem_of_mem_drop hz)
  have f6:(xs.take i++([v]++xs.drop i)).length=xs.length+1:=by simp; omega
  have f6' :(xs.take i++v::xs.drop i).length=xs.length+1:=f6;cases d2:decide ((cap:Int)<((xs.length+1:Nat):Int))
  ·have e2:=V3 d2
   simp -implicitDefEqProofs only [go_sem,wn,d2];refine ⟨by omega, ?_⟩
   simp -implicitDefEqProofs only [go_sem,wi];have hcs:aq xs++rest≠ []:=by
    intro e;have:=congrArg List.length e;rw [V4,hfl] at this;simp at this;omega
   refine ⟨by omega,by omega,by omega,by omega,by omega,by omega, ?_⟩
   refine (FM hv hid hcs).pthen ?_;simp -implicitDefEqProofs only [go_sem];refine .calls cN [0,1,2,3,4,5,6,7,8] (fun _ _ e=>by cases e) (by kernel_rfl) rfl ?_
   simp -implicitDefEqProofs only [go_sem,wi,hid,Nat.sub_zero];have hmin:min (xs.length+1 - i) (xs.length+1 - (i+1))=xs.length - i:=by omega
   refine ⟨by omega,by omega,by omega,by omega,by omega,by omega,xs.drop i,by rw [hmin,List.length_drop],by rw [hmin,V4,hfl,hr]; omega, ?q1,fun z hz=>hsz z (List.mem_of_mem_drop hz),by rw [List.length_drop]; omega,by rw [V4,hfl,hr]; omega,(by intro _ _ e; cases e),by omega,by omega,by omega,hv,by omega, ?ln, ?fin⟩
   case q1=>rw [hmin,f1,List.append_assoc,←f2,List.drop_left,←f3,List.take_left]
   case ln=>simp only [V4,List.length_take,List.length_drop,hfl,hr,f3]; omega
   have hrl:(5:Nat)≤rest.length:=by rw [hr]; omega
   have hfv:aq [v]=v.cells:=by simp [aq]
   have key:=D6 (A:=aq (xs.take i)) (B:=aq (xs.drop i)) (C:=rest) (X:=aq [v]) (k1:=(i+1)*5) (k2:=(i+1)*5+(aq (xs.drop i)).length) (k3:=i*5) (k4:=i*5+(aq [v]).length) (by rw [hfv,hv,f2]; omega) rfl f2.symm rfl (by rw [hfv,hv]; exact hrl)
   rw [←List.append_assoc (aq (xs.take i)) (aq (xs.drop i)) rest,←f1] at key;rw [key];have e8:aq (xs.take i)++(aq [v]++(aq (xs.drop i)++rest.drop (aq [v]).length))=aq (xs.take i++([v]++xs.drop i))++rest.drop 5:=by rw [f4,hfv,hv]; simp only [List.append_assoc]
   rw [e8];refine .same (.refl _) ⟨.inr ⟨id,hg,cap,rest.drop 5,by rw [←f6]; rfl,ah _ _ _,by rw [List.length_drop,hr,f6']; omega,by have:=f6; simp only [List.cons_append,List.nil_append] at this; rw [this]; omega,f5⟩,fun k hk hk2=>ag _ _ fun e=>hk2 (by rw [e]; rfl),fun k hk=> .inr hk⟩
  ·have e2:=V2 d2
   simp -implicitDefEqProofs only [go_sem,wn,d2,wm];refine ⟨by omega, ?_⟩
   simp -implicitDefEqProofs only [go_sem,hid];have eA:List.take (i*5) (aq xs++rest)=aq (xs.take i):=by rw [f1,List.append_assoc,←f2,List.take_left]
   refine ⟨by omega,by omega,by omega,by omega,by omega,by omega,by rw [V4,hfl]; omega, ?_⟩
   rw [Nat.sub_zero,eA];obtain ⟨Z,eZ⟩:∃Z,cG (AV.agg [AV.s [],AV.s [],AV.s [],AV.sl [] Perm.full,AV.sl [] Perm.full]) (xs.length+1 - i) 5=Z:=⟨_,rfl⟩;have lZ:Z.length=(xs.length+1 - i)*5:=by rw [←eZ]; simp [cG]
   rw [eZ];intro id2 cap2 rest2 hid2 hc2 hr2;have hx:¬id=id2:=fun e=>by rw [e,hid2] at hid; cases hid
   simp -implicitDefEqProofs only [go_sem];have hfv:aq [v]=v.cells:=by simp [aq]
   refine ⟨by omega,by omega,by omega,hv,by omega,by simp only [V4,f2,lZ,hr2]; omega, ?_⟩
   refine .calls cN [0,1,2,3,4,5,6,7,8] (fun _ _ e=>by cases e) (by kernel_rfl) rfl ?_
   simp -implicitDefEqProofs only [go_sem,wi,hid,hx,Nat.sub_zero];have hmin:min (xs.length - i) (i+(xs.length+1 - i) - (i+1))=xs.length - i:=by omega
   have l0:(aq (xs.take i)++Z++rest2).length=(i+(xs.length+1 - i))*5+(cap2 - (i+(xs.length+1 - i)))*5:=by simp only [V4,f2,lZ,hr2]; omega
   refine ⟨by omega,by omega,by omega,by omega,by omega,by omega,xs.drop i,by rw [hmin,List.length_drop],by rw [hmin,V4,hfl,hr]; omega, ?q2,fun z hz=>hsz z (List.mem_of_mem_drop hz),by rw [List.length_drop]; omega, ?lm,(by intro _ _ e; cases e), ?fim⟩
   case q2=>rw [hmin,f1,List.append_assoc,←f2,List.drop_left,←f3,List.take_left]
   case lm=>rw [hfv]; simp only [V4,List.length_take,List.length_drop,l0,hv]; omega
   rw [D7 f2.symm rfl (by rw [hfv,hv,f2]; omega) rfl (by rw [hfv,hv,lZ,f3]; omega)]
   have e8:aq (xs.take i)++(aq [v]++(aq (xs.drop i)++rest2))=aq (xs.take i++([v]++xs.drop i))++rest2:=by rw [f4,hfv]; simp only [List.append_assoc]
   rw [e8];have e9:i+(xs.length+1 - i)=xs.length+1:=by omega
   rw [e9] at hr2 hc2⊢;refine .same (.refl _) ⟨.inr ⟨id2,hs0.none hid2,cap2,rest2,by rw [←f6]; rfl,ah _ _ _,by rw [hr2,f6'],by rw [f6']; omega,f5⟩,fun k hk hk2=>ag _ _ fun e=>hk (by rw [e]; exact hid2),fun k hk=> .inl (by cases hk; exact hid2)⟩
theorem De {h:Heap} {v:AV} {id off len cap:Nat} {cs:List AV} {t:TypeId} (hv:v.cells.length=4) (hid:h id=some (.obj cs t)) (hcs:cs≠ []):ak Tryz.prog 143 [.sl [v] .full, .ob id off len cap 4] h fun r h' =>r= .v (.bool false)∧h' =h:=
 ua (U:=U) (tS:=75) (tR:=4) (e:=111) hU Tryz.func143 (by kernel_rfl) (by kernel_rfl) (by kernel_rfl) (by kernel_rfl) (by simp only [go_sem]) (by simp only [go_sem]) (by simp only [go_sem]; exact hv) (by simp) hid hcs
set_option maxRecDepth 100000 in
theorem Ba (y:AV) (xs:List AV) (v:AV) (i:Nat) (h0 h:Heap) (hw:OwE 111 h0 h 4 y xs) (hs0:Ab.Sub h0 h) (hi:i≤xs.length) (hl:xs.length≤1000000) (hv:v.cells.length=4) (hva:fit v 4):
  ak Tryz.prog 109 [y, .v (.int .i64 i), .sl [v] .full] h fun r h' =>OwE 111 h0 h' 4 r (xs.take i++([v]++xs.drop i))∧(∀k,h k≠none→nid y≠some k→h' k=h k)∧∀k,nid r=some k→h k=none∨nid y=some k:=by
 rcases hw with ⟨rfl,rfl⟩|⟨id,hg,cap,rest,rfl,hid,hr,hc,hsz⟩
 ·obtain rfl:i=0:=by simpa using hi
  refine ak.body hU hm Tryz.func109 rfl (by kernel_rfl) 95 rfl [.tmp 6] rfl (VZ rfl) (fun hwf=> ?_)
  simp -implicitDefEqProofs only [go_sem];refine ⟨by omega,by omega,hv, .ob (by simp only [go_sem]) (jy.ow (xs:= [v]) (by intro z hz; rw [List.mem_singleton.1 hz]; simp only [go_sem]; exact hv) (by simp [aq]) rfl fun id y' h' hid hw ho=> ?_)⟩
  have hw' :Ow 111 h' 4 id y' [v]:=by have:=hw; simp only [go_sem] at this; exact this
  simp -implicitDefEqProofs only [go_sem];refine .same (.refl _) ⟨.inr ⟨id,hs0.none hid,hw'⟩,fun k hk _=>ho k (fun e=>hk (by rw [e]; exact hid)),fun k hk=> ?_⟩
  rw [show ax [y']=y' from rfl,hw'.nid] at hk
  cases hk;exact .inl hid
 ·have how:OwE 111 h0 h 4 (.ob id 0 xs.length cap 4) xs:= .inr ⟨id,hg,cap,rest,rfl,hid,hr,hc,hsz⟩
  have hfl:=aW hsz;refine ak.body hU hm Tryz.func109 rfl (by kernel_rfl) 95 rfl [.tmp 6] rfl (VZ rfl) (fun hwf=> ?_)
  simp -implicitDefEqProofs only [go_sem];refine ⟨by omega,by omega, ?_⟩
  cases d1:((i:Int)==(xs.length:Int))
  case true=>
   have hin:i=xs.length:=by
    have:(i:Int)=(xs.length:Int):=by simpa using d1
    omega
   simp -implicitDefEqProofs only [go_sem];subst hin;refine ⟨by omega, ?_⟩
   refine OwE.app (U:=U) (tb:=111) how hs0 (.sl (by intro z hz; rw [List.mem_singleton.1 hz]; exact hv) .full:Rd h 4 (.sl [v] .full) [v]) (by simp only [go_sem]) (by decide) (by simp only [go_sem,ne_eq,not_false_eq_true]) (by simp only [go_sem]) (by simp) (by simp only [go_sem,List.length_cons,List.length_nil]; omega) fun id2 y' h' g2 hor hw ho=> ?_
   simp -implicitDefEqProofs only [go_sem];have e1:xs.take xs.length++([v]++xs.drop xs.length)=xs++ [v]:=by simp
   refine .same (.refl _) ⟨by have:OwE 111 h0 h' 4 y' (xs++ [v]):= .inr ⟨id2,g2,hw⟩; rw [←e1] at this; exact this,fun k hk hk2=>ho k fun e=> ?_,fun k hk=> ?_⟩
   ·rcases hor with hor|⟨l,c,ey⟩
    ·exact hk (by rw [e]; exact hor)
    ·cases ey
     exact hk2 (by rw [e]; rfl)
   ·rw [show ax [y']=y' from rfl,hw.nid] at hk
    cases hk;rcases hor with hor|⟨l,c,ey⟩
    ·exact .inl hor
    ·cases ey; exact .inr rfl
  have hne:i<xs.length:=by
   have:¬(i:Int)=(xs.length:Int):=by simpa using d1
   omega
  have wn:IntKind.i64.wrap ((xs.length:Int)+1)=((xs.length+1:Nat):Int):=by rw [bx _ (by omega)]; omega
  have wi:=V6 i (by omega)
  have wm:IntKind.i64.wrap (((xs.length+1:Nat):Int) - (i:Int))=((xs.length+1 - i:Nat):Int):=by rw [bx _ (by omega)]; omega
  have f1:aq xs=aq (xs.take i)++aq (xs.drop i):=by rw [←kO,List.take_append_drop]
  have f2:(aq (xs.take i)).length=i*4:=by rw [aW (sz:=4) fun z hz=>hsz z (List.mem_of_mem_take hz),List.length_take,Nat.min_eq_left hi]
  have f3:(aq (xs.drop i)).length=(xs.length - i)*4:=by rw [aW (sz:=4) fun z hz=>hsz z (List.mem_of_mem_drop hz),List.length_drop]
  have f4:aq (xs.take i++([v]++xs.drop i))=aq (xs.take i)++(v.cells++aq (xs.drop i)):=by simp [aq]
  have f5:Sized 4 (xs.take i++([v]++xs.drop i)):=fun z hz=>by
   rcases List.mem_append.1 hz with hz|hz
   ·exact hsz z (List.mem_of_mem_take hz)
   ·rcases List.mem_append.1 hz with hz|hz
    ·rw [List.mem_singleton.1 hz]; exact hv
    ·exact hsz z (List.mem_of_mem_drop hz)
  have f6:(xs.take i++([v]++xs.drop i)).length=xs.length+1:=by simp; omega
  have f6' :(xs.take i++v::xs.drop i).length=xs.length+1:=f6;cases d2:decide ((cap:Int)<((xs.length+1:Nat):Int))
  ·have e2:=V3 d2
   simp -implicitDefEqProofs only [go_sem,wn,d2];refine ⟨by omega, ?_⟩
   simp -implicitDefEqProofs only [go_sem,wi];have hcs:aq xs++rest≠ []:=by
    intro e;have:=congrArg List.length e;rw [V4,hfl] at this;simp at this;omega
   refine ⟨by omega,by omega,by omega,by omega,by omega,by omega, ?_⟩
   refine (De hv hid hcs).pthen ?_;simp -implicitDefEqProofs only [go_sem];refine .calls cN [0,1,2,3,4,5,6,7,8] (fun _ _ e=>by cases e) (by kernel_rfl) rfl ?_
   simp -implicitDefEqProofs only [go_sem,wi,hid,Nat.sub_zero];have hmin:min (xs.length+1 - i) (xs.length+1 - (i+1))=xs.length - i:=by omega
   refine ⟨by omega,by omega,by omega,by omega,by omega,by omega,xs.drop i,by rw [hmin,List.length_drop],by rw [hmin,V4,hfl,hr]; omega, ?q1,fun z hz=>hsz z (List.mem_of_mem_drop hz),by rw [List.length_drop]; omega,by rw [V4,hfl,hr]; omega,(by intro _ _ e; cases e),by omega,by omega,by omega,hv,by omega, ?ln, ?fin⟩
   case q1=>rw [hmin,f1,List.append_assoc,←f2,List.drop_left,←f3,List.take_left]
   case ln=>simp only [V4,List.length_take,List.length_drop,hfl,hr,f3]; omega
   have hrl:(4:Nat)≤rest.length:=by rw [hr]; omega
   have hfv:aq [v]=v.cells:=by simp [aq]
   have key:=D6 (A:=aq (xs.take i)) (B:=aq (xs.drop i)) (C:=rest) (X:=aq [v]) (k1:=(i+1)*4) (k2:=(i+1)*4+(aq (xs.drop i)).length) (k3:=i*4) (k4:=i*4+(aq [v]).length) (by rw [hfv,hv,f2]; omega) rfl f2.symm rfl (by rw [hfv,hv]; exact hrl)
   rw [←List.append_assoc (aq (xs.take i)) (aq (xs.drop i)) rest,←f1] at key;rw [key];have e8:aq (xs.take i)++(aq [v]++(aq (xs.drop i)++rest.drop (aq [v]).length))=aq (xs.take i++([v]++xs.drop i))++rest.drop 4:=by rw [f4,hfv,hv]; simp only [List.append_assoc]
   rw [e8];refine .same (.refl _) ⟨.inr ⟨id,hg,cap,rest.drop 4,by rw [←f6]; rfl,ah _ _ _,by rw [List.length_drop,hr,f6']; omega,by have:=f6; simp only [List.cons_append,List.nil_append] at this; rw [this]; omega,f5⟩,fun k hk hk2=>ag _ _ fun e=>hk2 (by rw [e]; rfl),fun k hk=> .inr hk⟩
  ·have e2:=V2 d2
   simp -implicitDefEqProofs only [go_sem,wn,d2,wm];refine ⟨by omega, ?_⟩
   simp -implicitDefEqProofs only [go_sem,hid];have eA:List.take (i*4) (aq xs++rest)=aq (xs.take i):=by rw [f1,List.append_assoc,←f2,List.take_left]
   refine ⟨by omega,by omega,by omega,by omega,by omega,by omega,by rw [V4,hfl]; omega, ?_⟩
   rw [Nat.sub_zero,eA];obtain ⟨Z,eZ⟩:∃Z,cG (AV.agg [AV.s [],AV.v (Value.int IntKind.i64 0),AV.v (Value.int IntKind.i64 0),AV.s []]) (xs.length+1 - i) 4=Z:=⟨_,rfl⟩;have lZ:Z.length=(xs.length+1 - i)*4:=by rw [←eZ]; simp [cG]
   rw [eZ];intro id2 cap2 rest2 hid2 hc2 hr2;have hx:¬id=id2:=fun e=>by rw [e,hid2] at hid; cases hid
   simp -implicitDefEqProofs only [go_sem];have hfv:aq [v]=v.cells:=by simp [aq]
   refine ⟨by omega,by omega,by omega,hv,by omega,by simp only [V4,f2,lZ,hr2]; omega, ?_⟩
   refine .calls cN [0,1,2,3,4,5,6,7,8] (fun _ _ e=>by cases e) (by kernel_rfl) rfl ?_
   simp -implicitDefEqProofs only [go_sem,wi,hid,hx,Nat.sub_zero];have hmin:min (xs.length - i) (i+(xs.length+1 - i) - (i+1))=xs.length - i:=by omega
   have l0:(aq (xs.take i)++Z++rest2).length=(i+(xs.length+1 - i))*4+(cap2 - (i+(xs.length+1 - i)))*4:=by simp only [V4,f2,lZ,hr2]; omega
   refine ⟨by omega,by omega,by omega,by omega,by omega,by omega,xs.drop i,by rw [hmin,List.length_drop],by rw [hmin,V4,hfl,hr]; omega, ?q2,fun z hz=>hsz z (List.mem_of_mem_drop hz),by rw [List.length_drop]; omega, ?lm,(by intro _ _ e; cases e), ?fim⟩
   case q2=>rw [hmin,f1,List.append_assoc,←f2,List.drop_left,←f3,List.take_left]
   case lm=>rw [hfv]; simp only [V4,List.length_take,List.length_drop,l0,hv]; omega
   rw [D7 f2.symm rfl (by rw [hfv,hv,f2]; omega) rfl (by rw [hfv,hv,lZ,f3]; omega)]
   have e8:aq (xs.take i)++(aq [v]++(aq (xs.drop i)++rest2))=aq (xs.take i++([v]++xs.drop i))++rest2:=by rw [f4,hfv]; simp only [List.append_assoc]
   rw [e8];have e9:i+(xs.length+1 - i)=xs.length+1:=by omega
   rw [e9] at hr2 hc2⊢;refine .same (.refl _) ⟨.inr ⟨id2,hs0.none hid2,cap2,rest2,by rw [←f6]; rfl,ah _ _ _,by rw [hr2,f6'],by rw [f6']; omega,f5⟩,fun k hk hk2=>ag _ _ fun e=>hk (by rw [e]; exact hid2),fun k hk=> .inl (by cases hk; exact hid2)⟩
end Go.Proofs.YtnlbeamjpefpfaaGreatDoor
namespace Go.Ab
open Go
noncomputable def pick (H:Heap) (l:List Nat):Heap:=fun j=>if j∈l then H j else none
theorem bz {H:Heap} {l:List Nat} {j:Nat} (hj:j∈l):pick H l j=H j:=if_pos hj
theorem gV {H h' :Heap} {l:List Nat} (hs:∀j∈l,h' j=H j):Sub (pick H l) h' :=fun j b hb=>by
 by_cases hj:j∈l
 ·rw [bz hj] at hb; rw [hs j hj]; exact hb
 ·rw [pick,if_neg hj] at hb; cases hb
theorem br {H:Heap} {l:List Nat}:Sub (pick H l) H:=gV fun _ _=>rfl
end Go.Ab
namespace Go.Proofs.YtnlbeamjpefpfaaGreatDoor
open Go Go.Ab Go.Bf
def bZ (c:aJ) (f l:AV):List AV:= [.s c.id, .s c.owner, .s c.state,f,l]
theorem qC {h0 h:Heap} {s:an} (y1 y2 y3 y4:AV) {k o:Nat} {A B:List AV} {t:TypeId} {c:aJ} {f l:AV} (ho:o=A.length) (hk:h k=some (.obj (A++(bZ c f l++B)) t)) (ht:t≠82)
  (hlo:OwE 82 h0 h 3 l (c.log.map fF)) (hs0:Ab.Sub h0 h) (hll:c.log.length≤1000000) (actor what:Txt):
  ak Tryz.prog 69 [.agg ([.v (.int .i64 s.tick),y1,y2,y3,y4]++fB s.policy++ [.v (.int .i64 s.version)]), .ptr k o, .s actor, .s what] h fun r h' =>∃l',OwE 82 h0 h' 3 l' ((c.log++ [(⟨s.tick,actor,what⟩:sr)]).map fF)∧h' k=some (.obj (A++(bZ c f l' ++B)) t)∧(∀j,h j≠none→j≠k→nid l≠some j→h' j=h j)∧∀j,nid l' =some j→h j=none∨nid l=some j:=by
 cases hpp:s.policy with
 |mk pid pset palg ptgt prules pkids pobls=>
 have hcC:fB (.mk pid pset palg ptgt prules pkids pobls)= [.s pid, .v (.bool pset), .v (.int .i64 palg),aT ptgt, .sl (prules.map aB) .no, .sl (pkids.map aK) .no,au pobls]:=by simp [fB,aV]
 refine ak.body hU hm Tryz.func69 rfl (by kernel_rfl) 22 rfl [] rfl (VZ rfl) (fun hwf=> ?_)
 simp only [go_sem,hcC,List.cons_append,List.nil_append];intro i1 h1;simp only [go_sem];obtain ⟨H,eH⟩:∃H,upd h i1 (some (.obj [.v (.int .i64 s.tick),y1,y2,y3,y4, .s pid, .v (.bool pset), .v (.int .i64 palg),aT ptgt, .sl (prules.map aB) .no, .sl (pkids.map aK) .no,au pobls, .v (.int .i64 s.version)] 39))=H:=⟨_,rfl⟩;have n1k:k≠i1:=fun e=>by rw [e,h1] at hk; cases hk
 have g1:H i1=some (.obj [.v (.int .i64 s.tick),y1,y2,y3,y4, .s pid, .v (.bool pset), .v (.int .i64 palg),aT ptgt, .sl (prules.map aB) .no, .sl (pkids.map aK) .no,au pobls, .v (.int .i64 s.version)] 39):=by rw [←eH,ah]
 have gk:H k=some (.obj (A++(bZ c f l++B)) t):=by rw [←eH,ag _ _ n1k]; exact hk
 have hH:Ab.Sub h H:=by rw [←eH]; exact (Sub.refl h).put h1 _
 have hoj:∀j,j≠i1→H j=h j:=fun j hj=>by rw [←eH]; exact ag _ _ hj
 rw [eH];clear eH;refine .stage (hm2 k (.obj (A++(bZ c f l++B)) t) i1 (.obj [.v (.int .i64 s.tick),y1,y2,y3,y4, .s pid, .v (.bool pset), .v (.int .i64 palg),aT ptgt, .sl (prules.map aB) .no, .sl (pkids.map aK) .no,au pobls, .v (.int .i64 s.version)] 39)) [0,1,2,3,4,5,6,7,8,9,10,11,12,13] [14] (.hm2 gk g1) (by kernel_rfl) ?_
 have hc4:(A++(bZ c f l++B))[o+4]? =some l:=by rw [ho,List.getElem?_append_right (by omega),Nat.add_sub_cancel_left]; rfl
 obtain ⟨CS,eCS⟩:∃CS,A++(bZ c f l++B)=CS:=⟨_,rfl⟩;rw [eCS] at hc4 gk⊢;simp only [go_sem,rz,ry _ _ n1k,hc4];have hap1:Rd H 3 (.sl [fF ⟨s.tick,actor,what⟩] .full) [fF ⟨s.tick,actor,what⟩]:= .sl (by intro z hz; rw [List.mem_singleton.1 hz]; rfl) .full
 refine OwE.app (U:=U) (tb:=82) (hlo.sub hH) (hs0.trans hH) hap1 (by simp only [go_sem]) (by decide) (by simp only [go_sem,ne_eq,not_false_eq_true]) (by simp only [go_sem]) (by simp) (by simp only [go_sem,List.length_cons,List.length_nil,V0]; omega) fun id2 y' h' g2 hor hw ho2=> ?_
 have hor' :H id2=none∨nid l=some id2:=by
  rcases hor with hor|⟨l,c,ey⟩
  ·exact .inl hor
  ·exact .inr (by rw [ey]; rfl)
 have k2:k≠id2:=by
  rcases hor' with hor|hor
  ·exact fun e=>by rw [←e,gk] at hor; cases hor
  ·exact (kD ((hlo.sub hH).nid hor).2.2 gk ht).symm
 have i2:i1≠id2:=by
  rcases hor' with hor|hor
  ·exact fun e=>by rw [←e,g1] at hor; cases hor
  ·exact fun e=>(hlo.nid hor).2.1 (by rw [←e]; exact h1)
 have gk' :=(ho2 k k2).trans gk;have gi' :=(ho2 i1 i2).trans g1;refine ⟨.hm2 gk' gi', ?_⟩;simp only [go_sem];refine ⟨cN,(fun _ _ e=>by cases e), ?_⟩
 simp only [go_sem,gk',hw.rd.fit,hw.rd.cells];have lCS:CS.length=A.length+(5+B.length):=by rw [←eCS]; simp [bZ]; omega
 have e5:List.take (o+4) CS++ [y']++List.drop (o+4+1) CS=A++(bZ c f y' ++B):=by
  have:=mV (A:=A++ [.s c.id, .s c.owner, .s c.state,f]) (B:= [l]) (C:=B) (X:= [y']) (k:=o+4) (m:=1) (by rw [ho]; simp) rfl rfl
  simp only [←eCS,bZ,List.append_assoc,List.cons_append,List.nil_append] at this⊢;exact this
 rw [e5];refine ⟨by omega,(fun _ _ e=>by cases e), .same (.refl _) ⟨y', ?_,ah ..,fun j hj hjk hjl=> ?_,fun j hj=> ?_⟩⟩
 ·have hw' :Ow 82 (upd h' k (some (.obj (A++(bZ c f y' ++B)) t))) 3 id2 y' (c.log.map fF++ [fF ⟨s.tick,actor,what⟩]):=hw.same (ag _ _ k2.symm)
  rw [List.map_append];exact .inr ⟨id2,g2,hw'⟩
 ·have hj2:j≠id2:=by
   rcases hor' with hor|hor
   ·intro e
    have:=hoj j (fun e' =>hj (by rw [e']; exact h1))
    rw [e,hor] at this;exact hj (by rw [e]; exact this.symm)
   ·exact fun e=>hjl (by rw [e]; exact hor)
  have hj1:j≠i1:=fun e=>hj (by rw [e]; exact h1)
  rw [ag _ _ hjk,ho2 j hj2,hoj j hj1]
 ·have:id2=j:=by have:=hw.nid; rw [hj] at this; exact (Option.some.inj this).symm
  rw [←this];rcases hor' with hor|hor
  ·refine .inl ?_
   cases hh:h id2 with
   |none=>rfl
   |some b=>rw [hH _ _ hh] at hor; cases hor
  ·exact .inr hor
theorem Gn {h:Heap} (f:cI) {k:Nat} {name:Txt} (hk:h k=some (.obj [.s name] 9)):ak Tryz.prog 108 [bw f, .ptr k 0] h fun r h' =>r= .v (.bool (geB f.name name))∧h' =h:=by
 refine ak.body hU hm Tryz.func108 rfl (by kernel_rfl) 8 rfl [.tmp 3] rfl (VZ rfl) (fun hwf=> ?_)
 simp only [go_sem,bw];intro i1 h1;have n1:k≠i1:=fun e=>by subst e; rw [hk] at h1; cases h1
 simp only [go_sem,aj,n1,hk];exact .mk _ (.refl _) (.ai h1) ⟨rfl,rfl⟩
theorem DF {fs:List cI} {name:Txt} {v:bX} (hx:¬fs.findIdx (fun f=>geB f.name name)<fs.length):eL fs name v=fs++ [⟨name,v⟩]:=by
 unfold eL;simp only [List.getElem?_eq_none (show fs.length≤fs.findIdx (fun f=>geB f.name name) by omega)]
theorem xh {fs:List cI} {name:Txt} {v:bX} (hx:fs.findIdx (fun f=>geB f.name name)<fs.length) (he:fs[fs.findIdx (fun f=>geB f.name name)].name=name):eL fs name v=fs.set (fs.findIdx (fun f=>geB f.name name)) ⟨name,v⟩:=by
 unfold eL;simp only [List.getElem?_eq_getElem hx,he,if_true]
theorem DG {fs:List cI} {name:Txt} {v:bX} (hx:fs.findIdx (fun f=>geB f.name name)<fs.length) (he:fs[fs.findIdx (fun f=>geB f.name name)].name≠name):eL fs name v=fs.take (fs.findIdx (fun f=>geB f.name name))++ [⟨name,v⟩]++fs.drop (fs.findIdx (fun f=>geB f.name name)):=by
 unfold eL;simp only [List.getElem?_eq_getElem hx,he,if_false]
set_option maxRecDepth 100000 in
theorem Jd {h0 h:Heap} {k o:Nat} {A B:List AV} {t:TypeId} {c:aJ} {f l:AV} (ho:o=A.length) (hk:h k=some (.obj (A++(bZ c f l++B)) t)) (ht:t≠111)
  (hfo:OwE 111 h0 h 4 f (c.fields.map bw)) (hs0:Ab.Sub h0 h) (hff:c.fields.length≤1000000) (name:Txt) (v:bX):
  ak Tryz.prog 71 [.ptr k o, .s name,aU v] h fun r h' =>∃f',OwE 111 h0 h' 4 f' ((eL c.fields name v).map bw)∧h' k=some (.obj (A++(bZ c f' l++B)) t)∧(∀j,h j≠none→j≠k→nid f≠some j→h' j=h j)∧∀j,nid f' =some j→h j=none∨nid f=some j:=by
 have hc3:(A++(bZ c f l++B))[o+3]? =some f:=by rw [ho,List.getElem?_append_right (by omega),Nat.add_sub_cancel_left]; rfl
 have lCS:(A++(bZ c f l++B)).length=A.length+(5+B.length):=by simp [bZ]; omega
 have e5:∀y',List.take (o+3) (A++(bZ c f l++B))++ [y']++List.drop (o+3+1) (A++(bZ c f l++B))=A++(bZ c y' l++B):=fun y' =>by
  have:=mV (A:=A++ [.s c.id, .s c.owner, .s c.state]) (B:= [f]) (C:=l::B) (X:= [y']) (k:=o+3) (m:=1) (by rw [ho]; simp) rfl rfl
  simp only [bZ,List.append_assoc,List.cons_append,List.nil_append] at this⊢;exact this
 obtain ⟨CS,eCS⟩:∃CS,A++(bZ c f l++B)=CS:=⟨_,rfl⟩;rw [eCS] at hc3 hk lCS e5;refine ak.body hU hm Tryz.func71 rfl (by kernel_rfl) 60 rfl [] rfl (VZ rfl) (fun hwf=> ?_)
 simp only [go_sem,aU];intro i1 h1;simp only [go_sem];intro i2 h2;have n21:=aH h2;have n2:=aD h2;have nk1:k≠i1:=fun e=>by rw [e,h1] at hk; cases hk
 have nk2:k≠i2:=fun e=>by rw [e,n2] at hk; cases hk
 obtain ⟨H,eH⟩:∃H,upd (upd h i1 (some (.obj [.s name] 9))) i2 (some (.obj [.v (.int .i64 v.kind), .v (.int .i64 v.n), .s v.s] 24))=H:=⟨_,rfl⟩;have g1:H i1=some (.obj [.s name] 9):=by rw [←eH,ag _ _ n21.symm,ah]
 have g2:H i2=some (.obj [.v (.int .i64 v.kind), .v (.int .i64 v.n), .s v.s] 24):=by rw [←eH,ah]
 have gk:H k=some (.obj CS t):=by rw [←eH,ag _ _ nk2,ag _ _ nk1]; exact hk
 have hH:Ab.Sub h H:=by rw [←eH]; exact ((Sub.refl h).put h1 _).put n2 _
 have hoj:∀j,h j≠none→H j=h j:=fun j hj=>by rw [←eH,ag _ _ (fun e=>hj (by rw [e]; exact n2)),ag _ _ (fun e=>hj (by rw [e]; exact h1))]
 rw [eH];clear eH;simp only [go_sem,gk,hc3];refine (vR f _ c.fields (fun f=>geB f.name name) _ [.ptr i1 0] _ (hfo.sub hH).rd (by simp) (by simp; omega) (mP (fun _=>rfl) _) fun i a b=>by
  rw [V1]; exact Gn _ g1).pthen ?_
 have hns:∀G,Ab.Sub cN G:=fun G _ _ e=>by cases e
 by_cases hx:c.fields.findIdx (fun f=>geB f.name name)<c.fields.length
 ·obtain ⟨i,ei⟩:∃i,c.fields.findIdx (fun f=>geB f.name name)=i:=⟨_,rfl⟩
  have hxm:i<(c.fields.map bw).length:=by rw [←ei]; simpa using hx
  have e1:ixD (fun f=>geB f.name name) c.fields=(i:Nat):=by rw [ixD,ei]; exact if_pos (by rw [←ei]; exact hx)
  have d1:decide (((i:Nat):Int)<0)=false:=decide_eq_false (by omega)
  rw [e1];simp only [go_sem,d1];refine ⟨.of (by kernel_rfl), ?_⟩
  simp only [go_sem,gk,hc3];refine (hfo.sub hH).rd.idx (e:=111) i rfl hxm DC (by decide) fun p hp1=> ?_
  simp only [go_sem];refine hp1.field (f:=0) (off:=0) (t:=9) rfl Gg fun p2 hp2=> ?_
  have hld:=hp2.part (U:=U) (ty:=9) Gg (by rw [V1,I4]; exact VZ rfl)
  simp only [go_sem,hld,V1,bw,g1];have hxi:i<c.fields.length:=by rw [←ei]; exact hx
  cases d2:(c.fields[i].name==name)
  ·have hne:c.fields[i].name≠name:=by simpa using d2
   simp only [go_sem];refine .stage (pick H [k,i1,i2]) [0,1,2,3,4,5,6,7,8,9,10,11,12] [13] br (by kernel_rfl) ?_
   simp only [go_sem,bz (show k∈ [k,i1,i2] by simp),bz (show i1∈ [k,i1,i2] by simp),bz (show i2∈ [k,i1,i2] by simp),gk,g1,g2,hc3]
   refine (Ba f _ (bw ⟨name,v⟩) i h0 H (hfo.sub hH) (hs0.trans hH) (by omega) (by simpa using hff) rfl (by simp [bw,Ab.fit])).mono fun f' H1 ⟨w1,fr,ap⟩=> ?_
   have nk:nid f≠some k:=fun e=>kD ((hfo.sub hH).nid e).2.2 gk ht rfl
   have n1' :nid f≠some i1:=fun e=>(hfo.nid e).2.1 h1
   have n2' :nid f≠some i2:=fun e=>(hfo.nid e).2.1 n2
   have gk' :H1 k=some (.obj CS t):=(fr k (by rw [gk]; simp) nk).trans gk
   refine ⟨gV fun j hj=> ?_, ?_⟩
   ·simp only [List.mem_cons,List.not_mem_nil,or_false] at hj
    rcases hj with rfl|rfl|rfl
    ·exact fr _ (by rw [gk]; simp) nk
    ·exact fr _ (by rw [g1]; simp) n1'
    ·exact fr _ (by rw [g2]; simp) n2'
   simp only [go_sem];refine ⟨cN,hns _, ?_⟩;simp only [go_sem,gk',w1.rd.fit,w1.rd.cells];have hk2:nid f'≠some k:=fun e=>by
    rcases ap k e with h|h
    ·rw [gk] at h; cases h
    ·exact nk h
   have em:List.take i (c.fields.map bw)++([bw ⟨name,v⟩]++List.drop i (c.fields.map bw))=(eL c.fields name v).map bw:=by
    rw [DG hx (by simp only [ei]; exact hne),ei]
    simp [List.map_append,List.map_take,List.map_drop]
   rw [e5];rw [em] at w1;refine ⟨by omega,hns _, .same (.refl _) ⟨f',w1.keep fun id e=>ag _ _ fun e' =>hk2 (by rw [←e']; exact e),ah ..,fun j hj hjk hjl=> ?_,fun j hj=> ?_⟩⟩
   ·rw [ag _ _ hjk,fr j (by rw [hoj j hj]; exact hj) hjl,hoj j hj]
   ·rcases ap j hj with h|h
    ·exact .inl (hH.none h)
    ·exact .inr h
  ·have heq:c.fields[i].name=name:=by simpa using d2
   simp only [go_sem];refine ⟨.of (by kernel_rfl), ?_⟩
   simp only [go_sem,gk,g2,hc3];obtain ⟨id1,hg1,o1⟩:=(hfo.sub hH).ow (by intro e; rw [e] at hxm; cases hxm)
   have t1:id1≠k:=kD o1 gk ht;have o1' :=o1;obtain ⟨cap,rest,ey,hid,hr,hcap,hsz⟩:=o1';refine o1.idx (U:=U) (e:=111) i rfl hxm DC (by decide) ?_
   simp only [go_sem,hid];have hxl:=V1 (f:=bw) (l:=c.fields) (i:=i) (h:=hxm);have e2:List.take (i*4+1) (aq (c.fields.map bw)++rest)++ [.v (.int .i64 v.kind), .v (.int .i64 v.n), .s v.s]++List.drop (i*4+1+3) (aq (c.fields.map bw)++rest)=aq ((eL c.fields name v).map bw)++rest:=by
    refine (j5 hsz i hxm 1 [.v (.int .i64 v.kind), .v (.int .i64 v.n), .s v.s] (VZ rfl)).trans ?_;rw [xh hx (by simp only [ei]; exact heq),ei,List.map_set,hxl]
    have:AV.agg (over (bw c.fields[i]).cells 1 [.v (.int .i64 v.kind), .v (.int .i64 v.n), .s v.s])=bw ⟨name,v⟩:=by rw [←heq]; rfl
    rw [this]
   have lw:(eL c.fields name v).length=c.fields.length:=by rw [xh hx (by simp only [ei]; exact heq),List.length_set]
   rw [e2];refine ⟨by rw [V4,aW hsz]; omega, .same (.refl _) ⟨f, .inr ⟨id1,hg1,cap,rest,by rw [ey]; simp [lw],ah ..,by rw [hr]; simp [lw],by rw [V0] at hcap⊢; omega,bl (f:=bw) (n:=4) (fun _=>rfl) _⟩,(ag _ _ t1.symm).trans (by rw [eCS]; exact gk),fun j hj hjk hjl=> ?_,fun j hj=> .inr hj⟩⟩
   have:j≠id1:=fun e=>hjl (by rw [e]; exact o1.nid)
   rw [ag _ _ this,hoj j hj]
 ·have e1:ixD (fun f=>geB f.name name) c.fields= -1:=by rw [ixD]; exact if_neg hx
  have d1:decide ((-1:Int)<0)=true:=rfl;rw [e1];simp only [go_sem,d1];refine .stage (pick H [k,i1,i2]) [0,1,2,3,4,5,6,7,8,9,10,11] [12] br (by kernel_rfl) ?_
  simp only [go_sem,bz (show k∈ [k,i1,i2] by simp),bz (show i1∈ [k,i1,i2] by simp),bz (show i2∈ [k,i1,i2] by simp),gk,g1,g2,hc3]
  have hap1:Rd H 4 (.sl [bw ⟨name,v⟩] .full) [bw ⟨name,v⟩]:= .sl (by intro z hz; rw [List.mem_singleton.1 hz]; rfl) .full
  refine OwE.app (U:=U) (tb:=111) (hfo.sub hH) (hs0.trans hH) hap1 (by simp only [go_sem]) (by decide) (by simp only [go_sem,ne_eq,not_false_eq_true]) (by simp only [go_sem]) (by simp) (by simp only [go_sem,List.length_cons,List.length_nil,V0]; omega) fun id2 y' h' g3 hor hw ho2=> ?_
  have hor' :H id2=none∨nid f=some id2:=by
   rcases hor with hor|⟨l,c,ey⟩
   ·exact .inl hor
   ·exact .inr (by rw [ey]; rfl)
  have k2:k≠id2:=by
   rcases hor' with hor|hor
   ·exact fun e=>by rw [←e,gk] at hor; cases hor
   ·exact (kD ((hfo.sub hH).nid hor).2.2 gk ht).symm
  have j1:i1≠id2:=by
   rcases hor' with hor|hor
   ·exact fun e=>by rw [←e,g1] at hor; cases hor
   ·exact fun e=>(hfo.nid hor).2.1 (by rw [←e]; exact h1)
  have j2:i2≠id2:=by
   rcases hor' with hor|hor
   ·exact fun e=>by rw [←e,g2] at hor; cases hor
   ·exact fun e=>(hfo.nid hor).2.1 (by rw [←e]; exact n2)
  refine ⟨gV fun j hj=>ho2 j ?_, ?_⟩
  ·simp only [List.mem_cons,List.not_mem_nil,or_false] at hj
   rcases hj with rfl|rfl|rfl
   ·exact k2
   ·exact j1
   ·exact j2
  have gk' :=(ho2 k k2).trans gk;simp only [go_sem];refine ⟨cN,hns _, ?_⟩;simp only [go_sem,gk',hw.rd.fit,hw.rd.cells];rw [e5,DF hx];refine ⟨by omega,hns _, .same (.refl _) ⟨y', ?_,ah ..,fun j hj hjk hjl=> ?_,fun j hj=> ?_⟩⟩
  ·have hw' :Ow 111 (upd h' k (some (.obj (A++(bZ c y' l++B)) t))) 4 id2 y' (c.fields.map bw++ [bw ⟨name,v⟩]):=hw.same (ag _ _ k2.symm)
   rw [List.map_append];exact .inr ⟨id2,g3,hw'⟩
  ·have hj2:j≠id2:=by
    rcases hor' with hor|hor
    ·intro e
     have:=hoj j hj;rw [e,hor] at this;exact hj (by rw [e]; exact this.symm)
    ·exact fun e=>hjl (by rw [e]; exact hor)
   rw [ag _ _ hjk,ho2 j hj2,hoj j hj]
  ·have:id2=j:=by have:=hw.nid; rw [hj] at this; exact (Option.some.inj this).symm
   rw [←this];rcases hor' with hor|hor
   ·exact .inl (hH.none hor)
   ·exact .inr hor
theorem As {cs:List aJ} {id:Txt} (h:bM cs id=true):bp cs id=cs[findD cs id]'(gX h):=by
 unfold bp;rw [if_pos h,List.getD_eq_getElem?_getD,List.getElem?_eq_getElem (gX h)]; rfl
theorem Au {cs:List aJ} {id:Txt} (h:bM cs id=false):bp cs id=lG:=by
 unfold bp;rw [if_neg (by simp [h])]
theorem kP {g h:Heap} {p:Perm}:Frz g h (.sl [] p) (.sl [] .no):= .sl _ _ _ rfl (fun i h1=>by cases h1) (fun i h1=>by cases h1)
theorem AY {g h:Heap} (c:aJ):Frz g h (bJ c) (bJ c):= .agg _ _ rfl fun j a b=>by
 rcases j with _|_|_|_|_|j
 ·exact .pure rfl
 ·exact .pure rfl
 ·exact .pure rfl
 ·exact .pure (show cC (fG c.fields)=true from bn (fun _=>rfl) c.fields)
 ·exact .pure (show cC (pX c.log)=true from bn (fun _=>rfl) c.log)
 ·simp [kZ] at a; omega
set_option maxRecDepth 100000 in
theorem uJ {h:Heap} {x:AV} {s:an} (hb:RdS h x s) (id:Txt) (hf:Few s):ak Tryz.prog 25 [x, .s id] h fun r h' =>r= .tup [bJ (bp s.cases id), .v (.bool (bM s.cases id))]∧h' =h:=
 ak.freeze fun g hg _=>by
 replace hb:=hb.sub hg;have hb0:=hb;obtain ⟨y1,y2,y3,y4,rfl,⟨xs,hc,hn,hcs⟩,h2,h3,h4⟩:=hb;cases hpp:s.policy with
 |mk pid pset palg ptgt prules pkids pobls=>
 have hcC:fB (.mk pid pset palg ptgt prules pkids pobls)= [.s pid, .v (.bool pset), .v (.int .i64 palg),aT ptgt, .sl (prules.map aB) .no, .sl (pkids.map aK) .no,au pobls]:=by simp [fB,aV]
 rw [hpp,hcC] at hb0;refine ak.body hU hm Tryz.func25 rfl (by kernel_rfl) 23 rfl [.cell 4 78, .tmp 5] rfl (VZ rfl) (fun hwf=> ?_)
 simp -implicitDefEqProofs only [go_sem,hcC,List.cons_append,List.nil_append];intro i1 h1;simp -implicitDefEqProofs only [go_sem];intro i2 h2';have n21:=aH h2';have n2:=aD h2';simp -implicitDefEqProofs only [go_sem,aj,n21.symm];have hs:∀a b,Ab.Sub g (upd (upd g i1 a) i2 b):=fun a b=>((Sub.refl g).put h1 a).put n2 b
 refine (zE (hb0.sub (hs _ _)) id hf.cases).pthen ?_;cases d1:bM s.cases id
 ·simp -implicitDefEqProofs only [go_sem]
  refine .mk _ (.refl _) (.refl _) ⟨hs _ _, .tup [.agg [.s [], .s [], .s [], .sl [] .no, .sl [] .no], .v (.bool false)], .tup _ _ rfl fun i a b=> ?_,by rw [Au d1]; rfl⟩
  rcases i with _|_|i
  ·refine .agg _ _ rfl fun j c d=> ?_
   rcases j with _|_|_|_|_|j
   ·exact .pure rfl
   ·exact .pure rfl
   ·exact .pure rfl
   ·exact kP
   ·exact kP
   ·simp at c; omega
  ·exact .pure rfl
  ·simp at a; omega
 ·have hlt:=gX d1
  have hltx:findD s.cases id<xs.length:=by omega
  obtain ⟨f,l,ex,hfl,hlg⟩:=hcs _ hltx hlt;simp -implicitDefEqProofs only [go_sem,aj,n21.symm];refine hc.idx (e:=78) (findD s.cases id) rfl hltx l8 (by decide) fun p hp1=> ?_
  have hld:=fun a b=>(hp1.sub (hs a b)).all (U:=U) (ty:=78) (by simp only [go_sem]) (by rw [l8,ex]; rfl) (by simp only [go_sem]; rw [ex]; rfl)
  simp -implicitDefEqProofs only [go_sem,hld];refine (uc ((hcs _ hltx hlt).sub (hs _ _)) (hf.fields _ (V5 hlt)) (hf.log _ (V5 hlt))).pthen ?_;rw [←As d1];simp -implicitDefEqProofs only [go_sem,bJ,kZ,fG,pX];refine .mk _ (.refl _) (.refl _) ⟨hs _ _,_, .tup _ _ rfl fun i a b=> ?_,rfl⟩
  rcases i with _|_|i
  ·exact AY _
  ·exact .pure rfl
  ·simp at a; omega
set_option maxRecDepth 100000 in
theorem zX {h:Heap} {x:AV} {s:an} (hb:RdS h x s) (o:OpD) (hf:Few s):ak Tryz.prog 56 [x,opA o] h fun r h' =>r= .v (.int .i64 (bW s o))∧h' =h:=by
 have hb0:=hb;obtain ⟨y1,y2,y3,y4,rfl,⟨xs,hc,hn,hcs⟩,h2,h3,h4⟩:=hb;cases hpp:s.policy with
 |mk pid pset palg ptgt prules pkids pobls=>
 have hcC:fB (.mk pid pset palg ptgt prules pkids pobls)= [.s pid, .v (.bool pset), .v (.int .i64 palg),aT ptgt, .sl (prules.map aB) .no, .sl (pkids.map aK) .no,au pobls]:=by simp [fB,aV]
 rw [hpp,hcC] at hb0;refine ak.body hU hm Tryz.func56 rfl (by kernel_rfl) 67 rfl [.tmp 4] rfl (VZ rfl) (fun hwf=> ?_)
 simp -implicitDefEqProofs only [go_sem,hcC,opA,opC,List.cons_append,List.nil_append];intro i1 h1;simp -implicitDefEqProofs only [go_sem];intro i2 h2';have n21:=aH h2';have n2:=aD h2';simp -implicitDefEqProofs only [go_sem,aj,n21.symm];have hs:∀a b,Ab.Sub h (upd (upd h i1 a) i2 b):=fun a b=>((Sub.refl h).put h1 a).put n2 b
 refine (uJ (hb0.sub (hs _ _)) o.case hf).pthen ?_;simp -implicitDefEqProofs only [go_sem,bJ,kZ,fG,pX];intro i3 h3';have n32:=aH h3';have h3b:=aD h3';have n31:=aH h3b;have n3:=aD h3b;have hs3:∀a b d,Ab.Sub h (upd (upd (upd h i1 a) i2 b) i3 d):=fun a b d=>(((Sub.refl h).put h1 a).put n2 b).put n3 d
 have hA:=(fun a b d=>Sub.trans (Sub.refl h) (hs3 a b d))
 simp -implicitDefEqProofs only [go_sem,aj,n32.symm];have hfl:(bp s.cases o.case).fields.length≤1000000000:=by
  unfold bp;split
  ·rename_i ht
   have hlt:=gX ht;rw [List.getD_eq_getElem?_getD,List.getElem?_eq_getElem hlt];exact Nat.le_trans (hf.fields _ (V5 hlt)) (by decide)
  ·exact Nat.zero_le _
 cases d1:bM s.cases o.case
 ·simp -implicitDefEqProofs only [go_sem]
  exact .mk _ (.refl _) (hs3 _ _ _) ⟨by simp only [bW,d1]; rfl,rfl⟩
 ·simp -implicitDefEqProofs only [go_sem,aj,n32.symm]
  cases k3:(o.kind==3)
  ·have p3:o.kind≠3:=by simpa using k3
   simp -implicitDefEqProofs only [go_sem];cases k2:(o.kind==2)
   ·have p2:o.kind≠2:=by simpa using k2
    have k2n:(o.kind !=2)=true:=by simp [bne,k2]
    cases d256:decide ((256:Int)≤((bp s.cases o.case).log.length:Int))
    ·have p256:¬256≤(bp s.cases o.case).log.length:=by have:=V3 d256; omega
     simp -implicitDefEqProofs only [go_sem,aj,n32.symm,V0,k3,k2n,d256];cases k4:(o.kind==4)
     ·have p4:o.kind≠4:=by simpa using k4
      simp -implicitDefEqProofs only [go_sem];exact .mk _ (.refl _) (hs3 _ _ _) ⟨by simp [bW,d1,p3,p2,p256,p4,ax],rfl⟩
     ·have p4:o.kind=4:=by simpa using k4
      simp -implicitDefEqProofs only [go_sem,aj,n32.symm];refine (CO _ _ _).pthen ?_;cases dfo:jY (bp s.cases o.case).state o.to
      ·simp -implicitDefEqProofs only [go_sem]
       exact .mk _ (.refl _) (hs3 _ _ _) ⟨by simp [bW,d1,p256,p4,dfo,ax],rfl⟩
      ·simp -implicitDefEqProofs only [go_sem]
       exact .mk _ (.refl _) (hs3 _ _ _) ⟨by simp [bW,d1,p256,p4,dfo,ax],rfl⟩
    ·have p256:256≤(bp s.cases o.case).log.length:=by have:=V2 d256; omega
     simp -implicitDefEqProofs only [go_sem,V0,k2n,d256];exact .mk _ (.refl _) (hs3 _ _ _) ⟨by simp [bW,d1,p3,p2,p256,ax],rfl⟩
   ·have p2:o.kind=2:=by simpa using k2
    have k2n:(o.kind !=2)=false:=by simp [bne,k2]
    simp -implicitDefEqProofs only [go_sem,aj,n32.symm,k3,k2n];cases k4:(o.kind==4)
    ·have p4:o.kind≠4:=by simpa using k4
     simp -implicitDefEqProofs only [go_sem];exact .mk _ (.refl _) (hs3 _ _ _) ⟨by simp [bW,d1,p2,ax],rfl⟩
    ·have p4:o.kind=4:=by simpa using k4
     omega
  ·have p3:o.kind=3:=by simpa using k3
   cases d16:decide ((16:Int)≤((bp s.cases o.case).fields.length:Int))
   ·have p16:¬16≤(bp s.cases o.case).fields.length:=by have:=V3 d16; omega
    simp -implicitDefEqProofs only [go_sem,V0,d16];cases k2:(o.kind==2)
    ·have p2:o.kind≠2:=by simpa using k2
     have k2n:(o.kind !=2)=true:=by simp [bne,k2]
     cases d256:decide ((256:Int)≤((bp s.cases o.case).log.length:Int))
     ·have p256:¬256≤(bp s.cases o.case).log.length:=by have:=V3 d256; omega
      simp -implicitDefEqProofs only [go_sem,aj,n32.symm,V0,k3,k2n,d256];cases dcl:((bp s.cases o.case).state==gw)
      ·have pcl:(bp s.cases o.case).state≠gw:=by simpa using dcl
       simp only [gw] at dcl;simp -implicitDefEqProofs only [go_sem,aj,n32.symm,dcl];cases k4:(o.kind==4)
       ·have p4:o.kind≠4:=by simpa using k4
        simp -implicitDefEqProofs only [go_sem];exact .mk _ (.refl _) (hs3 _ _ _) ⟨by simp [bW,d1,p3,p16,p256,pcl,ax],rfl⟩
       ·have p4:o.kind=4:=by simpa using k4
        omega
      ·have pcl:(bp s.cases o.case).state=gw:=by simpa using dcl
       simp only [gw] at dcl;simp -implicitDefEqProofs only [go_sem,dcl];exact .mk _ (.refl _) (hs3 _ _ _) ⟨by simp [bW,d1,p3,p16,p256,pcl,ax],rfl⟩
     ·have p256:256≤(bp s.cases o.case).log.length:=by have:=V2 d256; omega
      simp -implicitDefEqProofs only [go_sem,V0,k2n,d256];exact .mk _ (.refl _) (hs3 _ _ _) ⟨by simp [bW,d1,p3,p16,p256,ax],rfl⟩
    ·have p2:o.kind=2:=by simpa using k2
     omega
   ·have p16:16≤(bp s.cases o.case).fields.length:=by have:=V2 d16; omega
    simp -implicitDefEqProofs only [go_sem,aj,n32.symm,V0,d16];refine (AR (show RdC _ (.agg [.s (bp s.cases o.case).id, .s (bp s.cases o.case).owner, .s (bp s.cases o.case).state,AV.sl ((bp s.cases o.case).fields.map bw) .no,AV.sl ((bp s.cases o.case).log.map fF) .no]) (bp s.cases o.case) from rdC _ _) o.field hfl).pthen ?_
    simp -implicitDefEqProofs only [go_sem,aU];cases dv:((dZ (bp s.cases o.case).fields o.field).kind==(0:Int) && ((dZ (bp s.cases o.case).fields o.field).n==(0:Int) && (dZ (bp s.cases o.case).fields o.field).s==([]:Txt)))
    ·have pv:eqV (dZ (bp s.cases o.case).fields o.field) ay=false:=dv
     simp -implicitDefEqProofs only [go_sem];cases k2:(o.kind==2)
     ·have p2:o.kind≠2:=by simpa using k2
      have k2n:(o.kind !=2)=true:=by simp [bne,k2]
      cases d256:decide ((256:Int)≤((bp s.cases o.case).log.length:Int))
      ·have p256:¬256≤(bp s.cases o.case).log.length:=by have:=V3 d256; omega
       simp -implicitDefEqProofs only [go_sem,aj,n32.symm,V0,k3,k2n,d256];cases dcl:((bp s.cases o.case).state==gw)
       ·have pcl:(bp s.cases o.case).state≠gw:=by simpa using dcl
        simp only [gw] at dcl;simp -implicitDefEqProofs only [go_sem,aj,n32.symm,dcl];cases k4:(o.kind==4)
        ·have p4:o.kind≠4:=by simpa using k4
         simp -implicitDefEqProofs only [go_sem];exact .mk _ (.refl _) (hs3 _ _ _) ⟨by simp [bW,d1,p3,p16,pv,p256,pcl,ax],rfl⟩
        ·have p4:o.kind=4:=by simpa using k4
         omega
       ·have pcl:(bp s.cases o.case).state=gw:=by simpa using dcl
        simp only [gw] at dcl;simp -implicitDefEqProofs only [go_sem,dcl];exact .mk _ (.refl _) (hs3 _ _ _) ⟨by simp [bW,d1,p3,p16,pv,p256,pcl,ax],rfl⟩
      ·have p256:256≤(bp s.cases o.case).log.length:=by have:=V2 d256; omega
       simp -implicitDefEqProofs only [go_sem,V0,k2n,d256];exact .mk _ (.refl _) (hs3 _ _ _) ⟨by simp [bW,d1,p3,p16,pv,p256,ax],rfl⟩
     ·have p2:o.kind=2:=by simpa using k2
      omega
    ·have pv:eqV (dZ (bp s.cases o.case).fields o.field) ay=true:=dv
     simp -implicitDefEqProofs only [go_sem];exact .mk _ (.refl _) (hs3 _ _ _) ⟨by simp [bW,d1,p3,p16,pv,ax],rfl⟩
set_option maxRecDepth 100000 in
theorem xF {h:Heap} {x:AV} {s:an} (hb:RdS h x s) (o:OpD) (hf:Few s) (h0:0<o.review) (hr:o.review≤9223372036854775807):ak Tryz.prog 57 [x,opA o] h fun r h' =>r= .v (.int .i64 (fz s o))∧h' =h:=by
 obtain ⟨y1,y2,y3,y4,rfl,⟨xs,hc,hn,hcs⟩,h2,h3,h4⟩:=hb;cases hpp:s.policy with
 |mk pid pset palg ptgt prules pkids pobls=>
 have hcC:fB (.mk pid pset palg ptgt prules pkids pobls)= [.s pid, .v (.bool pset), .v (.int .i64 palg),aT ptgt, .sl (prules.map aB) .no, .sl (pkids.map aK) .no,au pobls]:=by simp [fB,aV]
 have hfr:=hf.reviews;refine ak.body hU hm Tryz.func57 rfl (by kernel_rfl) 35 rfl [.tmp 4] rfl (VZ rfl) (fun hwf=> ?_)
 simp -implicitDefEqProofs only [go_sem,hcC,opA,opC,List.cons_append,List.nil_append];intro i1 h1;simp -implicitDefEqProofs only [go_sem];intro i2 h2';have n21:=aH h2';have n2:=aD h2';have hs:∀a b,Ab.Sub h (upd (upd h i1 a) i2 b):=fun a b=>((Sub.refl h).put h1 a).put n2 b
 simp -implicitDefEqProofs only [go_sem,aj,n21.symm,h2.len,V0];obtain ⟨n,en⟩:∃n:Nat,o.review=((n:Nat):Int)+1:=⟨(o.review - 1).toNat,by omega⟩
 have e1:ue s.reviews o.review=s.reviews[n]? :=by
  unfold ue;rw [if_pos (by omega),show (o.review - 1).toNat=n by omega]
 have w1:IntKind.i64.wrap (o.review - 1)=((n:Nat):Int):=by rw [bx _ (by omega)]; omega
 cases dlt:decide ((s.reviews.length:Int)<o.review)
 ·have hlt:n<s.reviews.length:=by have:=V3 dlt; omega
  have hgl:ue s.reviews o.review=some s.reviews[n]:=by rw [e1,List.getElem?_eq_getElem hlt]
  simp -implicitDefEqProofs only [go_sem,aj,n21.symm,w1];refine h2.idx (e:=71) n rfl (by simpa using hlt) (by simp only [go_sem]) (by decide) fun p hp1=> ?_
  simp -implicitDefEqProofs only [go_sem];refine hp1.field (f:=6) (off:=6) (t:=4) rfl (by simp only [go_sem]) fun p2 hp2=> ?_
  have hld:=fun a b=>(hp2.sub (hs a b)).part (U:=U) (ty:=4) (by simp only [go_sem]) (by rw [V1,show (U 4).sz=1 by simp only [go_sem]]; exact VZ rfl)
  simp -implicitDefEqProofs only [go_sem,hld,V1,fL];cases dop:s.reviews[n].isOpen
  ·simp -implicitDefEqProofs only [go_sem]
   exact .mk _ (.refl _) (hs _ _) ⟨by simp [fz,hgl,dop,ax],rfl⟩
  ·simp -implicitDefEqProofs only [go_sem,aj,n21.symm]
   refine ⟨.of (by kernel_rfl), ?_⟩
   simp -implicitDefEqProofs only [go_sem,w1];refine h2.idx (e:=71) n rfl (by simpa using hlt) (by simp only [go_sem]) (by decide) fun p hp1=> ?_
   simp -implicitDefEqProofs only [go_sem];refine hp1.field (f:=2) (off:=2) (t:=9) rfl Gg fun p2 hp2=> ?_
   have hld:=fun a b=>(hp2.sub (hs a b)).part (U:=U) (ty:=9) Gg (by rw [V1,I4]; exact VZ rfl)
   simp -implicitDefEqProofs only [go_sem,hld,V1,fL];cases dsu:(s.reviews[n].subj==o.subj)
   ·have psu:s.reviews[n].subj≠o.subj:=by simpa using dsu
    simp -implicitDefEqProofs only [go_sem];exact .mk _ (.refl _) (hs _ _) ⟨by simp [fz,hgl,dop,psu,ax],rfl⟩
   ·have psu:s.reviews[n].subj=o.subj:=by simpa using dsu
    simp -implicitDefEqProofs only [go_sem];exact .mk _ (.refl _) (hs _ _) ⟨by simp [fz,hgl,dop,psu,ax],rfl⟩
 ·have hge:¬n<s.reviews.length:=by have:=V2 dlt; omega
  have hgn:ue s.reviews o.review=none:=by rw [e1,List.getElem?_eq_none (by omega)]
  simp -implicitDefEqProofs only [go_sem];exact .mk _ (.refl _) (hs _ _) ⟨by simp [fz,hgn,ax],rfl⟩
set_option maxRecDepth 100000 in
theorem BT {h:Heap} {x:AV} {s:an} (hb:RdS h x s) (o:OpD) (hf:Few s) (hr:i64 o.review) (ht:i64 s.tick):ak Tryz.prog 31 [x,opA o] h fun r h' =>r= .v (.int .i64 (bI s o))∧h' =h:=by
 have hb0:=hb;have hfo:=JP o;have hrc:=fun (G:Heap) (hG:Ab.Sub h G)=>zX (hb.sub hG) o hf
 have hrl:=fun (G:Heap) (hG:Ab.Sub h G) (a:0<o.review)=>xF (hb.sub hG) o hf a hr.2
 have hfi:=fun (G:Heap) (hG:Ab.Sub h G)=>zE (hb.sub hG) o.case hf.cases
 have hha:=fun (G:Heap) (hG:Ab.Sub h G)=>zK (hb.sub hG) o.case o.field (Nat.le_trans hf.roles (by decide))
 obtain ⟨y1,y2,y3,y4,rfl,⟨xs,hc,hn,hcs⟩,h2,h3,h4⟩:=hb;cases hpp:s.policy with
 |mk pid pset palg ptgt prules pkids pobls=>
 have hcC:fB (.mk pid pset palg ptgt prules pkids pobls)= [.s pid, .v (.bool pset), .v (.int .i64 palg),aT ptgt, .sl (prules.map aB) .no, .sl (pkids.map aK) .no,au pobls]:=by simp [fB,aV]
 rw [hpp,hcC] at hb0 hrc hrl hfi hha;simp only [opA,opC,List.cons_append,List.nil_append] at hfo hrc hrl hfi hha;refine ak.body hU hm Tryz.func31 rfl (by kernel_rfl) 63 rfl [.tmp 4] rfl (VZ rfl) (fun hwf=> ?_)
 simp -implicitDefEqProofs only [go_sem,hcC,opA,opC,List.cons_append,List.nil_append];intro i1 h1;simp -implicitDefEqProofs only [go_sem];intro i2 h2';have n21:=aH h2';have n2:=aD h2';have hs:∀a b,Ab.Sub h (upd (upd h i1 a) i2 b):=fun a b=>((Sub.refl h).put h1 a).put n2 b
 simp -implicitDefEqProofs only [go_sem];refine (hfo _).pthen ?_;cases dform:fE o
 ·simp -implicitDefEqProofs only [go_sem]
  exact .mk _ (.refl _) (hs _ _) ⟨by simp [bI,dform,ax],rfl⟩
 ·simp -implicitDefEqProofs only [go_sem]
  have hok:okD o=true:=by simp only [fE,dG,Bool.and_eq_true] at dform; exact dform.2.1.2
  by_cases p1:o.kind=1
  ·have k1:(o.kind==1)=true:=by simp [p1]
   simp -implicitDefEqProofs only [go_sem,aj,n21.symm,k1];refine (hfi _ (hs _ _)).pthen ?_;cases dth:bM s.cases o.case
   ·simp -implicitDefEqProofs only [go_sem,aj,n21.symm,hc.len,hn]
    cases d64:decide ((64:Int)≤(s.cases.length:Int))
    ·have p64:¬64≤s.cases.length:=by have:=V3 d64; omega
     simp -implicitDefEqProofs only [go_sem];exact .mk _ (.refl _) (hs _ _) ⟨by simp [bI,dform,p1,dth,p64,ax],rfl⟩
    ·have p64:64≤s.cases.length:=by have:=V2 d64; omega
     simp -implicitDefEqProofs only [go_sem];exact .mk _ (.refl _) (hs _ _) ⟨by simp [bI,dform,p1,dth,p64,ax],rfl⟩
   ·simp -implicitDefEqProofs only [go_sem]
    exact .mk _ (.refl _) (hs _ _) ⟨by simp [bI,dform,p1,dth,ax],rfl⟩
  have k1:(o.kind==1)=false:=by simp [p1]
  simp -implicitDefEqProofs only [go_sem,k1]
  by_cases p2:o.kind=2
  ·have k2:(o.kind==2)=true:=by simp [p2]
   simp -implicitDefEqProofs only [go_sem,aj,n21.symm,k2];refine (hrc _ (hs _ _)).pthen ?_;simp -implicitDefEqProofs only [go_sem];exact .mk _ (.refl _) (hs _ _) ⟨by simp [bI,dform,p2,ax],rfl⟩
  have k2:(o.kind==2)=false:=by simp [p2]
  simp -implicitDefEqProofs only [go_sem,k2]
  by_cases p3:o.kind=3
  ·have k3:(o.kind==3)=true:=by simp [p3]
   simp -implicitDefEqProofs only [go_sem,aj,n21.symm,k3];refine (hrc _ (hs _ _)).pthen ?_;simp -implicitDefEqProofs only [go_sem];exact .mk _ (.refl _) (hs _ _) ⟨by simp [bI,dform,p3,ax],rfl⟩
  have k3:(o.kind==3)=false:=by simp [p3]
  simp -implicitDefEqProofs only [go_sem,k3]
  by_cases p4:o.kind=4
  ·have k4:(o.kind==4)=true:=by simp [p4]
   simp -implicitDefEqProofs only [go_sem,aj,n21.symm,k4];refine (hrc _ (hs _ _)).pthen ?_;simp -implicitDefEqProofs only [go_sem];exact .mk _ (.refl _) (hs _ _) ⟨by simp [bI,dform,p4,ax],rfl⟩
  have k4:(o.kind==4)=false:=by simp [p4]
  simp -implicitDefEqProofs only [go_sem,k4]
  by_cases p5:o.kind=5
  ·have k5:(o.kind==5)=true:=by simp [p5]
   simp -implicitDefEqProofs only [go_sem,aj,n21.symm,k5];have hrv:0<o.review:=by simpa [okD,p5] using hok
   refine (hrl _ (hs _ _) hrv).pthen ?_;simp -implicitDefEqProofs only [go_sem];exact .mk _ (.refl _) (hs _ _) ⟨by simp [bI,dform,p5,ax],rfl⟩
  have k5:(o.kind==5)=false:=by simp [p5]
  simp -implicitDefEqProofs only [go_sem,k5]
  by_cases p6:o.kind=6
  ·have k6:(o.kind==6)=true:=by simp [p6]
   simp -implicitDefEqProofs only [go_sem,aj,n21.symm,k6];simp -implicitDefEqProofs only [go_sem,h4.len,V0];cases d64:decide ((64:Int)≤(s.roles.length:Int))
   ·have p64:¬64≤s.roles.length:=by have:=V3 d64; omega
    simp -implicitDefEqProofs only [go_sem];exact .mk _ (.refl _) (hs _ _) ⟨by simp [bI,dform,p6,p64,ax],rfl⟩
   ·have p64:64≤s.roles.length:=by have:=V2 d64; omega
    simp -implicitDefEqProofs only [go_sem,aj,n21.symm];refine (hha _ (hs _ _)).pthen ?_;cases dha:uB s.roles ⟨o.case,o.field⟩
    ·simp -implicitDefEqProofs only [go_sem]
     exact .mk _ (.refl _) (hs _ _) ⟨by simp [bI,dform,p6,p64,dha,ax],rfl⟩
    ·simp -implicitDefEqProofs only [go_sem]
     exact .mk _ (.refl _) (hs _ _) ⟨by simp [bI,dform,p6,p64,dha,ax],rfl⟩
  have k6:(o.kind==6)=false:=by simp [p6]
  simp -implicitDefEqProofs only [go_sem,k6]
  by_cases p8:o.kind=8
  ·have k8:(o.kind==8)=true:=by simp [p8]
   simp -implicitDefEqProofs only [go_sem,aj,n21.symm,k8];have hrv:0<o.review∧o.review≤1099511627776:=by simpa [okD,p8] using hok
   have w1:IntKind.i64.wrap (1099511627776 - o.review)=1099511627776 - o.review:=bx _ (by omega)
   cases dt:decide (1099511627776 - o.review<s.tick)
   ·have pt:¬1099511627776 - o.review<s.tick:=V3 dt
    simp -implicitDefEqProofs only [go_sem,w1,dt];exact .mk _ (.refl _) (hs _ _) ⟨by simp [bI,dform,p8,pt,ax],rfl⟩
   ·have pt:1099511627776 - o.review<s.tick:=V2 dt
    simp -implicitDefEqProofs only [go_sem,w1,dt];exact .mk _ (.refl _) (hs _ _) ⟨by simp [bI,dform,p8,pt,ax],rfl⟩
  have k8:(o.kind==8)=false:=by simp [p8]
  simp -implicitDefEqProofs only [go_sem,k8];exact .mk _ (.refl _) (hs _ _) ⟨by have:¬(2≤o.kind∧o.kind≤4):=(by omega); simp only [bI,dform,p1,p5,p6,p8,this,if_false,Bool.true_eq_false,ax],rfl⟩
end Go.Proofs.YtnlbeamjpefpfaaGreatDoor
namespace Go.Bf
open Go Go.Ab
structure pU where
 kind:Int
 pos:Int
 n:Int
 s:Txt
def fm (t:pU):AV:= .agg [.v (.int .i64 t.kind), .v (.int .i64 t.pos), .v (.int .i64 t.n), .s t.s]
def wrd (c:UInt8):Bool:=ltr c||dgt c||(c.toNat:Int)==95
def nS (l:Txt):Nat:=l.foldl (fun n c=>n*10+(c.toNat - 48)) 0
def eJ (neg:Bool) (s:Txt):Int×Nat:=
 let d:=s.takeWhile dgt
 if d= []∨(1<d.length∧s.head? =some 48) then (0,0) else
 let v:Int:=if neg then -(nS d:Int) else (nS d:Int)
 if -9223372036854775808≤v∧v≤9223372036854775807 then (v,d.length) else (0,0)
def iU (s:Txt):Txt:=if bu (s.takeWhile wrd) then s.takeWhile wrd else []
def iI (c:UInt8):Int:=if dgt c then (c.toNat:Int) - 48 else if 97≤(c.toNat:Int)∧(c.toNat:Int)≤102 then (c.toNat:Int) - 87 else -1
def rH:Txt→Option UInt8
 |b::x::y::_=>if b=92∧0≤iI x∧0≤iI y∧Dc (UInt8.ofNat (16*iI x+iI y).toNat)=true then some (UInt8.ofNat (16*iI x+iI y).toNat) else none
 |_=>none
def rX:Nat→Txt→Nat→Txt→Txt×Nat
 |0,_,_,_=>([],0)
 |_+1,[],_,_=>([],0)
 |f+1,c::r,at_,out=>
  if c=34 then (if 64<out.length then ([],0) else (out,at_+1))
  else if Dc c=false then rX f r (at_+1) (out++ [c])
  else match rH (c::r) with
   |some b=>rX f (r.drop 2) (at_+3) (out++ [b])
   |none=>([],0)
def w9 (s:Txt):Txt×Nat:=rX s.length (s.drop 1) 1 []
def Bo (c:UInt8):Bool:=c∈([123,125,40,41,46,44,59,61,60,62,33]:Txt)
def bO (s:Txt):pU×Nat:=
 let c:=s.headD 0
 if ltr c then (⟨1,0,0,iU s⟩,(iU s).length)
 else if dgt c then (⟨2,0,(eJ false s).1,[]⟩,(eJ false s).2)
 else if c=45 then (⟨2,0,(eJ true (s.drop 1)).1,[]⟩,if (eJ true (s.drop 1)).1=0 then 0 else (eJ true (s.drop 1)).2+1)
 else if c=64 then (⟨3,0,(eJ false (s.drop 1)).1,[]⟩,if (eJ false (s.drop 1)).2=0∨(eJ false (s.drop 1)).1>1099511627776 then 0 else (eJ false (s.drop 1)).2+1)
 else if c=35 then (⟨4,0,0,iU (s.drop 1)⟩,if iU (s.drop 1)= [] then 0 else (iU (s.drop 1)).length+1)
 else if c=34 then (⟨5,0,0,(w9 s).1⟩,(w9 s).2)
 else if Bo c then (⟨6,0,0,[c]⟩,1)
 else (⟨0,0,0,[]⟩,0)
inductive Lexed where
 |bad (e:Int) (at_:Int)
 |ok (l:List pU)
def nZ (c:UInt8):Bool:=(c.toNat:Int)==32||(c.toNat:Int)==10
def rD:Nat→Txt→Nat→List pU→Lexed
 |0,_,at_,_=> .bad 5 at_
 |_+1,[],at_,out=> .ok (out++ [⟨7,at_,0,[]⟩])
 |f+1,c::r,at_,out=>
  if nZ c then rD f r (at_+1) out
  else if (bO (c::r)).2=0 then .bad 5 at_
  else rD f ((c::r).drop (bO (c::r)).2) (at_+(bO (c::r)).2) (out++ [{(bO (c::r)).1 with pos:=at_}])
def qE (s:Txt):Lexed:=if s.length>4096 then .bad 6 4096 else rD (s.length+1) s 0 []
theorem gW (p:UInt8→Bool) (s:Txt):(s.takeWhile p).length≤s.length:=(List.takeWhile_prefix p).length_le
theorem pn (p:UInt8→Bool) (s:Txt):s.take (s.takeWhile p).length=s.takeWhile p:=by
 obtain ⟨t,ht⟩:=List.takeWhile_prefix (l:=s) p;have:s.take (s.takeWhile p).length=(s.takeWhile p++t).take (s.takeWhile p).length:=by rw [ht]
 rw [this,List.take_left]
theorem mY (neg:Bool) (s:Txt):(eJ neg s).2≤s.length:=by
 have:=gW dgt s;unfold eJ;simp only;split
 ·exact Nat.zero_le _
 ·generalize (if neg=true then -(nS (s.takeWhile dgt):Int) else (nS (s.takeWhile dgt):Int))=v
  split
  ·exact this
  ·exact Nat.zero_le _
theorem sk (s:Txt):(iU s).length≤s.length:=by
 have:=gW wrd s;unfold iU;split
 ·exact this
 ·simp
theorem Bv {s:Txt} {b:UInt8} (h:rH s=some b):3≤s.length:=by
 match s,h with
 |_::_::_::_,_=>simp
theorem xb:∀(f:Nat) (r:Txt) (at_:Nat) (out:Txt),(rX f r at_ out).2≤at_+r.length
 |0,_,_,_=>by simp [rX]
 |_+1,[],_,_=>by simp [rX]
 |f+1,c::r,at_,out=>by
  simp only [rX];split
  ·split<;>simp
  ·split
   ·have:=xb f r (at_+1) (out++ [c]); simp only [List.length_cons]; omega
   ·split
    ·rename_i b hb
     have h3:=Bv hb;have:=xb f (r.drop 2) (at_+3) (out++ [b]);simp only [List.length_cons,List.length_drop] at this h3⊢;omega
    ·simp
theorem qt (s:Txt) (hs:s≠ []):(bO s).2≤s.length:=by
 have h1:1≤s.length:=List.length_pos_iff.2 hs;have hd:(s.drop 1).length=s.length - 1:=by simp
 have k1:=sk s;have k2:=sk (s.drop 1);have k3:=mY false s;have k4:=mY false (s.drop 1);have k5:=mY true (s.drop 1);have k6:=xb s.length (s.drop 1) 1 [];unfold bO;simp only;split
 ·exact k1
 split
 ·exact k3
 split
 ·simp only; split<;>omega
 split
 ·simp only; split<;>omega
 split
 ·simp only; split<;>omega
 split
 ·simp only [w9]; omega
 split
 ·simp only; omega
 ·simp
structure PS where
 ts:List pU
 pos:Nat
 rules:Nat
 bad:Int
 place:Int
def aL (st:PS):pU:=st.ts.getD st.pos ⟨7,0,0,[]⟩
def bD (st:PS) (e p:Int):PS:=if st.bad=0 then {st with bad:=e,place:=p} else st
def bg (st:PS):PS:=bD st 5 (aL st).pos
def bE (st:PS) (more:Bool):PS:=if more then bD st 6 (aL st).pos else st
def isD (st:PS) (s:Txt):Bool:=st.bad==0 && ((aL st).s==s && ((aL st).kind==1||(aL st).kind==6))
def aY (st:PS):PS:= {st with pos:=st.pos+1}
def cp (st:PS) (s:Txt):Bool×PS:=if isD st s=true then (true,aY st) else (false,st)
def dM (st:PS) (s:Txt):PS:=if isD st s=true then aY st else bg st
def cm (st:PS):Txt×PS:=
 if (aL st).kind=1∧st.bad=0 then ((aL st).s,aY st) else ([],if (aL st).kind=1 then st else bg st)
def sH (s:Txt):List Txt→Option Nat
 | []=>none
 |w::r=>if w=s then some 0 else (sH s r).map (· +1)
def aX (st:PS) (ws:List Txt):Int×PS:=match sH (aL st).s ws with
 |some i=>if (aL st).kind=1∧st.bad=0 then ((i:Int)+1,aY st) else (0,bg st)
 |none=>(0,bg st)
def WfP (st:PS):Prop:=st.pos<st.ts.length∧(∀i (h:i<st.ts.length),st.ts[i].kind≠7→i+1<st.ts.length)∧st.ts.length≤5000
theorem A8 {st:PS} (h:st.pos<st.ts.length):aL st=st.ts[st.pos]:=by
 unfold aL; rw [List.getD_eq_getElem?_getD,List.getElem?_eq_getElem h]; rfl
theorem Gm {st:PS} (e p:Int) (h:WfP st):WfP (bD st e p):=by
 unfold bD; split<;>exact h
theorem Jb {st:PS} (h:WfP st) (hk:(aL st).kind≠7):WfP (aY st):=by
 rw [A8 h.1] at hk;exact ⟨h.2.1 _ h.1 hk,h.2⟩
theorem cE {st:PS} {s:Txt} (h:isD st s=true):(aL st).kind≠7:=by
 simp only [isD,Bool.and_eq_true,Bool.or_eq_true,beq_iff_eq] at h;obtain ⟨_,_,h|h⟩:=h<;>rw [h]<;>decide
def Ah (st st' :PS):Prop:=WfP st'∧st'.ts=st.ts∧st.pos≤st'.pos
theorem Ah.refl {st:PS} (h:WfP st):Ah st st:=⟨h,rfl,Nat.le_refl _⟩
theorem Ah.trans {a b c:PS} (x:Ah a b) (y:Ah b c):Ah a c:=⟨y.1,y.2.1.trans x.2.1,Nat.le_trans x.2.2 y.2.2⟩
theorem u9 {st:PS} (e p:Int) (h:WfP st):Ah st (bD st e p):=⟨Gm e p h,by unfold bD; split<;>rfl,by unfold bD; split<;>exact Nat.le_refl _⟩
theorem dN {st:PS} (h:WfP st) (hk:(aL st).kind≠7):Ah st (aY st):=⟨Jb h hk,rfl,Nat.le_succ _⟩
theorem kY {st:PS} (h:WfP st):Ah st (bg st):=u9 _ _ h
theorem jW {st:PS} (b:Bool) (h:WfP st):Ah st (bE st b):=by
 unfold bE; split
 ·exact u9 _ _ h
 ·exact .refl h
theorem Jx {st:PS} (s:Txt) (h:WfP st):Ah st (cp st s).2:=by
 unfold cp; split
 ·rename_i hi; exact dN h (cE hi)
 ·exact .refl h
theorem iF {st:PS} (s:Txt) (h:WfP st):Ah st (dM st s):=by
 unfold dM; split
 ·rename_i hi; exact dN h (cE hi)
 ·exact kY h
theorem lM {st:PS} (h:WfP st):Ah st (cm st).2:=by
 unfold cm; split
 ·rename_i hi; exact dN h (by rw [hi.1]; decide)
 ·simp only; split
  ·exact .refl h
  ·exact kY h
theorem fY {st:PS} (ws:List Txt) (h:WfP st):Ah st (aX st ws).2:=by
 unfold aX; split
 ·split
  ·rename_i hi; exact dN h (by rw [hi.1]; decide)
  ·exact kY h
 ·exact kY h
def tE:List Txt:= [[115,117,98,106,101,99,116],[97,99,116,105,111,110],[99,97,115,101],[101,110,118]]
def fD (st:PS):nU×PS:=
 (⟨(aX st tE).1,(cm (dM (aX st tE).2 [46])).1,(cp (cm (dM (aX st tE).2 [46])).2 [33]).1⟩,(cp (cm (dM (aX st tE).2 [46])).2 [33]).2)
theorem zo {st:PS} (h:WfP st):Ah st (fD st).2:=by
 have h1:=fY tE h;have h2:=iF [46] h1.1;have h3:=lM h2.1;exact ((h1.trans h2).trans h3).trans (Jx [33] h3.1)
def ur:Txt:= [116,114,117,101]
def ou:Txt:= [102,97,108,115,101]
def fC (st:PS):bX×PS:=
 if (aL st).kind=2 then (⟨2,(aL st).n,(aL st).s⟩,st)
 else if (aL st).kind=3 then (⟨4,(aL st).n,(aL st).s⟩,st)
 else if (aL st).kind=4 then (⟨5,(aL st).n,(aL st).s⟩,st)
 else if (aL st).kind=5 then (⟨3,(aL st).n,(aL st).s⟩,st)
 else if isD st ur then (⟨1,1,[]⟩,st)
 else if isD st ou then (⟨1,0,[]⟩,st)
 else (⟨0,(aL st).n,(aL st).s⟩,bg st)
def aC (st:PS):bX×PS:=if (fC st).2.bad=0 then ((fC st).1,aY (fC st).2) else (⟨0,0,[]⟩,(fC st).2)
theorem pR (st:PS):(bg st).bad≠0:=by
 unfold bg bD; split
 ·show (5:Int)≠0; decide
 ·assumption
theorem se (st:PS):(fC st).2=st∧(aL st).kind≠7∨(fC st).2=bg st:=by
 unfold fC;split
 ·rename_i h; exact .inl ⟨rfl,by rw [h]; decide⟩
 split
 ·rename_i h; exact .inl ⟨rfl,by rw [h]; decide⟩
 split
 ·rename_i h; exact .inl ⟨rfl,by rw [h]; decide⟩
 split
 ·rename_i h; exact .inl ⟨rfl,by rw [h]; decide⟩
 split
 ·rename_i h; exact .inl ⟨rfl,cE h⟩
 split
 ·rename_i h; exact .inl ⟨rfl,cE h⟩
 ·exact .inr rfl
theorem Ak {st:PS} (h:WfP st):Ah st (aC st).2:=by
 unfold aC;rcases se st with ⟨e,hk⟩|e
 ·rw [e]; split
  ·exact dN h hk
  ·exact .refl h
 ·rw [e,if_neg (pR st)]; exact kY h
def opP (st:PS):Int×PS:=
 if isD st [61] then (1,aY st) else if isD st [60] then (2,aY st) else if isD st [62] then (3,aY st) else (0,bg st)
theorem Ox {st:PS} (h:WfP st):Ah st (opP st).2:=by
 unfold opP;split
 ·rename_i hi; exact dN h (cE hi)
 split
 ·rename_i hi; exact dN h (cE hi)
 split
 ·rename_i hi; exact dN h (cE hi)
 ·exact kY h
def fV (st:PS):bN×PS:=(⟨(fD st).1,(opP (fD st).2).1,(aC (opP (fD st).2).2).1⟩,(aC (opP (fD st).2).2).2)
theorem nW {st:PS} (h:WfP st):Ah st (fV st).2:=by
 have h1:=zo h;have h2:=Ox h1.1;exact (h1.trans h2).trans (Ak h2.1)
def fy {α:Type} (one:PS→α×PS) (w:Txt) (most:Nat):Nat→PS→List α→List α×PS
 |0,st,l=>(l,st)
 |f+1,st,l=>if isD st w=true then fy one w most f (bE (one (aY st)).2 (decide (most<l.length+1))) (l++ [(one (aY st)).1]) else (l,st)
theorem qR {α:Type} {one:PS→α×PS} (ho:∀st,WfP st→Ah st (one st).2) (w:Txt) (most:Nat):∀(f:Nat) (st:PS) (l:List α),WfP st→Ah st (fy one w most f st l).2
 |0,st,l,h=> .refl h
 |f+1,st,l,h=>by
  unfold fy; split
  ·rename_i hi
   have h1:=dN h (cE hi);have h2:=ho _ h1.1;have h3:=jW (decide (most<l.length+1)) h2.1;exact ((h1.trans h2).trans h3).trans (qR ho w most f _ _ h3.1)
  ·exact .refl h
def orT:Txt:= [111,114]
def Am:Txt:= [97,110,100]
def Cf:Txt:= [119,104,101,110]
def nQ (st:PS):List bN×PS:=fy fV [44] 8 st.ts.length (fV st).2 [(fV st).1]
theorem zm {st:PS} (h:WfP st):Ah st (nQ st).2:=(nW h).trans (qR (fun _ h=>nW h) _ _ _ _ _ (nW h).1)
def pV (st:PS):List (List bN)×PS:=
 let a:=nQ (dM st [40])
 let m:=fy nQ orT 8 st.ts.length a.2 [a.1]
 (m.1,dM m.2 [41])
theorem zn {st:PS} (h:WfP st):Ah st (pV st).2:=by
 have h0:=iF [40] h;have h1:=zm h0.1;have h2:=qR (fun _ h=>zm h) orT 8 st.ts.length _ [(nQ (dM st [40])).1] h1.1
 exact ((h0.trans h1).trans h2).trans (iF [41] h2.1)
def gr (st:PS):fP×PS:=if isD st Cf=true then fy pV Am 8 st.ts.length (pV (aY st)).2 [(pV (aY st)).1] else ([],st)
theorem zv {st:PS} (h:WfP st):Ah st (gr st).2:=by
 unfold gr; split
 ·rename_i hi
  have h0:=dN h (cE hi);have h1:=zn h0.1;exact (h0.trans h1).trans (qR (fun _ h=>zn h) _ _ _ _ _ h1.1)
 ·exact .refl h
end Go.Bf
