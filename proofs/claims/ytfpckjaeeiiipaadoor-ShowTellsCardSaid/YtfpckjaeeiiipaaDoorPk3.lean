/- The law ShowTells: pack 3 of its texts. -/
import Derived.Shelf.Strings.OnBuilder
import Derived.Shelf.Small.Wraps
import Derived.Shelf.Strconv.Itoa3
import Derived.Test.YtfpckjaeeiiipaaDoorProg
import Derived.KernelRfl
import Derived.Lib.ItoaLen
import Derived.Lib.AtoiAll
import Derived.Lib.ItoaMem
import Derived.Test.YtfpckjaeeiiipaaDoorPk1
import Derived.Test.YtfpckjaeeiiipaaDoorPk2
set_option linter.unusedSimpArgs false
set_option linter.unusedVariables false
namespace Go.Bf
open Go Go.Ab
theorem tD (xs) (B:Nat) (h:∀x∈xs,x.length≤B):Lib.lens xs≤xs.length*B:=by
 induction xs with
 |nil=>simp [Lib.lens]
 |cons x r ih=>
  have h1:=h x (by simp)
  have h2:=ih fun y hy=>h y (by grind)
  simp only [Lib.lens,List.map_cons,List.sum_cons,List.length_cons,Nat.add_mul,Nat.one_mul] at h2⊢;omega
theorem join_length (xs) (sep):(Lib.join xs sep).length≤Lib.lens xs+xs.length*sep.length:=by
 cases xs with
 |nil=>simp [Lib.join_nil]
 |cons x r=>
  rw [Lib.join_cons,Gu,Lib.joinTail_length];simp only [Lib.lens,List.map_cons,List.sum_cons,List.length_cons,Nat.add_mul,Nat.one_mul,Nat.mul_comm sep.length];omega
theorem join_le (xs) (sep) (n B:Nat) (hn:xs.length≤n) (h:∀x∈xs,x.length≤B):(Lib.join xs sep).length≤n*(B+sep.length):=by
 have h1:=join_length xs sep;have h2:=tD xs B h;have h3:xs.length*(B+sep.length)≤n*(B+sep.length):=Nat.mul_le_mul_right _ hn;rw [Nat.mul_add] at h3;omega
theorem cB (xs:List Txt) (n B:Nat) (hn:xs.length≤n) (h:∀x∈xs,x.length≤B):xs.flatten.length≤n*B:=by
 have h2:=tD xs B h;have h3:xs.length*B≤n*B:=Nat.mul_le_mul_right _ hn;have h4:xs.flatten.length=Lib.lens xs:=by rw [List.length_flatten]; rfl
 omega
theorem cw {s} (h:bu s=true):s.length≤16:=by
 grind [bu]
theorem xo (n:Int):(j4 n).length≤7:=by
 unfold j4; repeat' split
 all_goals decide
theorem sE (n:Int):(opW n).length=1:=by
 grind [opW]
theorem o4 (n:Int):(fnW n).length≤4:=by
 unfold fnW; repeat' split
 all_goals decide
theorem z8 (n:Int):(onW n).length≤6:=by
 unfold onW; split<;>decide
theorem qd (n:Int):(fC n).length≤6:=by
 unfold fC; repeat' split
 all_goals decide
theorem lV (n:Int):(lO n).length≤12:=by
 unfold lO; repeat' split
 all_goals decide
theorem fR {a} (h:bM a=true):(cn a).length≤25:=by
 simp only [bM,Bool.and_eq_true] at h
 grind [cw,xo,cn,Gu,List.length_cons,List.length_nil]
theorem oK (l:Txt) (h:l.length≤64):(dN l).length≤194:=by
 have:=cB (l.map cr) 64 3 (by grind) fun x hx=>by
  grind [cr]
 unfold dN;simp only [Gu,List.length_cons,List.length_nil];omega
theorem jV {v} (h:bD v=true) (h1: -9223372036854775808≤v.n) (h2:v.n≤9223372036854775807):(ck v).length≤194:=by
 have hi:=Lib.itoa_length_le v.n h1 h2;unfold ck;unfold bD at h;split
 ·cases (v.n==1)<;>decide
 split
 ·simp only [Gu,List.length_cons,List.length_nil]; omega
 split
 ·rename_i k5
  simp only [k5] at h;simp at h;have:=cw h.2;simp only [Gu,List.length_cons,List.length_nil]; omega
 split
 ·rename_i k3
  simp only [k3] at h;simp at h;exact oK _ h.2
 ·omega
theorem kD {m} (h:bM m.attr=true) (hv:(ck m.val).length≤194):(cC m).length≤222:=by
 grind [fR,sE,cC,Gu,List.length_cons,List.length_nil]
theorem l8 {o} (h:cL o=true):(kG o).length≤34:=by
 simp only [cL,Bool.and_eq_true] at h
 grind [cw,z8,qd,kG,Gu,List.length_cons,List.length_nil]
theorem jf {l} (h:bp l=0):l.length≤8∧∀o∈l,cL o=true:=by
 grind [bp,List.all_eq_true]
theorem fS {l} (h:bp l=0):(dI l).length≤272:=by
 obtain ⟨h1,h2⟩:=jf h;exact cB (l.map kG) 8 34 (by grind) fun x hx=>by
  grind [l8]
theorem mX {n:Nat} (h:cV n=0):0<n∧n≤8:=by
 grind [cV]
theorem lf {α:Type} {f:α→Int} {l:List α} (h:cq f l=0):∀x∈l,f x=0:=by
 induction l with
 |nil=>simp
 |cons y r ih=>
  simp only [cq] at h
  grind
theorem jZ {l} (h:eI l=0):0<l.length∧l.length≤8∧∀m∈l,bH m=true:=by
 unfold eI at h;split at h
 ·simp_all [mX,List.all_eq_true]
 omega
theorem j0 {l} (h:eZ l=0):0<l.length∧l.length≤8∧∀m∈l,eI m=0:=by
 unfold eZ at h;split at h
 ·rename_i hm
  have:=mX hm;exact ⟨this.1,this.2,lf h⟩
 omega
theorem kQ {l} (h:cy l=0):l.length≤8∧∀m∈l,eZ m=0:=by
 grind [cy,lf]
theorem dV {m} (h:bH m=true):bM m.attr=true∧1≤m.op∧m.op≤3∧bD m.val=true:=by
 simp_all [bH,Bool.and_eq_true,decide_eq_true_eq]
def tot (st:List Txt):Nat:=Lib.lens st+st.length
theorem fo (a b):tot (a++b)=tot a+tot b:=by
 grind [tot,Lib.lens]
theorem jU (s):tot [s]=s.length+1:=by rfl
theorem tF {st} {s} (h:s∈st):s.length≤tot st:=by
 induction st with
 |nil=>cases h
 |cons x r ih=>
  have:tot (x::r)=tot [x]+tot r:=fo [x] r;rw [this,jU];rcases List.mem_cons.1 h with rfl|h
  ·omega
  ·have:=ih h; omega
theorem vJ (st) (k:Nat) (w) (hw:w.length≤4):tot (st.take k++ [[40]++w++ [32]++Lib.join (st.drop k) [32]++ [41]])≤tot st+9:=by
 grind [tot,fo,List.take_append_drop,join_length,jU,Gu,List.length_cons,List.length_nil]
theorem gz {bs bs'} {n} (h:bT bs n=some bs'):
  (n.op=1∧bD n.val=true∧bs' =bs++ [false])∨(n.op=2∧bM n.attr=true∧bs' =bs++ [true])∨
  (3≤n.op∧n.op≤13∧arity n.op≤bs.length∧bs'.length=bs.length - arity n.op+1):=by
 unfold bT at h;split at h
 ·cases h
 rename_i w hw
 split at h
 case isFalse=>cases h
 rename_i hc
 obtain ⟨hf,hl,hd⟩:=hc;unfold bE at hw;unfold b9 at hf;split at hw
 ·rename_i h12
  rcases h12 with h1|h2
  ·simp_all
  simp_all
 ·rename_i h12
  have ha:3≤n.op∧n.op≤13∧w.length=arity n.op:=by
   unfold arity
   grind
  grind
theorem pM {bs bs'} {st} {n} (h:bT bs n=some bs') (hl:st.length=bs.length):(stepT st n).length=bs'.length:=by
 unfold stepT;rcases gz h with ⟨h1,_,rfl⟩|⟨h1,_,rfl⟩|⟨h1,h2,h3,h4⟩
 ·grind
 ·grind
 grind
def inV (v:iG):Prop:= -9223372036854775808≤v.n∧v.n≤9223372036854775807
def inA (l:List bl):Prop:=∀m∈l,inV m.val
def inY (l:List (List bl)):Prop:=∀a∈l,inA a
def inT (t:gH):Prop:=∀a∈t,inY a
def inL (l:List bf):Prop:=∀n∈l,inV n.val
def inR (r:cJ):Prop:=inT r.tgt∧inL r.cond
mutual
def inP:aR→Prop
 | .mk id set alg tgt rules kids obls=>inT tgt∧(∀r∈rules,inR r)∧inK kids
def inK:List aR→Prop
 | []=>True
 |k::r=>inP k∧inK r
end
theorem mO:∀l:List aR,inK l↔∀k∈l,inP k
 | []=>by simp [inK]
 |k::r=>by simp [inK,mO r]
theorem s8 {l} (h:eI l=0) (hi:inA l):(iH l).length≤1792:=by
 obtain ⟨_,h1,h2⟩:=jZ h;exact join_le (l.map cC) [44,32] 8 222 (by grind) fun x hx=>by
  obtain ⟨m,hm,rfl⟩:=List.mem_map.1 hx;have:=dV (h2 m hm);exact kD this.1 (jV this.2.2.2 (hi m hm).1 (hi m hm).2)
theorem s9 {l} (h:eZ l=0) (hi:inY l):(lP l).length≤14370:=by
 obtain ⟨_,h1,h2⟩:=j0 h;have:=join_le (l.map iH) [32,111,114,32] 8 1792 (by grind) fun x hx=>by
  obtain ⟨m,hm,rfl⟩:=List.mem_map.1 hx;exact s8 (h2 m hm) (hi m hm)
 unfold lP;simp only [Gu,List.length_cons,List.length_nil] at this⊢;omega
theorem iC {t} (h:cy t=0) (hi:inT t):(dH t).length≤115006:=by
 obtain ⟨h1,h2⟩:=kQ h;have:=join_le (t.map lP) [32,97,110,100,32] 8 14370 (by grind) fun x hx=>by
  obtain ⟨m,hm,rfl⟩:=List.mem_map.1 hx;exact s9 (h2 m hm) (hi m hm)
 unfold dH;split
 ·simp
 ·simp only [Gu,List.length_cons,List.length_nil] at this⊢
  omega
theorem uN {bs bs' :List Bool} {st:List Txt} {n:bf} (h:bT bs n=some bs') (hi:inV n.val):tot (stepT st n)≤tot st+195:=by
 unfold stepT;rcases gz h with ⟨h1,h2,rfl⟩|⟨h1,h2,rfl⟩|⟨h1,h2,h3,h4⟩
 ·have:=jV h2 hi.1 hi.2
  rw [if_pos h1,fo,jU]; omega
 ·have:=fR h2
  rw [if_neg (by omega),if_pos h1,fo,jU]; omega
 ·have:=vJ st (st.length - arity n.op) (fnW n.op) (o4 _)
  rw [if_neg (by omega),if_neg (by omega)]; omega
theorem dO:∀(l:List bf) (bs bs' :List Bool) (st:List Txt),bn bs l=some bs'→inL l→st.length=bs.length→(l.foldl stepT st).length=bs'.length∧tot (l.foldl stepT st)≤tot st+195*l.length
 | [],bs,bs',st,h,hi,hl=>by
  grind [bn,Option.some.injEq]
 |n::r,bs,bs',st,h,hi,hl=>by
  simp only [bn] at h;cases hs:bT bs n with
  |none=>grind
  |some b2=>
   rw [hs] at h;have h1:=uN (st:=st) hs (hi n (by simp))
   have h2:=dO r b2 bs' (stepT st n) h (fun x hx=>hi x (by grind)) (pM hs hl)
   simp only [List.foldl_cons,List.length_cons];omega
theorem gp {l} (h:bF l=0) (hn:l≠ []):l.length≤32∧bn [] l=some [false]:=by
 grind [bF]
theorem gm {l} (h:bF l=0) (i:Nat):∃bs,bn [] (l.take i)=some bs:=by
 by_cases hn:l= []
 ·simp_all [bn]
 ·have h2:=(gp h hn).2
  have:∀(l:List bf) (bs:List Bool) (b:List Bool) (i:Nat),bn bs l=some b→∃bs',bn bs (l.take i)=some bs' :=by
   intro l
   induction l with
   |nil=>grind
   |cons n r ih=>
    intro bs b i hh;cases i with
    |zero=>grind [bn]
    |succ i=>
     simp only [List.take_succ_cons,bn] at hh⊢;cases hs:bT bs n with
     |none=>grind
     |some b2=>simp_all
  exact this l [] _ i h2
theorem mJ {l} (h:bF l=0) (hi:inL l):(gG l).length≤6240:=by
 by_cases hn:l= []
 ·grind [gG]
 obtain ⟨h1,h2⟩:=gp h hn;obtain ⟨h3,h4⟩:=dO l [] [false] [] h2 hi rfl;unfold gG;cases hx:l.foldl stepT [] with
 |nil=>simp
 |cons s r=>
  grind [tF,stepT,tot,Lib.lens,List.headD_cons]
def qX (r:cJ):Prop:=bu r.id=true∧cy r.tgt=0∧bF r.cond=0∧bp r.obls=0
theorem gZ {r} (h:qX r) (hi:inR r):(cZ r).length≤122000:=by
 have h1:=cw h.1;have h2:=iC h.2.1 hi.1;have h3:=mJ h.2.2.1 hi.2;have h4:=fS h.2.2.2;unfold cZ;cases r.deny<;>simp only [Gu,List.length_cons,List.length_nil,if_true,Bool.false_eq_true,if_false]<;>split<;>simp<;>omega
mutual
def jK (d:Nat):aR→Prop
 | .mk id set alg tgt rules kids obls=>d≤4∧bu id=true∧1≤alg∧alg≤6∧(set=true→rules= [])∧(set=false→kids= []∧alg≠4)∧cy tgt=0∧bp obls=0∧rules.length≤16∧kids.length≤16∧(∀r∈rules,qX r)∧lq (d+1) kids
def lq (d:Nat):List aR→Prop
 | []=>True
 |k::r=>jK d k∧lq d r
end
theorem jF (d:Nat):∀l:List aR,lq d l↔∀k∈l,jK d k
 | []=>by simp [lq]
 |k::r=>by simp [lq,jF d r]
theorem mP:∀l:List aR,qB l=(l.map fun k=> [32]++gI k).flatten
 | []=>by rfl
 |k::r=>by simp [qB,mP r]
def fN:Nat→Nat
 |0=>0
 |n+1=>3000000+16*(1+fN n)
theorem pz:∀(n d:Nat) (p:aR),d+n=5→jK d p→inP p→(gI p).length≤fN n
 |0,d, .mk id set alg tgt rules kids obls,hd,h,hi=>by grind [jK]
 |n+1,d, .mk id set alg tgt rules kids obls,hd,h,hi=>by
  obtain ⟨_,g1,_,_,_,_,g2,g3,g4,g5,g6,g7⟩:=h;obtain ⟨i1,i2,i3⟩:=hi;have h1:=cw g1;have h2:=iC g2 i1;have h4:=fS g3;have h5:=lV alg;have h6:=cB (rules.map cZ) 16 122000 (by grind) fun x hx=>by
   grind [gZ]
  have h7:=cB (kids.map fun k=> [32]++gI k) 16 (1+fN n) (by grind) fun x hx=>by
   obtain ⟨k,hk,rfl⟩:=List.mem_map.1 hx;have:=pz n (d+1) k (by omega) (by grind [jF]) (by grind [mO])
   simp only [Gu,List.length_cons,List.length_nil]; omega
  simp only [gI,fN,mP];cases set<;>simp only [Gu,List.length_cons,List.length_nil,if_true,Bool.false_eq_true,if_false]<;>omega
theorem tI:fN 4≤1000000000000:=by decide
theorem mY {m m'} {s} (h:cX m s=some m'):bu s=true:=by
 grind [cX]
theorem cF {e:Int} {w} {m} (h:need e w= .ok m):e=0∧w= .ok m:=by
 grind [need]
theorem wu {m m'} {r} (h:bG m r= .ok m'):qX r:=by
 unfold bG at h;split at h
 ·cases h
 ·rename_i m1 hm
  split at h
  ·cases h
  ·obtain ⟨h1,h⟩:=cF h
   obtain ⟨h2,h⟩:=cF h;obtain ⟨h3,h⟩:=cF h;exact ⟨mY hm,h1,h2,h3⟩
theorem oN:∀(l:List cJ) (m m' :cH),bA m l= .ok m'→∀r∈l,qX r
 | [],_,_,_,r,hr=>by grind
 |x::l,m,m',h,r,hr=>by
  simp only [bA] at h;cases hx:bG m x with
  |bad e=>grind
  |ok m1=>
   rw [hx] at h;rcases List.mem_cons.1 hr with rfl|hr
   ·exact wu hx
   ·exact oN l m1 m' h r hr
theorem oC {m m1} {id} {set} {alg:Int} {tgt} {nr nk:Nat} {obls} (h:bt m id set alg tgt nr nk obls= .ok m1):
  cX m id=some m1∧1≤alg∧alg≤6∧(set=true→nr=0)∧(set=false→nk=0∧alg≠4)∧cy tgt=0∧bp obls=0∧nr≤16∧nk≤16:=by
 unfold bt at h;split at h
 ·cases h
 split at h
 ·cases h
 split at h
 ·cases h
 obtain ⟨h3,h⟩:=cF h;obtain ⟨h4,h⟩:=cF h
 grind
mutual
theorem pE:∀(p:aR) (d:Nat) (m m' :cH),cI m d p= .ok m'→jK d p
 | .mk id set alg tgt rules kids obls,d,m,m',h=>by
  simp only [cI] at h;split at h
  ·cases h
  rename_i hd
  split at h
  ·cases h
  rename_i m1 h1
  split at h
  ·cases h
  rename_i m2 h2
  obtain ⟨g1,g2,g3,g4,g5,g6,g7,g8,g9⟩:=oC h1;simp only [jK];exact ⟨by omega,mY g1,g2,g3,fun e=>List.length_eq_zero_iff.1 (g4 e),fun e=>⟨List.length_eq_zero_iff.1 (g5 e).1,(g5 e).2⟩,g6,g7,g8,g9,oN _ _ _ h2,qD kids (d+1) m2 m' h⟩
theorem qD:∀(l:List aR) (d:Nat) (m m' :cH),cK m d l= .ok m'→lq d l
 | [],_,_,_,_=>by simp [lq]
 |k::r,d,m,m',h=>by
  simp only [cK] at h;split at h
  ·cases h
  rename_i m1 h1
  simp only [lq];exact ⟨pE k d m m1 h1,qD r d m1 m' h⟩
end
end Go.Bf
namespace Go.Proofs.YtfpckjaeeiiipaaDoor
open Go Go.Ab Go.Bf
theorem BD (n:Int) (h):aj Tryd.prog 21 [.v (.int .i64 n)] h fun r h' =>r= .s (j4 n)∧h' =h:=by
 refine aj.body hU hm Tryd.func21 rfl (by kernel_rfl) 10 rfl [.tmp 2] rfl (Gp rfl) (fun hwf=> ?_)
 by_cases k1:n=1
 ·subst k1
  simp -implicitDefEqProofs only [go_sem];exact .same (.refl _) ⟨rfl,rfl⟩
 by_cases k2:n=2
 ·subst k2
  simp -implicitDefEqProofs only [go_sem];exact .same (.refl _) ⟨rfl,rfl⟩
 by_cases k3:n=3
 ·subst k3
  simp -implicitDefEqProofs only [go_sem];exact .same (.refl _) ⟨rfl,rfl⟩
 simp -implicitDefEqProofs only [go_sem,beq_eq_false_iff_ne.2 k1,beq_eq_false_iff_ne.2 k2,beq_eq_false_iff_ne.2 k3];exact .same (.refl _) ⟨by unfold j4; simp only [if_neg k1,if_neg k2,if_neg k3]; rfl,rfl⟩
theorem Bx (n:Int) (h):aj Tryd.prog 47 [.v (.int .i64 n)] h fun r h' =>r= .s (lO n)∧h' =h:=by
 refine aj.body hU hm Tryd.func47 rfl (by kernel_rfl) 14 rfl [.tmp 2] rfl (Gp rfl) (fun hwf=> ?_)
 by_cases k1:n=1
 ·subst k1
  simp -implicitDefEqProofs only [go_sem];exact .same (.refl _) ⟨rfl,rfl⟩
 by_cases k2:n=2
 ·subst k2
  simp -implicitDefEqProofs only [go_sem];exact .same (.refl _) ⟨rfl,rfl⟩
 by_cases k3:n=3
 ·subst k3
  simp -implicitDefEqProofs only [go_sem];exact .same (.refl _) ⟨rfl,rfl⟩
 by_cases k4:n=4
 ·subst k4
  simp -implicitDefEqProofs only [go_sem];exact .same (.refl _) ⟨rfl,rfl⟩
 by_cases k5:n=5
 ·subst k5
  simp -implicitDefEqProofs only [go_sem];exact .same (.refl _) ⟨rfl,rfl⟩
 simp -implicitDefEqProofs only [go_sem,beq_eq_false_iff_ne.2 k1,beq_eq_false_iff_ne.2 k2,beq_eq_false_iff_ne.2 k3,beq_eq_false_iff_ne.2 k4,beq_eq_false_iff_ne.2 k5];exact .same (.refl _) ⟨by unfold lO; simp only [if_neg k1,if_neg k2,if_neg k3,if_neg k4,if_neg k5]; rfl,rfl⟩
theorem Ck (n:Int) (h):aj Tryd.prog 19 [.v (.int .i64 n)] h fun r h' =>r= .s (fnW n)∧h' =h:=by
 refine aj.body hU hm Tryd.func19 rfl (by kernel_rfl) 24 rfl [.tmp 2] rfl (Gp rfl) (fun hwf=> ?_)
 by_cases k3:n=3
 ·subst k3
  simp -implicitDefEqProofs only [go_sem];exact .same (.refl _) ⟨rfl,rfl⟩
 by_cases k4:n=4
 ·subst k4
  simp -implicitDefEqProofs only [go_sem];exact .same (.refl _) ⟨rfl,rfl⟩
 by_cases k5:n=5
 ·subst k5
  simp -implicitDefEqProofs only [go_sem];exact .same (.refl _) ⟨rfl,rfl⟩
 by_cases k6:n=6
 ·subst k6
  simp -implicitDefEqProofs only [go_sem];exact .same (.refl _) ⟨rfl,rfl⟩
 by_cases k7:n=7
 ·subst k7
  simp -implicitDefEqProofs only [go_sem];exact .same (.refl _) ⟨rfl,rfl⟩
 by_cases k8:n=8
 ·subst k8
  simp -implicitDefEqProofs only [go_sem];exact .same (.refl _) ⟨rfl,rfl⟩
 by_cases k9:n=9
 ·subst k9
  simp -implicitDefEqProofs only [go_sem];exact .same (.refl _) ⟨rfl,rfl⟩
 by_cases k10:n=10
 ·subst k10
  simp -implicitDefEqProofs only [go_sem];exact .same (.refl _) ⟨rfl,rfl⟩
 by_cases k11:n=11
 ·subst k11
  simp -implicitDefEqProofs only [go_sem];exact .same (.refl _) ⟨rfl,rfl⟩
 by_cases k12:n=12
 ·subst k12
  simp -implicitDefEqProofs only [go_sem];exact .same (.refl _) ⟨rfl,rfl⟩
 simp -implicitDefEqProofs only [go_sem,beq_eq_false_iff_ne.2 k3,beq_eq_false_iff_ne.2 k4,beq_eq_false_iff_ne.2 k5,beq_eq_false_iff_ne.2 k6,beq_eq_false_iff_ne.2 k7,beq_eq_false_iff_ne.2 k8,beq_eq_false_iff_ne.2 k9,beq_eq_false_iff_ne.2 k10,beq_eq_false_iff_ne.2 k11,beq_eq_false_iff_ne.2 k12];exact .same (.refl _) ⟨by unfold fnW; simp only [if_neg k3,if_neg k4,if_neg k5,if_neg k6,if_neg k7,if_neg k8,if_neg k9,if_neg k10,if_neg k11,if_neg k12]; rfl,rfl⟩
theorem vw (n:Int) (h):aj Tryd.prog 67 [.v (.int .i64 n)] h fun r h' =>r= .s (fC n)∧h' =h:=by
 refine aj.body hU hm Tryd.func67 rfl (by kernel_rfl) 10 rfl [.tmp 2] rfl (Gp rfl) (fun hwf=> ?_)
 by_cases k1:n=1
 ·subst k1
  simp -implicitDefEqProofs only [go_sem];exact .same (.refl _) ⟨rfl,rfl⟩
 by_cases k2:n=2
 ·subst k2
  simp -implicitDefEqProofs only [go_sem];exact .same (.refl _) ⟨rfl,rfl⟩
 by_cases k3:n=3
 ·subst k3
  simp -implicitDefEqProofs only [go_sem];exact .same (.refl _) ⟨rfl,rfl⟩
 simp -implicitDefEqProofs only [go_sem,beq_eq_false_iff_ne.2 k1,beq_eq_false_iff_ne.2 k2,beq_eq_false_iff_ne.2 k3];exact .same (.refl _) ⟨by unfold fC; simp only [if_neg k1,if_neg k2,if_neg k3]; rfl,rfl⟩
theorem pG (a) (h):aj Tryd.prog 8 [dZ a] h fun r h' =>r= .v (.bool (bM a))∧h' =h:=by
 refine aj.body hU hm Tryd.func8 rfl (by kernel_rfl) 16 rfl [.tmp 2] rfl (Gp rfl) (fun hwf=> ?_)
 simp -implicitDefEqProofs only [go_sem,dZ];intro id hid;cases d1:decide (1≤a.cat)
 ·simp -implicitDefEqProofs only [go_sem,d1]
  exact .mk _ (.refl _) (.ah hid) ⟨by grind [bM,au],rfl⟩
 cases d2:decide (a.cat≤4)
 ·simp -implicitDefEqProofs only [go_sem,d1,d2]
  exact .mk _ (.refl _) (.ah hid) ⟨by grind [bM,au],rfl⟩
 simp -implicitDefEqProofs only [go_sem,d1,d2];refine (o9 _ _).pthen ?_;simp -implicitDefEqProofs only [go_sem];exact .mk _ (.refl _) (.ah hid) ⟨by grind [bM,au],rfl⟩
theorem tM (l) (h):aj Tryd.prog 66 [ay l] h fun r h' =>r= .v (.int .i64 (bp l))∧h' =h:=by
 refine aj.body hU hm Tryd.func66 rfl (by kernel_rfl) 39 rfl [.tmp 2] rfl (Gp rfl) (fun hwf=> ?_)
 cases d1:decide (8<(l.length:Int))
 case true=>
  have e1:8<l.length:=by grind
  simp -implicitDefEqProofs only [go_sem,ay,Gq,d1];exact .same (.refl _) ⟨by grind [bp,au],rfl⟩
 have e1:¬8<l.length:=by grind
 simp -implicitDefEqProofs only [go_sem,d1,ay,Gq];refine .intro (fun m ρ h' =>Ab.Sub h h'∧∃i:Nat,i≤l.length∧m=l.length - i∧(l.take i).all cL=true∧lk ρ 8=some (ay l)∧lk ρ 9=some (.v (.int .i64 l.length))∧lk ρ 10=some (.v (.int .i64 i))) l.length ?_ ?_
 ·refine ⟨.refl _,0,by omega,rfl,rfl, ?_, ?_, ?_⟩<;>simp -implicitDefEqProofs only [go_sem,ay]
 ·rintro m ρ h' ⟨hs,i,hi,rfl,hc,r12,r13,r14⟩
  simp -implicitDefEqProofs only [go_sem,r13,r14];refine .intro (fun e=> ?_) (fun e=> ?_)
  ·have hlt:i<l.length:=Gx e
   have w1:IntKind.i64.wrap ((i:Int)+1)=((i+1:Nat):Int):=by grind [aY]
   simp -implicitDefEqProofs only [go_sem,r12,r14,ay];refine .at i (by grind) (by rw [Gr]; rfl) ?_
   simp -implicitDefEqProofs only [go_sem,Gr,aN];intro id hid;have bad:cL l[i]=false→bp l=1:=fun hb=>by
    have:l.all cL=false:=List.all_eq_false.2 ⟨_,Gv hlt,by grind⟩
    simp [bp,e1,this]
   cases c1:decide (l[i].on<1)
   case true=>
    simp -implicitDefEqProofs only [go_sem,c1];exact .mk _ (.refl _) (hs.new hid _) ⟨by rw [bad (by have:=Gs c1; simp [cL]; omega)]; rfl,rfl⟩
   cases c2:decide (2<l[i].on)
   case true=>
    simp -implicitDefEqProofs only [go_sem,c1,c2];exact .mk _ (.refl _) (hs.new hid _) ⟨by rw [bad (by have:=Gs c2; simp [cL]; omega)]; rfl,rfl⟩
   cases c3:decide (l[i].kind<1)
   case true=>
    simp -implicitDefEqProofs only [go_sem,c1,c2,c3];exact .mk _ (.refl _) (hs.new hid _) ⟨by rw [bad (by have:=Gs c3; simp [cL]; omega)]; rfl,rfl⟩
   cases c4:decide (4<l[i].kind)
   case true=>
    simp -implicitDefEqProofs only [go_sem,c1,c2,c3,c4];exact .mk _ (.refl _) (hs.new hid _) ⟨by rw [bad (by have:=Gs c4; simp [cL]; omega)]; rfl,rfl⟩
   simp -implicitDefEqProofs only [go_sem,c1,c2,c3,c4];refine (o9 _ _).pthen ?_;cases d2:bu l[i].arg
   ·simp -implicitDefEqProofs only [go_sem]
    exact .mk _ (.refl _) (hs.new hid _) ⟨by rw [bad (by grind [cL])]; rfl,rfl⟩
   ·simp -implicitDefEqProofs only [go_sem,r14,w1]
    refine ⟨_, ?_,hs.new hid _,i+1,by omega,rfl, ?_, ?_, ?_, ?_⟩
    ·omega
    ·grind [Gt,List.take_succ_eq_append_getElem,cL]
    all_goals simp -implicitDefEqProofs only [go_sem,r12,r13,ay]
  ·have hge:i=l.length:=by grind
   subst hge;rw [List.take_length] at hc;simp -implicitDefEqProofs only [go_sem];exact .mk _ (.refl _) hs ⟨by grind [bp,au],rfl⟩
theorem oG {n:Nat} (h:8<n):cV n=6:=by unfold cV; rw [if_neg (by omega),if_pos (by omega)]
theorem vj {l:List (List bl)} (h:(l.length:Int)<1):eZ l=1:=by
 obtain rfl:l= []:=List.length_eq_zero_iff.1 (by omega)
 rfl
theorem tW {l:List (List bl)} (h:8<(l.length:Int)):eZ l=6:=by
 simp [eZ,oG (show 8<l.length by omega)]
theorem vg {l:List bl} (h:(l.length:Int)<1):eI l=1:=by
 obtain rfl:l= []:=List.length_eq_zero_iff.1 (by omega)
 rfl
theorem tV {l:List bl} (h:8<(l.length:Int)):eI l=6:=by
 simp [eI,oG (show 8<l.length by omega)]
theorem oL (t:gH) (h:Heap):aj Tryd.prog 65 [aC t] h fun r h' =>r= .v (.int .i64 (cy t))∧h' =h:=by
 refine aj.body hU hm Tryd.func65 rfl (by kernel_rfl) 65 rfl [.tmp 2] rfl (Gp rfl) (fun hwf=> ?_)
 cases d1:decide (8<(t.length:Int))
 case true=>
  have e1:8<t.length:=by grind
  simp -implicitDefEqProofs only [go_sem,aC,Gq,d1];exact .same (.refl _) ⟨by grind [cy,au],rfl⟩
 have e1:¬8<t.length:=by grind
 simp -implicitDefEqProofs only [go_sem,aC,Gq,d1];refine .intro (fun m ρ h' =>Ab.Sub h h'∧∃i:Nat,i≤t.length∧m=t.length - i∧cq eZ (t.take i)=0∧lk ρ 12=some (aC t)∧lk ρ 13=some (.v (.int .i64 t.length))∧lk ρ 14=some (.v (.int .i64 i))) t.length ?_ ?_
 ·refine ⟨.refl _,0,by omega,rfl,rfl, ?_, ?_, ?_⟩<;>simp -implicitDefEqProofs only [go_sem,aC]
 rintro m ρ h1 ⟨hs,i,hi,rfl,hc,r12,r13,r14⟩
 simp -implicitDefEqProofs only [go_sem,r13,r14];refine .intro (fun e=> ?_) (fun e=> ?_)
 rotate_left
 ·have hge:i=t.length:=by grind
  subst hge;rw [List.take_length] at hc;simp -implicitDefEqProofs only [go_sem];exact .mk _ (.refl _) hs ⟨by grind [cy,au],rfl⟩
 have hlt:i<t.length:=Gx e;have w1:IntKind.i64.wrap ((i:Int)+1)=((i+1:Nat):Int):=by grind [aY]
 have stop:∀x:Int,eZ t[i]=x→x≠0→cy t=x:=fun x hx hn=>by
  rw [cy,if_neg e1,iu hlt hc (by rw [hx]; exact hn),hx]
 have go:eZ t[i]=0→cq eZ (t.take (i+1))=0:=fun hx=>fE hlt hc hx
 simp -implicitDefEqProofs only [go_sem,r12,r14,aC];refine .at i (by grind) (by rw [Gr]; rfl) ?_
 generalize hY:t[i]=Y at stop go;cases d2:decide ((Y.length:Int)<1)
 case true=>
  simp -implicitDefEqProofs only [go_sem,Gr,hY,aD,Gq,d2];exact .mk _ (.refl _) hs ⟨by rw [stop 1 (vj (Gs d2)) (by decide)]; rfl,rfl⟩
 cases d3:decide (8<(Y.length:Int))
 case true=>
  simp -implicitDefEqProofs only [go_sem,Gr,hY,aD,Gq,d2,d3];exact .mk _ (.refl _) hs ⟨by rw [stop 6 (tW (Gs d3)) (by decide)]; rfl,rfl⟩
 have my:cV Y.length=0:=by have:=Gt d2; have:=Gt d3; unfold cV; rw [if_neg (by omega),if_neg (by omega)]
 have ey:eZ Y=cq eI Y:=by simp [eZ,my]
 simp -implicitDefEqProofs only [go_sem,Gr,hY,aD,Gq,d2,d3];refine .intro (fun m ρ h' =>Ab.Sub h h'∧∃k:Nat,k≤Y.length∧m=Y.length - k∧cq eI (Y.take k)=0∧lk ρ 12=some (aC t)∧lk ρ 13=some (.v (.int .i64 t.length))∧lk ρ 14=some (.v (.int .i64 i))∧lk ρ 24=some (aD Y)∧lk ρ 25=some (.v (.int .i64 Y.length))∧lk ρ 26=some (.v (.int .i64 k))) Y.length ?_ ?_
 ·refine ⟨hs,0,by omega,rfl,rfl, ?_, ?_, ?_, ?_, ?_, ?_⟩<;>simp -implicitDefEqProofs only [go_sem,r12,r13,r14,aD,aC]
 clear r12 r13 r14 hs
 rintro m ρ h2 ⟨hs,k,hk,rfl,hck,r12,r13,r14,r24,r25,r26⟩
 simp -implicitDefEqProofs only [go_sem,r25,r26];refine .intro (fun e=> ?_) (fun e=> ?_)
 rotate_left
 ·have hge:k=Y.length:=by grind
  subst hge;rw [List.take_length] at hck;simp -implicitDefEqProofs only [go_sem,r14,w1];refine ⟨_, ?_,hs,i+1,by omega,rfl,go (by rw [ey]; exact hck), ?_, ?_, ?_⟩
  ·omega
  all_goals simp -implicitDefEqProofs only [go_sem,r12,r13,aC]
 have hlt2:k<Y.length:=Gx e;have w2:IntKind.i64.wrap ((k:Int)+1)=((k+1:Nat):Int):=by grind [aY]
 have stop2:∀x:Int,eI Y[k]=x→x≠0→cy t=x:=fun x hx hn=>stop x (by rw [ey,iu hlt2 hck (by rw [hx]; exact hn),hx]) hn
 have go2:eI Y[k]=0→cq eI (Y.take (k+1))=0:=fun hx=>fE hlt2 hck hx
 simp -implicitDefEqProofs only [go_sem,r24,r26,aD];refine .at k (by grind) (by rw [Gr]; rfl) ?_
 generalize hZ:Y[k]=Z at stop2 go2;cases d4:decide ((Z.length:Int)<1)
 case true=>
  simp -implicitDefEqProofs only [go_sem,Gr,hZ,bR,Gq,d4];exact .mk _ (.refl _) hs ⟨by rw [stop2 1 (vg (Gs d4)) (by decide)]; rfl,rfl⟩
 cases d5:decide (8<(Z.length:Int))
 case true=>
  simp -implicitDefEqProofs only [go_sem,Gr,hZ,bR,Gq,d4,d5];exact .mk _ (.refl _) hs ⟨by rw [stop2 6 (tV (Gs d5)) (by decide)]; rfl,rfl⟩
 have mz:cV Z.length=0:=by have:=Gt d4; have:=Gt d5; unfold cV; rw [if_neg (by omega),if_neg (by omega)]
 simp -implicitDefEqProofs only [go_sem,Gr,hZ,bR,Gq,d4,d5];refine .intro (fun m ρ h' =>Ab.Sub h h'∧∃j:Nat,j≤Z.length∧m=Z.length - j∧(Z.take j).all bH=true∧lk ρ 12=some (aC t)∧lk ρ 13=some (.v (.int .i64 t.length))∧lk ρ 14=some (.v (.int .i64 i))∧lk ρ 24=some (aD Y)∧lk ρ 25=some (.v (.int .i64 Y.length))∧lk ρ 26=some (.v (.int .i64 k))∧lk ρ 36=some (bR Z)∧lk ρ 37=some (.v (.int .i64 Z.length))∧lk ρ 38=some (.v (.int .i64 j))) Z.length ?_ ?_
 ·refine ⟨hs,0,by omega,rfl,rfl, ?_, ?_, ?_, ?_, ?_, ?_, ?_, ?_, ?_⟩<;>simp -implicitDefEqProofs only [go_sem,r12,r13,r14,r24,r25,r26,bR]
 clear r12 r13 r14 r24 r25 r26 hs
 rintro m ρ h3 ⟨hs,j,hj,rfl,hcj,r12,r13,r14,r24,r25,r26,r36,r37,r38⟩
 simp -implicitDefEqProofs only [go_sem,r37,r38];refine .intro (fun e=> ?_) (fun e=> ?_)
 rotate_left
 ·have hge:j=Z.length:=by grind
  subst hge;rw [List.take_length] at hcj;simp -implicitDefEqProofs only [go_sem,r26,w2];refine ⟨_, ?_,hs,k+1,by omega,rfl,go2 (by simp [eI,mz,hcj]), ?_, ?_, ?_, ?_, ?_, ?_⟩
  ·omega
  all_goals simp -implicitDefEqProofs only [go_sem,r12,r13,r14,r24,r25,aC,aD]
 have hlt3:j<Z.length:=Gx e;have w3:IntKind.i64.wrap ((j:Int)+1)=((j+1:Nat):Int):=by grind [aY]
 have bad:bH Z[j]=false→cy t=1:=fun hb=>stop2 1 (by
  have:Z.all bH=false:=List.all_eq_false.2 ⟨_,Gv hlt3,by grind⟩
  simp [eI,mz,this]) (by decide)
 simp -implicitDefEqProofs only [go_sem,r36,r38,bR];refine .at j (by grind) (by rw [Gr]; rfl) ?_
 simp -implicitDefEqProofs only [go_sem,Gr,cE];intro id hid;have hs' :=hs.new hid (some (.obj [.v (.int .i64 Z[j].attr.cat), .s Z[j].attr.name, .v (.bool Z[j].attr.must), .v (.int .i64 Z[j].op), .v (.int .i64 Z[j].val.kind), .v (.int .i64 Z[j].val.n), .s Z[j].val.s] 48));simp -implicitDefEqProofs only [go_sem];refine (pG Z[j].attr _).pthen ?_;cases c0:bM Z[j].attr
 ·simp -implicitDefEqProofs only [go_sem]
  exact .mk _ (.refl _) hs' ⟨by rw [bad (by simp [bH,c0])]; rfl,rfl⟩
 cases c1:decide (Z[j].op<1)
 case true=>
  simp -implicitDefEqProofs only [go_sem,c1];exact .mk _ (.refl _) hs' ⟨by rw [bad (by have:=Gs c1; simp [bH]; omega)]; rfl,rfl⟩
 cases c2:decide (3<Z[j].op)
 case true=>
  simp -implicitDefEqProofs only [go_sem,c1,c2];exact .mk _ (.refl _) hs' ⟨by rw [bad (by have:=Gs c2; simp [bH]; omega)]; rfl,rfl⟩
 simp -implicitDefEqProofs only [go_sem,c1,c2];refine (jo Z[j].val _).pthen ?_;cases c3:bD Z[j].val
 ·simp -implicitDefEqProofs only [go_sem]
  exact .mk _ (.refl _) hs' ⟨by rw [bad (by simp [bH,c3])]; rfl,rfl⟩
 have ok:bH Z[j]=true:=by have:=Gt c1; have:=Gt c2; simp [bH,c0,c3]; omega
 simp -implicitDefEqProofs only [go_sem,r38,w3];refine ⟨_, ?_,hs',j+1,by omega,rfl, ?_, ?_, ?_, ?_, ?_, ?_, ?_, ?_, ?_, ?_⟩
 ·omega
 ·grind [List.take_succ_eq_append_getElem]
 all_goals simp -implicitDefEqProofs only [go_sem,r12,r13,r14,r24,r25,r26,r36,r37,bR]
end Go.Proofs.YtfpckjaeeiiipaaDoor
namespace Go.Bf
open Go Go.Ab
def eG (bs:List Bool) (n:bf):Option (List Bool):=
 if (!zeroV n.val && !(n.op==1))||(!zeroAt n.attr && !(n.op==2)) then none
 else if n.op=1 then (if bD n.val then some (bs++ [false]) else none)
 else if n.op=2 then (if bM n.attr then some (bs++ [true]) else none)
 else if n.op=3∨n.op=4 then (if bs.length<1∨bs[bs.length - 1]? =some false then none else some (bs.set (bs.length - 1) false))
 else if n.op=5 then (if bs.length<2∨bs[bs.length - 2]? =some false∨bs[bs.length - 1]? =some true then none else some (bs.take (bs.length - 2)++ [false]))
 else if n.op=11 then (if bs.length<1∨bs[bs.length - 1]? =some true then none else some bs)
 else if 6≤n.op∧n.op≤13 then (if bs.length<2∨bs[bs.length - 2]? =some true∨bs[bs.length - 1]? =some true then none else some (bs.take (bs.length - 1)))
 else none
theorem take_one {bs:List Bool} (h:1≤bs.length):∃a x,bs=a++ [x]∧a.length=bs.length - 1:=
 ⟨bs.take (bs.length - 1),bs[bs.length - 1],by rw [←List.take_succ_eq_append_getElem (by omega),show bs.length - 1+1=bs.length by omega,List.take_length],by simp⟩
theorem rH {bs:List Bool} (h:2≤bs.length):∃a x y,bs=a++ [x,y]∧a.length=bs.length - 2:=by
 obtain ⟨a,y,e1,l1⟩:=take_one (show 1≤bs.length by omega)
 obtain ⟨b,x,e2,l2⟩:=take_one (bs:=a) (by omega)
 exact ⟨b,x,y,by rw [e1,e2]; simp,by omega⟩
theorem rE (bs:List Bool) (n:bf):eG bs n=bT bs n:=by
 unfold eG bT
 by_cases h1:n.op=1
 ·simp [h1,bE,b9,zeroV,zeroAt]
  grind
 by_cases h2:n.op=2
 ·simp [h2,bE,b9,zeroV,zeroAt]
  grind
 have hz:(!zeroV n.val && !(n.op==1)|| !zeroAt n.attr && !(n.op==2))= !b9 n:=by
  unfold b9;rw [if_neg h1,if_neg h2,beq_eq_false_iff_ne.2 h1,beq_eq_false_iff_ne.2 h2];cases zeroV n.val<;>cases zeroAt n.attr<;>rfl
 rw [hz,if_neg h1,if_neg h2];cases hf:b9 n
 ·cases bE n.op<;>simp
 by_cases h34:n.op=3∨n.op=4
 ·rw [if_pos h34]
  have hw:bE n.op=some [true]:=by unfold bE; rw [if_neg (by omega),if_pos h34]
  rw [hw]
  by_cases hl:bs.length<1
  ·simp [hl]
   omega
  obtain ⟨a,x,rfl,_⟩:=take_one (bs:=bs) (by omega)
  cases x<;>simp [h2]<;>omega
 rw [if_neg h34]
 by_cases h5:n.op=5
 ·have hw:bE n.op=some [true,false]:=by unfold bE; rw [if_neg (by omega),if_neg h34,if_pos h5]
  rw [if_pos h5,hw]
  by_cases hl:bs.length<2
  ·simp [hl]
   omega
  obtain ⟨a,x,y,rfl,_⟩:=rH (bs:=bs) (by omega)
  cases x<;>cases y<;>simp [h5]
 rw [if_neg h5]
 by_cases h11:n.op=11
 ·have hw:bE n.op=some [false]:=by unfold bE; rw [if_neg (by omega),if_neg h34,if_neg h5,if_pos h11]
  rw [if_pos h11,hw]
  by_cases hl:bs.length<1
  ·simp [hl]
   omega
  obtain ⟨a,x,rfl,_⟩:=take_one (bs:=bs) (by omega)
  cases x<;>simp [h11]
 rw [if_neg h11]
 by_cases h6:6≤n.op∧n.op≤13
 ·have hw:bE n.op=some [false,false]:=by unfold bE; rw [if_neg (by omega),if_neg h34,if_neg h5,if_neg h11,if_pos h6]
  rw [if_pos h6,hw]
  by_cases hl:bs.length<2
  ·simp [hl]
   omega
  obtain ⟨a,x,y,rfl,_⟩:=rH (bs:=bs) (by omega)
  cases x<;>cases y<;>simp [h2,List.take_append]
  exact List.take_of_length_le (by omega)
 ·have hw:bE n.op=none:=by unfold bE; rw [if_neg (by omega),if_neg h34,if_neg h5,if_neg h11,if_neg h6]
  rw [if_neg h6,hw];simp
end Go.Bf
namespace Go.Proofs.YtfpckjaeeiiipaaDoor
open Go Go.Ab Go.Bf
set_option maxRecDepth 100000 in
set_option maxHeartbeats 2000000 in
theorem tL (l:List bf) (h:Heap):aj Tryd.prog 6 [aH l] h fun r h' =>r= .v (.int .i64 (bF l))∧h' =h:=by
 refine aj.body hU hm Tryd.func6 rfl (by kernel_rfl) 170 rfl [.tmp 2] rfl (Gp rfl) (fun hwf=> ?_)
 cases d1:decide (32<(l.length:Int))
 case true=>
  have e1:32<l.length:=by grind
  simp -implicitDefEqProofs only [go_sem,aH,Gq,d1];exact .same (.refl _) ⟨by grind [bF,au],rfl⟩
 have e1:l.length≤32:=by grind
 simp -implicitDefEqProofs only [go_sem,aH,Gq,d1];refine .intro (fun m ρ h' =>∃(i:Nat) (y:AV) (st:List Bool),WrA 4 h h' y (st.map bC)∧bn [] (l.take i)=some st∧i≤l.length∧m=l.length - i∧
  lk ρ 0=some (aH l)∧lk ρ 3=some y∧lk ρ 12=some (aH l)∧lk ρ 13=some (.v (.int .i64 l.length))∧lk ρ 14=some (.v (.int .i64 i))) l.length ?_ ?_
 ·refine ⟨0,_,[], .nil (.refl _),rfl,by omega,rfl, ?_, ?_, ?_, ?_, ?_⟩<;>simp -implicitDefEqProofs only [go_sem,aH]
 rintro m ρ h' ⟨i,y,st,hy,hst,hi,rfl,r0,r3,r12,r13,r14⟩
 have hsl:=iP _ _ _ hst;have hsl:st.length≤i:=by grind
 simp -implicitDefEqProofs only [go_sem,r13,r14];refine .intro (fun e=> ?_) (fun e=> ?_)
 rotate_left
 ·have hge:i=l.length:=by grind
  subst hge;rw [List.take_length] at hst;have he:bF l=if l= []∨st= [false] then 0 else 1:=by
   simp_all [bF,if_neg]
  cases d2:decide (0<(l.length:Int))
  ·have e2:l= []:=by simp_all
   simp -implicitDefEqProofs only [go_sem,r0,aH,Gq,d2];exact .mk _ (.refl _) hy.1 ⟨by rw [he,if_pos (.inl e2)]; rfl,rfl⟩
  have e2:l≠ []:=by grind
  cases d3:((st.length:Int) !=1)
  case true=>
   have e3:st≠ [false]:=by grind
   simp -implicitDefEqProofs only [go_sem,r0,r3,aH,Gq,d2,hy.len,d3];exact .mk _ (.refl _) hy.1 ⟨by rw [he,if_neg (by grind)]; rfl,rfl⟩
  have e3:st.length=1:=by
   grind
  obtain ⟨b,rfl⟩:=List.length_eq_one_iff.1 e3;simp -implicitDefEqProofs only [go_sem,r0,r3,aH,Gq,d2,hy.len];refine hy.idx (gN [b]) 0 rfl (by simp) u4 u4a fun p hp=> ?_
  simp -implicitDefEqProofs only [go_sem,hp _,bC,List.getElem_cons_zero];cases b
  ·simp -implicitDefEqProofs only [go_sem]
   exact .mk _ (.refl _) hy.1 ⟨by rw [he,if_pos (.inr rfl)]; rfl,rfl⟩
  ·simp -implicitDefEqProofs only [go_sem]
   exact .mk _ (.refl _) hy.1 ⟨by rw [he,if_neg (by grind)]; rfl,rfl⟩
 have hlt:i<l.length:=Gx e;have w1:IntKind.i64.wrap ((i:Int)+1)=((i+1:Nat):Int):=by grind [aY]
 have hnx:bn [] (l.take (i+1))=bT st l[i]:=by
  rw [cO [] _ i,List.take_take,Nat.min_eq_left (by omega),hst,List.take_succ_eq_append_getElem hlt,List.drop_append_of_le_length (by grind),List.drop_of_length_le (by grind)]
  grind [bn,bT]
 simp -implicitDefEqProofs only [go_sem,r12,r14,aH];refine .at i (by grind) (by rw [Gr]; rfl) ?_
 generalize hN:l[i]=N at*;simp -implicitDefEqProofs only [go_sem,Gr,hN,aW];intro id hid;have hyb:=hy.sub (Sub.ah (k:=some (.obj [.v (.int .i64 N.op), .v (.int .i64 N.val.kind), .v (.int .i64 N.val.n), .s N.val.s, .v (.int .i64 N.attr.cat), .s N.attr.name, .v (.bool N.attr.must)] 52)) hid);have bad:eG st N=none→bF l=1:=fun hx=>mB e1 (by rw [cO [] l (i+1),hnx,←rE,hx])
 have good:∀st',eG st N=some st'→bn [] (l.take (i+1))=some st' :=fun st' hx=>by rw [hnx,←rE,hx]
 have stop:eG st N=none→gK [.v (.int .i64 1)] (upd h' id (some (.obj [.v (.int .i64 N.op), .v (.int .i64 N.val.kind), .v (.int .i64 N.val.n), .s N.val.s, .v (.int .i64 N.attr.cat), .s N.attr.name, .v (.bool N.attr.must)] 52))) fun r h' =>r= .v (.int .i64 (bF l))∧h' =h:=fun hx=> .mk _ (.refl _) hyb.1 ⟨by rw [bad hx]; rfl,rfl⟩
 have hcid:upd h' id (some (.obj [.v (.int .i64 N.op), .v (.int .i64 N.val.kind), .v (.int .i64 N.val.n), .s N.val.s, .v (.int .i64 N.attr.cat), .s N.attr.name, .v (.bool N.attr.must)] 52)) id=some (.obj [.v (.int .i64 N.op), .v (.int .i64 N.val.kind), .v (.int .i64 N.val.n), .s N.val.s, .v (.int .i64 N.attr.cat), .s N.attr.name, .v (.bool N.attr.must)] 52):=ag ..;simp -implicitDefEqProofs only [go_sem,r3,hyb.len,Gq];generalize upd h' id _=H at hyb stop hcid⊢;rw [show (N.val.kind==(0:Int) && (N.val.n==(0:Int) && N.val.s==([]:Txt)))=zeroV N.val from rfl,show (N.attr.cat==(0:Int) && (N.attr.name==([]:Txt) && N.attr.must==false))=zeroAt N.attr from rfl]
 by_cases h1:N.op=1
 ·have k1:(N.op==1)=true:=beq_iff_eq.2 h1
  have k2:(N.op==2)=false:=beq_eq_false_iff_ne.2 (by omega)
  cases da:zeroAt N.attr
  ·cases dz:zeroV N.val<;>simp -implicitDefEqProofs only [go_sem,hcid,k1,k2,bne,Bool.not_true,Bool.not_false]<;>exact stop (by simp [eG,da,h1])
  cases dz:zeroV N.val
  all_goals
   simp -implicitDefEqProofs only [go_sem,hcid,k1,k2,bne,Bool.not_true,Bool.not_false];refine aj.pthen (show aj Tryd.prog 17 [_] _ _ from jo N.val H) ?_
   cases dv:bD N.val
   ·simp -implicitDefEqProofs only [go_sem]
    exact stop (by simp [eG,da,h1,dv])
   simp -implicitDefEqProofs only [go_sem,r3];refine hyb.app (zs:= [bC false]) (gN _) (gN [false]) u4 (by rw [u4b]; decide) u4f u4n (fun k hk=>hk) (by rw [u4b]; simp; omega) fun z' G2 hz' => ?_
   simp -implicitDefEqProofs only [go_sem,r14,w1];refine ⟨_, ?_,i+1,z',st++ [false],by rw [List.map_append]; exact hz',good _ (by simp [eG,da,h1,dv]),by omega,rfl, ?_, ?_, ?_, ?_, ?_⟩
   ·omega
   all_goals simp -implicitDefEqProofs only [go_sem,r0,r3,r12,r13,aH]
 by_cases h2:N.op=2
 ·have k1:(N.op==1)=false:=beq_eq_false_iff_ne.2 (by omega)
  have k2:(N.op==2)=true:=beq_iff_eq.2 h2;cases dz:zeroV N.val
  ·cases da:zeroAt N.attr<;>simp -implicitDefEqProofs only [go_sem,hcid,k1,k2,bne,Bool.not_true,Bool.not_false]<;>exact stop (by simp [eG,dz,h2])
  cases da:zeroAt N.attr
  all_goals
   simp -implicitDefEqProofs only [go_sem,hcid,k1,k2,bne,Bool.not_true,Bool.not_false];refine aj.pthen (show aj Tryd.prog 8 [_] _ _ from pG N.attr H) ?_
   cases dv:bM N.attr
   ·simp -implicitDefEqProofs only [go_sem]
    exact stop (by simp [eG,dz,h2,dv])
   simp -implicitDefEqProofs only [go_sem,r3];refine hyb.app (zs:= [bC true]) (gN _) (gN [true]) u4 (by rw [u4b]; decide) u4f u4n (fun k hk=>hk) (by rw [u4b]; simp; omega) fun z' G2 hz' => ?_
   simp -implicitDefEqProofs only [go_sem,r14,w1];refine ⟨_, ?_,i+1,z',st++ [true],by rw [List.map_append]; exact hz',good _ (by simp [eG,dz,h2,dv]),by omega,rfl, ?_, ?_, ?_, ?_, ?_⟩
   ·omega
   all_goals simp -implicitDefEqProofs only [go_sem,r0,r3,r12,r13,aH]
 have k1:(N.op==1)=false:=beq_eq_false_iff_ne.2 h1;have k2:(N.op==2)=false:=beq_eq_false_iff_ne.2 h2;cases dz:zeroV N.val
 ·cases da:zeroAt N.attr<;>simp -implicitDefEqProofs only [go_sem,hcid,k1,k2,bne,Bool.not_true,Bool.not_false]<;>exact stop (by simp [eG,dz,k1])
 cases da:zeroAt N.attr
 ·simp -implicitDefEqProofs only [go_sem,hcid,k1,k2,bne,Bool.not_true,Bool.not_false]
  exact stop (by simp [eG,da,k2])
 have sx:∀b,(if N.op=3∨N.op=4 then (if st.length<1∨st[st.length - 1]? =some false then none else some (st.set (st.length - 1) false))
  else if N.op=5 then (if st.length<2∨st[st.length - 2]? =some false∨st[st.length - 1]? =some true then none else some (st.take (st.length - 2)++ [false]))
  else if N.op=11 then (if st.length<1∨st[st.length - 1]? =some true then none else some st)
  else if 6≤N.op∧N.op≤13 then (if st.length<2∨st[st.length - 2]? =some true∨st[st.length - 1]? =some true then none else some (st.take (st.length - 1)))
  else none)=b→eG st N=b:=fun b hb=>by
  unfold eG;rw [dz,da,if_neg (by simp),if_neg h1,if_neg h2]
  exact hb
 have wk:1≤st.length→IntKind.i64.wrap ((st.length:Int) - 1)=((st.length - 1:Nat):Int):=fun _=>by rw [aY _ (by omega)]; omega
 have wk2:2≤st.length→IntKind.i64.wrap ((st.length:Int) - 2)=((st.length - 2:Nat):Int):=fun _=>by rw [aY _ (by omega)]; omega
 have shape:1≤st.length→∃aid cs,h aid=none∧y= .oa aid 0 st.length∧H aid=some (.obj cs 4)∧st.length≤cs.length∧cs.take st.length=st.map bC∧∀j (hj:j<st.length),cs[j]? =some (bC st[j]):=fun h9=>by
  obtain ⟨hsH,⟨ey,enil⟩|⟨aid,cs,ha0,rfl,hcs,hcl,hct⟩⟩:=hyb
  ·have:=congrArg List.length ey
   simp at this;simp [this] at h9
  simp only [Gq] at hct hcl;refine ⟨aid,cs,ha0,by rw [Gq],hcs,hcl,hct,fun j hj=> ?_⟩
  have h8:=congrArg (fun x=>x[j]?) hct
  simp only [List.getElem?_take,List.getElem?_map] at h8;rw [if_pos hj,List.getElem?_eq_getElem hj] at h8;exact h8
 have gl1:(h9:1≤st.length)→st[st.length - 1]? =some st[st.length - 1]:=fun h9=>List.getElem?_eq_getElem (by omega)
 have gl2:(h9:2≤st.length)→st[st.length - 2]? =some st[st.length - 2]:=fun h9=>List.getElem?_eq_getElem (by omega)
 by_cases h34:N.op=3∨N.op=4
 ·by_cases hl:st.length<1
  ·have q1:decide ((st.length:Int)<1)=true:=decide_eq_true (by omega)
   have hx:eG st N=none:=sx _ (by rw [if_pos h34,if_pos (.inl hl)])
   cases t3:(N.op==3)<;>cases t4:(N.op==4)<;>simp -implicitDefEqProofs only [go_sem,hcid,k1,k2,bne,Bool.not_true,Bool.not_false,t3,t4,q1]
   all_goals first
    |exact stop hx
    |(exfalso; simp only [beq_eq_false_iff_ne] at t3 t4; omega)
  obtain ⟨aid,cs,ha0,rfl,hcs,hcl,hct,hat⟩:=shape (by omega)
  have q1:decide ((st.length:Int)<1)=false:=decide_eq_false (by omega)
  have wk:=wk (by omega)
  have b1:(0:Int)≤((st.length - 1:Nat):Int):=by omega
  have b2:((st.length - 1:Nat):Int)<(st.length:Int):=by omega
  have hat1:=hat (st.length - 1) (by omega)
  have g1:=gl1 (by omega)
  obtain ⟨x,ex⟩:∃x,st[st.length - 1]=x:=⟨_,rfl⟩;rw [ex] at hat1 g1;cases t3:(N.op==3)<;>cases t4:(N.op==4)
  case false.false=>exact absurd h34 fun e=>e.elim (fun e=>by rw [e] at t3; cases t3) fun e=>by rw [e] at t4; cases t4
  all_goals
   cases x
   ·simp -implicitDefEqProofs only [go_sem,hcid,k1,k2,bne,Bool.not_true,Bool.not_false,t3,t4,q1,r3,wk,b1,b2,hcs,Nat.mul_one,hat1,bC]
    exact stop (sx _ (by rw [if_pos h34,if_pos (.inr g1)]))
   simp -implicitDefEqProofs only [go_sem,hcid,k1,k2,bne,Bool.not_true,Bool.not_false,t3,t4,q1,r3,wk,b1,b2,hcs,Nat.mul_one,hat1,bC];refine ⟨by omega, ?_⟩
   have hw2:WrA 4 h (upd H aid (some (.obj (over cs (st.length - 1) [bC false]) 4))) (.oa aid 0 st.length) ((st.set (st.length - 1) false).map bC):=by
    have h9:=WrA.Cl (xs:=st.map bC) (c:=bC false) hyb.1 ha0 hcs (by rw [Gq]; exact hcl) (by rw [Gq]; exact hct) (j:=st.length - 1) (by simp; omega)
    rw [Gq] at h9;rw [List.map_set];exact h9
   simp -implicitDefEqProofs only [go_sem,r14,w1];refine ⟨_, ?_,i+1, .oa aid 0 st.length,st.set (st.length - 1) false,hw2,good _ (sx _ (by rw [if_pos h34,if_neg (fun e=>e.elim hl fun e=>by rw [g1] at e; cases e)])),by omega,rfl, ?_, ?_, ?_, ?_, ?_⟩
   ·omega
   all_goals simp -implicitDefEqProofs only [go_sem,r0,r3,r12,r13,aH]
 have n3:(N.op==3)=false:=beq_eq_false_iff_ne.2 fun e=>h34 (.inl e)
 have n4:(N.op==4)=false:=beq_eq_false_iff_ne.2 fun e=>h34 (.inr e)
 by_cases h5:N.op=5
 ·have k5:(N.op==5)=true:=beq_iff_eq.2 h5
  by_cases hl:st.length<2
  ·simp -implicitDefEqProofs only [go_sem,hcid,k1,k2,bne,Bool.not_true,Bool.not_false,n3,n4,k5,decide_eq_true (show (st.length:Int)<2 by omega)]
   exact stop (sx _ (by rw [if_neg h34,if_pos h5,if_pos (.inl hl)]))
  have q2:decide ((st.length:Int)<2)=false:=decide_eq_false (by omega)
  obtain ⟨aid,cs,ha0,rfl,hcs,hcl,hct,hat⟩:=shape (by omega)
  have wk:=wk (by omega)
  have b1:(0:Int)≤((st.length - 1:Nat):Int):=by omega
  have b2:((st.length - 1:Nat):Int)<(st.length:Int):=by omega
  have hat1:=hat (st.length - 1) (by omega)
  have g1:=gl1 (by omega)
  obtain ⟨x,ex⟩:∃x,st[st.length - 1]=x:=⟨_,rfl⟩;rw [ex] at hat1 g1;have wk2:=wk2 (by omega)
  have b3:(0:Int)≤((st.length - 2:Nat):Int):=by omega
  have b4:((st.length - 2:Nat):Int)<(st.length:Int):=by omega
  have hat2:=hat (st.length - 2) (by omega)
  have g2:=gl2 (by omega)
  obtain ⟨y,ey⟩:∃y,st[st.length - 2]=y:=⟨_,rfl⟩;rw [ey] at hat2 g2;cases y
  ·simp -implicitDefEqProofs only [go_sem,hcid,k1,k2,bne,Bool.not_true,Bool.not_false,n3,n4,k5,q2,r3,wk,b1,b2,hcs,Nat.mul_one,hat1,bC,wk2,b3,b4,hat2]
   exact stop (sx _ (by rw [if_neg h34,if_pos h5,if_pos (.inr (.inl g2))]))
  cases x
  case true=>
   simp -implicitDefEqProofs only [go_sem,hcid,k1,k2,bne,Bool.not_true,Bool.not_false,n3,n4,k5,q2,r3,wk,b1,b2,hcs,Nat.mul_one,hat1,bC,wk2,b3,b4,hat2];exact stop (sx _ (by rw [if_neg h34,if_pos h5,if_pos (.inr (.inr g1))]))
  simp -implicitDefEqProofs only [go_sem,hcid,k1,k2,bne,Bool.not_true,Bool.not_false,n3,n4,k5,q2,r3,wk,b1,b2,hcs,Nat.mul_one,hat1,bC,wk2,b3,b4,hat2,Option.isSome_none,implies_true,show ((st.length - 2:Nat):Int)≤(st.length:Int) from by omega]
  refine ⟨by omega, ?_⟩
  have hz2:WrA 4 h H (.oa aid 0 (st.length - 2 - 0)) ((st.take (st.length - 2)).map bC):=⟨hyb.1, .inr ⟨aid,cs,ha0,by simp,hcs,by simp; omega,by
   have h9:=congrArg (List.take (st.length - 2)) hct;rw [List.take_take,Nat.min_eq_left (by omega),←List.map_take] at h9
   rw [Gq,List.length_take,Nat.min_eq_left (by omega)]
   exact h9⟩⟩
  refine hz2.app (zs:= [bC false]) (gN _) (gN [false]) u4 (by rw [u4b]; decide) u4f u4n (fun k hk=>hk) (by rw [u4b]; simp; omega) fun z' G2 hz' => ?_
  simp -implicitDefEqProofs only [go_sem,r14,w1];refine ⟨_, ?_,i+1,z',st.take (st.length - 2)++ [false],by rw [List.map_append]; exact hz',good _ (sx _ (by rw [if_neg h34,if_pos h5,if_neg (fun e=>e.elim hl fun e=>e.elim (fun e=>by rw [g2] at e; cases e) fun e=>by rw [g1] at e; cases e)])),by omega,rfl, ?_, ?_, ?_, ?_, ?_⟩
  ·omega
  all_goals simp -implicitDefEqProofs only [go_sem,r0,r3,r12,r13,aH]
 have n5:(N.op==5)=false:=beq_eq_false_iff_ne.2 h5
 by_cases h11:N.op=11
 ·have k11:(N.op==11)=true:=beq_iff_eq.2 h11
  by_cases hl:st.length<1
  ·simp -implicitDefEqProofs only [go_sem,hcid,k1,k2,bne,Bool.not_true,Bool.not_false,n3,n4,n5,k11,decide_eq_true (show (st.length:Int)<1 by omega)]
   exact stop (sx _ (by rw [if_neg h34,if_neg h5,if_pos h11,if_pos (.inl hl)]))
  have q1:decide ((st.length:Int)<1)=false:=decide_eq_false (by omega)
  obtain ⟨aid,cs,ha0,rfl,hcs,hcl,hct,hat⟩:=shape (by omega)
  have wk:=wk (by omega)
  have b1:(0:Int)≤((st.length - 1:Nat):Int):=by omega
  have b2:((st.length - 1:Nat):Int)<(st.length:Int):=by omega
  have hat1:=hat (st.length - 1) (by omega)
  have g1:=gl1 (by omega)
  obtain ⟨x,ex⟩:∃x,st[st.length - 1]=x:=⟨_,rfl⟩;rw [ex] at hat1 g1;cases x
  case true=>
   simp -implicitDefEqProofs only [go_sem,hcid,k1,k2,bne,Bool.not_true,Bool.not_false,n3,n4,n5,k11,q1,r3,wk,b1,b2,hcs,Nat.mul_one,hat1,bC];exact stop (sx _ (by rw [if_neg h34,if_neg h5,if_pos h11,if_pos (.inr g1)]))
  simp -implicitDefEqProofs only [go_sem,hcid,k1,k2,bne,Bool.not_true,Bool.not_false,n3,n4,n5,k11,q1,r3,wk,b1,b2,hcs,Nat.mul_one,hat1,bC];simp -implicitDefEqProofs only [go_sem,r14,w1];refine ⟨_, ?_,i+1, .oa aid 0 st.length,st,hyb,good _ (sx _ (by rw [if_neg h34,if_neg h5,if_pos h11,if_neg (fun e=>e.elim hl fun e=>by rw [g1] at e; cases e)])),by omega,rfl, ?_, ?_, ?_, ?_, ?_⟩
  ·omega
  all_goals simp -implicitDefEqProofs only [go_sem,r0,r3,r12,r13,aH]
 have n11:(N.op==11)=false:=beq_eq_false_iff_ne.2 h11
 by_cases h6:6≤N.op
 rotate_left
 ·simp -implicitDefEqProofs only [go_sem,hcid,k1,k2,bne,Bool.not_true,Bool.not_false,n3,n4,n5,n11,decide_eq_false h6]
  exact stop (sx _ (by rw [if_neg h34,if_neg h5,if_neg h11,if_neg fun e=>h6 e.1]))
 by_cases h13:N.op≤13
 rotate_left
 ·simp -implicitDefEqProofs only [go_sem,hcid,k1,k2,bne,Bool.not_true,Bool.not_false,n3,n4,n5,n11,decide_eq_true h6,decide_eq_false h13]
  exact stop (sx _ (by rw [if_neg h34,if_neg h5,if_neg h11,if_neg fun e=>h13 e.2]))
 have q6:=decide_eq_true h6;have q13:=decide_eq_true h13
 by_cases hl:st.length<2
 ·simp -implicitDefEqProofs only [go_sem,hcid,k1,k2,bne,Bool.not_true,Bool.not_false,n3,n4,n5,n11,q6,q13,decide_eq_true (show (st.length:Int)<2 by omega)]
  exact stop (sx _ (by rw [if_neg h34,if_neg h5,if_neg h11,if_pos ⟨h6,h13⟩,if_pos (.inl hl)]))
 ·have q2:decide ((st.length:Int)<2)=false:=decide_eq_false (by omega)
  obtain ⟨aid,cs,ha0,rfl,hcs,hcl,hct,hat⟩:=shape (by omega)
  have wk:=wk (by omega)
  have b1:(0:Int)≤((st.length - 1:Nat):Int):=by omega
  have b2:((st.length - 1:Nat):Int)<(st.length:Int):=by omega
  have hat1:=hat (st.length - 1) (by omega)
  have g1:=gl1 (by omega)
  obtain ⟨x,ex⟩:∃x,st[st.length - 1]=x:=⟨_,rfl⟩;rw [ex] at hat1 g1;have wk2:=wk2 (by omega)
  have b3:(0:Int)≤((st.length - 2:Nat):Int):=by omega
  have b4:((st.length - 2:Nat):Int)<(st.length:Int):=by omega
  have hat2:=hat (st.length - 2) (by omega)
  have g2:=gl2 (by omega)
  obtain ⟨y,ey⟩:∃y,st[st.length - 2]=y:=⟨_,rfl⟩;rw [ey] at hat2 g2;cases y
  case true=>
   simp -implicitDefEqProofs only [go_sem,hcid,k1,k2,bne,Bool.not_true,Bool.not_false,n3,n4,n5,n11,q6,q13,q2,r3,wk,b1,b2,hcs,Nat.mul_one,hat1,bC,wk2,b3,b4,hat2];exact stop (sx _ (by rw [if_neg h34,if_neg h5,if_neg h11,if_pos ⟨h6,h13⟩,if_pos (.inr (.inl g2))]))
  cases x
  case true=>
   simp -implicitDefEqProofs only [go_sem,hcid,k1,k2,bne,Bool.not_true,Bool.not_false,n3,n4,n5,n11,q6,q13,q2,r3,wk,b1,b2,hcs,Nat.mul_one,hat1,bC,wk2,b3,b4,hat2];exact stop (sx _ (by rw [if_neg h34,if_neg h5,if_neg h11,if_pos ⟨h6,h13⟩,if_pos (.inr (.inr g1))]))
  simp -implicitDefEqProofs only [go_sem,hcid,k1,k2,bne,Bool.not_true,Bool.not_false,n3,n4,n5,n11,q6,q13,q2,r3,wk,b1,b2,hcs,Nat.mul_one,hat1,bC,wk2,b3,b4,hat2,Option.isSome_none,implies_true,show ((st.length - 1:Nat):Int)≤(st.length:Int) from by omega]
  refine ⟨by omega, ?_⟩
  have hz2:WrA 4 h H (.oa aid 0 (st.length - 1 - 0)) ((st.take (st.length - 1)).map bC):=⟨hyb.1, .inr ⟨aid,cs,ha0,by simp,hcs,by simp; omega,by
   have h9:=congrArg (List.take (st.length - 1)) hct;rw [List.take_take,Nat.min_eq_left (by omega),←List.map_take] at h9
   rw [Gq,List.length_take,Nat.min_eq_left (by omega)]
   exact h9⟩⟩
  simp -implicitDefEqProofs only [go_sem,r14,w1];refine ⟨_, ?_,i+1, .oa aid 0 (st.length - 1 - 0),st.take (st.length - 1),hz2,good _ (sx _ (by rw [if_neg h34,if_neg h5,if_neg h11,if_pos ⟨h6,h13⟩,if_neg (fun e=>e.elim hl fun e=>e.elim (fun e=>by rw [g2] at e; cases e) fun e=>by rw [g1] at e; cases e)])),by omega,rfl, ?_, ?_, ?_, ?_, ?_⟩
  ·omega
  all_goals simp -implicitDefEqProofs only [go_sem,r0,r3,r12,r13,aH]
def Keeps (S:List Nat) (h h' :Heap):Prop:=∀j k,j∉S→h j=some k→h' j=some k
theorem Keeps.trans {S} {a b c} (x:Keeps S a b) (y:Keeps S b c):Keeps S a c:=fun j k hj e=>y j k hj (x j k hj e)
theorem Keeps.of {S} {a b} (x:Ab.Sub a b):Keeps S a b:=fun j k _ e=>x j k e
theorem Keeps.upd {S} {a} {i:Nat} {b} (hi:i∈S):Keeps S a (Ab.upd a i b):=fun j k hj e=>by
 grind [af]
def cW (h:Heap) (idw mid:Nat) (m:cH):Prop:=h idw=some (.obj [.mp mid, .v (.int .i64 m.rules)] 82)∧h mid=some (.mp (nP m.met))∧(∀l∈m.met,l.length≤16)∧m.rules≤64
theorem cW.ne {h} {idw mid:Nat} {m} (hw:cW h idw mid m):idw≠mid:=fun e=>by
 have h1:=hw.1; have h2:=hw.2.1
 rw [e,h2] at h1; cases h1
theorem cW.keep {h h'} {idw mid:Nat} {m} (hw:cW h idw mid m) (hs:Ab.Sub h h'):cW h' idw mid m:=⟨hs _ _ hw.1,hs _ _ hw.2.1,hw.2.2⟩
theorem Ea:(U 122).sz=0:=by rfl
theorem sy {s} (h:bu s=true):s.length≤16:=by
 grind [bu]
theorem gu {m} {s} (h:s∈m.met∨bu s=false):cX m s=none:=by
 unfold cX
 grind
theorem rS (idw mid:Nat) (m) (s) (h) (hw:cW h idw mid m):aj Tryd.prog 75 [.ptr idw 0, .s s] h fun r h' =>match cX m s with
  |none=>r= .v (.bool false)∧Ab.Sub h h'
  |some m' =>r= .v (.bool true)∧Keeps [idw,mid] h h'∧cW h' idw mid m' :=by
 refine aj.body hU hm Tryd.func75 rfl (by kernel_rfl) 28 rfl [.tmp 4] rfl (Gp rfl) (fun hwf=> ?_)
 obtain ⟨w1,w2,w3,w4⟩:=hw;have hlen:s.length≤maxLen:=by
  have:=hwf (.s s) (by simp)
  simp only [wfA,wf1,lim] at this;unfold maxLen; omega
 have hkeys:oc .str (nP m.met):=uv fun l hl=>by grind [maxLen]
 simp only [go_sem,w1,w2];refine ⟨hlen, .inr (by rfl),hkeys, ?_⟩
 rw [ux _ _ Ea];simp only [go_sem];intro idv hidv;simp only [go_sem];cases d1:decide (s∈m.met)
 case true=>
  have hm:=gu (.inl (Gs d1));simp only [go_sem];rw [hm];exact .mk _ (.refl _) (.ah hidv) ⟨rfl, .refl _⟩
 have e1:=Gt d1;simp only [go_sem];refine (l7 _ _).pthen ?_;cases d2:bu s
 ·have hm:=gu (m:=m) (.inr d2)
  simp only [go_sem];rw [hm];exact .mk _ (.refl _) (.ah hidv) ⟨rfl, .refl _⟩
 have hm:cX m s=some ⟨m.met++ [s],m.rules⟩:=by grind [cX]
 have w1' :upd h idv (some (.obj [] 122)) idw=some (.obj [.mp mid, .v (.int .i64 m.rules)] 82):=by grind [af]
 have w2' :upd h idv (some (.obj [] 122)) mid=some (.mp (nP m.met)):=by grind [af]
 simp only [go_sem,w1',w2'];refine ⟨hlen,hkeys, ?_⟩;rw [wE e1];rw [hm];refine .same (.refl _) ⟨rfl,(Keeps.of (.ah hidv)).trans (.upd (by simp)), ?_, ?_, ?_,w4⟩
 ·grind [af]
 ·rw [ag]
 grind [List.mem_singleton,sy]
theorem wV (idw mid:Nat) (m) (r) (h) (hw:cW h idw mid m):aj Tryd.prog 62 [.ptr idw 0,aB r] h fun x h' =>x= .v (.int .i64 (bG m r).err)∧Keeps [idw,mid] h h'∧∀m',bG m r= .ok m'→cW h' idw mid m' :=by
 refine aj.body hU hm Tryd.func62 rfl (by kernel_rfl) 39 rfl [.tmp 4] rfl (Gp rfl) (fun hwf=> ?_)
 simp only [go_sem,aB,aC,aH,ay];intro id hid;have n1:idw≠id:=fun e=>by have:=hw.1; rw [e,hid] at this; cases this
 have n2:mid≠id:=fun e=>by have:=hw.2.1; rw [e,hid] at this; cases this
 have hwb:=hw.keep (Sub.ah (k:=some (.obj [.s r.id, .v (.bool r.deny), .sl (r.tgt.map aD) .no, .sl (r.cond.map aW) .no, .sl (r.obls.map aN) .no] 54)) hid);have hk0:Keeps [idw,mid] h (upd h id (some (.obj [.s r.id, .v (.bool r.deny), .sl (r.tgt.map aD) .no, .sl (r.cond.map aW) .no, .sl (r.obls.map aN) .no] 54))):= .of (.ah hid);simp only [go_sem];obtain ⟨hb,ehb⟩:∃hb,upd h id (some (.obj [.s r.id, .v (.bool r.deny), .sl (r.tgt.map aD) .no, .sl (r.cond.map aW) .no, .sl (r.obls.map aN) .no] 54))=hb:=⟨_,rfl⟩;have hbid:hb id=some (.obj [.s r.id, .v (.bool r.deny), .sl (r.tgt.map aD) .no, .sl (r.cond.map aW) .no, .sl (r.obls.map aN) .no] 54):=by rw [←ehb]; exact ag ..
 rw [ehb] at hwb hk0⊢;refine (rS idw mid m r.id hb hwb).mono fun x h2 hx=> ?_
 cases hm:cX m r.id with
 |none=>
  rw [hm] at hx;obtain ⟨rfl,hs⟩:=hx;have hr:bG m r= .bad 1:=by grind [bG]
  simp only [go_sem];exact .same (.refl _) ⟨by rw [hr]; rfl,hk0.trans (.of hs),fun m' h' =>by grind⟩
 |some m1=>
  rw [hm] at hx;obtain ⟨rfl,hk,hw2⟩:=hx;have g2:=hw2.1;have hle:=hw2.2.2.2;have hid2:h2 id=some (.obj [.s r.id, .v (.bool r.deny), .sl (r.tgt.map aD) .no, .sl (r.cond.map aW) .no, .sl (r.obls.map aN) .no] 54):=hk id _ (by grind) hbid
  have w1:IntKind.i64.wrap ((m1.rules:Int)+1)=((m1.rules+1:Nat):Int):=by grind [aY]
  have hk3:Keeps [idw,mid] h (upd h2 idw (some (.obj [.mp mid, .v (.int .i64 ((m1.rules+1:Nat):Int))] 82))):=(hk0.trans hk).trans (.upd (by simp))
  have hid3:upd h2 idw (some (.obj [.mp mid, .v (.int .i64 ((m1.rules+1:Nat):Int))] 82)) id=some (.obj [.s r.id, .v (.bool r.deny), .sl (r.tgt.map aD) .no, .sl (r.cond.map aW) .no, .sl (r.obls.map aN) .no] 54):=by
   grind [af]
  cases d1:decide (64<((m1.rules+1:Nat):Int))
  case true=>
   have e1:m1.rules+1>64:=by grind
   have hr:bG m r= .bad 6:=by grind [bG]
   simp only [go_sem,g2,w1,d1];exact .same (.refl _) ⟨by rw [hr]; rfl,hk3,fun m' h' =>by grind⟩
  have e1:¬m1.rules+1>64:=by grind
  have hr:bG m r=need (cy r.tgt) (need (bF r.cond) (need (bp r.obls) (.ok ⟨m1.met,m1.rules+1⟩))):=by grind [bG]
  simp only [go_sem,g2,w1,d1,hid3];refine (kP r.tgt _).pthen ?_;cases d2:(cy r.tgt !=0)
  case true=>
   have e2:cy r.tgt≠0:=by grind
   have hr:bG m r= .bad (cy r.tgt):=by grind [need]
   simp only [go_sem,d2];exact .same (.refl _) ⟨by rw [hr]; rfl,hk3,fun m' h' =>by grind⟩
  have e2:cy r.tgt=0:=by grind
  rw [need,if_pos e2] at hr;simp only [go_sem,d2,hid3];refine (tr r.cond _).pthen ?_;cases d3:(bF r.cond !=0)
  case true=>
   have e3:bF r.cond≠0:=by grind
   have hr:bG m r= .bad (bF r.cond):=by grind [need]
   simp only [go_sem,d3];exact .same (.refl _) ⟨by rw [hr]; rfl,hk3,fun m' h' =>by grind⟩
  have e3:bF r.cond=0:=by grind
  rw [need,if_pos e3] at hr;simp only [go_sem,d3,hid3];refine (pn r.obls _).pthen ?_;simp only [go_sem]
  by_cases e4:bp r.obls=0
  ·rw [need,if_pos e4] at hr
   refine .same (.refl _) ⟨by rw [hr,e4]; rfl,hk3,fun m' h' => ?_⟩
   rw [hr] at h';cases h';refine ⟨ag .., ?_,hw2.2.2.1,by grind⟩
   rw [af _ _ hw2.ne.symm]; exact hw2.2.1
  ·rw [need,if_neg e4] at hr
   exact .same (.refl _) ⟨by rw [hr]; rfl,hk3,fun m' h' =>by grind⟩
theorem jb {m} {id} {set} {alg:Int} {tgt} {nr nk:Nat} {obls} (h:cX m id=none):bt m id set alg tgt nr nk obls= .bad 1:=by
 grind [bt]
theorem wR (idw mid:Nat) (m) (id) (set) (alg:Int) (tgt) (rules) (kids) (obls) (h) (hw:cW h idw mid m):
  aj Tryd.prog 61 [.ptr idw 0,aE (.mk id set alg tgt rules kids obls)] h fun x h' =>x= .v (.int .i64 (bt m id set alg tgt rules.length kids.length obls).err)∧Keeps [idw,mid] h h'∧∀m',bt m id set alg tgt rules.length kids.length obls= .ok m'→cW h' idw mid m' :=by
 refine aj.body hU hm Tryd.func61 rfl (by kernel_rfl) 68 rfl [.tmp 4] rfl (Gp rfl) (fun hwf=> ?_)
 simp only [go_sem,aE,aC,ay];intro ip hip;have n1:idw≠ip:=fun e=>by have:=hw.1; rw [e,hip] at this; cases this
 have n2:mid≠ip:=fun e=>by have:=hw.2.1; rw [e,hip] at this; cases this
 have hwb:=hw.keep (Sub.ah (k:=some (.obj [.s id, .v (.bool set), .v (.int .i64 alg), .sl (tgt.map aD) .no, .sl (rules.map aB) .no, .sl (aZ kids) .no, .sl (obls.map aN) .no] 28)) hip);have hk0:Keeps [idw,mid] h (upd h ip (some (.obj [.s id, .v (.bool set), .v (.int .i64 alg), .sl (tgt.map aD) .no, .sl (rules.map aB) .no, .sl (aZ kids) .no, .sl (obls.map aN) .no] 28))):= .of (.ah hip);simp only [go_sem];obtain ⟨hb,ehb⟩:∃hb,upd h ip (some (.obj [.s id, .v (.bool set), .v (.int .i64 alg), .sl (tgt.map aD) .no, .sl (rules.map aB) .no, .sl (aZ kids) .no, .sl (obls.map aN) .no] 28))=hb:=⟨_,rfl⟩;have hbip:hb ip=some (.obj [.s id, .v (.bool set), .v (.int .i64 alg), .sl (tgt.map aD) .no, .sl (rules.map aB) .no, .sl (aZ kids) .no, .sl (obls.map aN) .no] 28):=by rw [←ehb]; exact ag ..
 rw [ehb] at hwb hk0⊢;refine (rS idw mid m id hb hwb).mono fun x h2 hx=> ?_
 cases hm:cX m id with
 |none=>
  rw [hm] at hx;obtain ⟨rfl,hs⟩:=hx;simp only [go_sem];exact .same (.refl _) ⟨by rw [jb hm]; rfl,hk0.trans (.of hs),fun m' h' =>by rw [jb hm] at h'; cases h'⟩
 |some m1=>
  rw [hm] at hx;obtain ⟨rfl,hk,hw2⟩:=hx;have hip2:h2 ip=some (.obj [.s id, .v (.bool set), .v (.int .i64 alg), .sl (tgt.map aD) .no, .sl (rules.map aB) .no, .sl (aZ kids) .no, .sl (obls.map aN) .no] 28):=hk ip _ (by simp [n1.symm,n2.symm]) hbip
  have hkk:=hk0.trans hk;have bad:∀e,bt m id set alg tgt rules.length kids.length obls= .bad e→(.v (.int .i64 e):AV)= .v (.int .i64 (bt m id set alg tgt rules.length kids.length obls).err)∧Keeps [idw,mid] h h2∧∀m',bt m id set alg tgt rules.length kids.length obls= .ok m'→cW h2 idw mid m' :=
   fun e he=>⟨by rw [he]; rfl,hkk,fun m' h' =>by rw [he] at h'; cases h'⟩
  cases d1:decide (alg<1)
  case true=>
   have e1:=Gs d1;simp only [go_sem,d1,hip2];exact .same (.refl _) (bad 1 (by simp [bt,hm,e1]))
  cases d2:decide (6<alg)
  case true=>
   have e2:=Gs d2;simp only [go_sem,d1,d2,hip2];exact .same (.refl _) (bad 1 (by simp [bt,hm,e2]))
  have e1:¬(alg<1∨alg>6):=by have:=Gt d1; have:=Gt d2; omega
  have tail:∀(z:Unit),¬(set=true∧rules.length>0∨set=false∧(kids.length>0∨alg=4))→bt m id set alg tgt rules.length kids.length obls=need (cy tgt) (need (bp obls) (if rules.length>16∨kids.length>16 then .bad 6 else .ok m1)):=fun _ hh=>by
   simp only [bt,hm];rw [if_neg e1,if_neg hh]
  cases set
  ·cases d4:decide (0<(kids.length:Int))
   case true=>
    have f4:0<kids.length:=by have:=Gs d4; omega
    simp -implicitDefEqProofs only [go_sem,d1,d2,hip2,aG,Gq,d4];exact .same (.refl _) (bad 1 (by simp [bt,hm,e1,f4]))
   have g4:¬0<kids.length:=by have:=Gt d4; omega
   cases d5:(alg==4)
   case true=>
    have f5:alg=4:=by simpa using d5
    simp -implicitDefEqProofs only [go_sem,d1,d2,hip2,aG,Gq,d4,d5];exact .same (.refl _) (bad 1 (by simp [bt,hm,f5]))
   have g5:alg≠4:=by simpa using d5
   simp -implicitDefEqProofs only [go_sem,d1,d2,hip2,aG,Gq,d4,d5];have e3:=tail () (by simp [g4,g5])
   refine (kP tgt _).pthen ?_;cases t1:(cy tgt !=0)
   case true=>
    have f1:cy tgt≠0:=by simpa using t1
    simp only [go_sem,t1];exact .same (.refl _) (bad _ (by rw [e3]; simp [need,f1]))
   have f1:cy tgt=0:=by simpa using t1
   simp only [go_sem,t1,hip2];refine (pn obls _).pthen ?_;cases t2:(bp obls !=0)
   case true=>
    have f2:bp obls≠0:=by simpa using t2
    simp only [go_sem,t2];exact .same (.refl _) (bad _ (by rw [e3]; simp [need,f1,f2]))
   have f2:bp obls=0:=by simpa using t2
   cases t3:decide (16<(rules.length:Int))
   case true=>
    have f3:16<rules.length:=by have:=Gs t3; omega
    simp only [go_sem,t2,hip2,Gq,t3];exact .same (.refl _) (bad _ (by rw [e3]; simp [need,f1,f2,f3]))
   have f3:¬16<rules.length:=by have:=Gt t3; omega
   cases t4:decide (16<(kids.length:Int))
   case true=>
    have f4:16<kids.length:=by have:=Gs t4; omega
    simp only [go_sem,t2,hip2,Gq,t3,aG,t4];exact .same (.refl _) (bad _ (by rw [e3]; simp [need,f1,f2,f4]))
   have f4:¬16<kids.length:=by have:=Gt t4; omega
   simp only [go_sem,t2,hip2,Gq,t3,aG,t4];have e4:bt m id false alg tgt rules.length kids.length obls= .ok m1:=by rw [e3]; simp [need,f1,f2,f3,f4]
   exact .same (.refl _) ⟨by rw [e4]; rfl,hkk,fun m' h' =>by rw [e4] at h'; cases h'; exact hw2⟩
  ·cases d3:decide (0<(rules.length:Int))
   case true=>
    have f3:0<rules.length:=by have:=Gs d3; omega
    simp -implicitDefEqProofs only [go_sem,d1,d2,hip2,Gq,d3];exact .same (.refl _) (bad 1 (by simp [bt,hm,e1,f3]))
   have g3:¬0<rules.length:=by have:=Gt d3; omega
   simp -implicitDefEqProofs only [go_sem,d1,d2,hip2,Gq,d3];have e3:=tail () (by simp [g3])
   refine (kP tgt _).pthen ?_;cases t1:(cy tgt !=0)
   case true=>
    have f1:cy tgt≠0:=by simpa using t1
    simp only [go_sem,t1];exact .same (.refl _) (bad _ (by rw [e3]; simp [need,f1]))
   have f1:cy tgt=0:=by simpa using t1
   simp only [go_sem,t1,hip2];refine (pn obls _).pthen ?_;cases t2:(bp obls !=0)
   case true=>
    have f2:bp obls≠0:=by simpa using t2
    simp only [go_sem,t2];exact .same (.refl _) (bad _ (by rw [e3]; simp [need,f1,f2]))
   have f2:bp obls=0:=by simpa using t2
   cases t3:decide (16<(rules.length:Int))
   case true=>
    have f3:16<rules.length:=by have:=Gs t3; omega
    simp only [go_sem,t2,hip2,Gq,t3];exact .same (.refl _) (bad _ (by rw [e3]; simp [need,f1,f2,f3]))
   have f3:¬16<rules.length:=by have:=Gt t3; omega
   cases t4:decide (16<(kids.length:Int))
   case true=>
    have f4:16<kids.length:=by have:=Gs t4; omega
    simp only [go_sem,t2,hip2,Gq,t3,aG,t4];exact .same (.refl _) (bad _ (by rw [e3]; simp [need,f1,f2,f4]))
   have f4:¬16<kids.length:=by have:=Gt t4; omega
   simp only [go_sem,t2,hip2,Gq,t3,aG,t4];have e4:bt m id true alg tgt rules.length kids.length obls= .ok m1:=by rw [e3]; simp [need,f1,f2,f3,f4]
   exact .same (.refl _) ⟨by rw [e4]; rfl,hkk,fun m' h' =>by rw [e4] at h'; cases h'; exact hw2⟩
theorem er (k):(aE k).cells.length=7:=by
 cases k; rfl
theorem fU {m} {d:Nat} {p} (h:4<d):cI m d p= .bad 6:=by
 cases p; grind [cI]
theorem fV {m} {d:Nat} {id} {set} {alg:Int} {tgt} {rules} {kids} {obls} {e:Int} (h:¬4<d)
  (hh:bt m id set alg tgt rules.length kids.length obls= .bad e):cI m d (.mk id set alg tgt rules kids obls)= .bad e:=by
 grind [cI]
theorem ji {m m1} {d:Nat} {id} {set} {alg:Int} {tgt} {rules} {kids} {obls} {e:Int} (h:¬4<d)
  (hh:bt m id set alg tgt rules.length kids.length obls= .ok m1) (hr:bA m1 rules= .bad e):cI m d (.mk id set alg tgt rules kids obls)= .bad e:=by
 grind [cI]
theorem kJ {m m1 m2} {d:Nat} {id} {set} {alg:Int} {tgt} {rules} {kids} {obls} (h:¬4<d)
  (hh:bt m id set alg tgt rules.length kids.length obls= .ok m1) (hr:bA m1 rules= .ok m2):cI m d (.mk id set alg tgt rules kids obls)=cK m2 (d+1) kids:=by
 grind [cI]
theorem jL:∀(n d:Nat) (m:cH) (p:aR) (e:Int),d+n=5→cI m d p= .bad e→e≠0
 |0,d,m,p,e,hd,h=>by grind [fU]
 |n+1,d,m, .mk id set alg tgt rules kids obls,e,hd,h=>by
  by_cases h4:4<d
  ·omega
  cases hh:bt m id set alg tgt rules.length kids.length obls with
  |bad e' =>grind [fV,kj]
  |ok m1=>
   cases hr:bA m1 rules with
   |bad e' =>
    rw [ji h4 hh hr] at h; cases h
    clear hh hd
    induction rules generalizing m1 with
    |nil=>cases hr
    |cons r l ih=>
     grind [bA,bG,kM]
   |ok m2=>
    rw [kJ h4 hh hr] at h;have ih:=fun m p e=>jL n (d+1) m p e (by omega)
    clear hh hr
    induction kids generalizing m2 with
    |nil=>cases h
    |cons k l ihk=>
     simp only [cK] at h;cases hx:cI m2 (d+1) k with
     |bad x=>rw [hx] at h; cases h; exact ih _ _ _ hx
     |ok m3=>rw [hx] at h; exact ihk m3 h
theorem tG {e:Int} {w} {m} (h:need e w= .ok m):e=0∧w= .ok m:=by
 grind [need]
theorem vK {m m1} {id} {set} {alg:Int} {tgt} {nr nk:Nat} {obls} (h:bt m id set alg tgt nr nk obls= .ok m1):
  cX m id=some m1∧1≤alg∧alg≤6∧(set=true→nr=0)∧(set=false→nk=0∧alg≠4)∧cy tgt=0∧bp obls=0∧nr≤16∧nk≤16:=by
 unfold bt at h;split at h
 ·cases h
 split at h
 ·cases h
 split at h
 ·cases h
 obtain ⟨h3,h⟩:=tG h;obtain ⟨h4,h⟩:=tG h
 grind
theorem tT:∀(n d:Nat),d+n=5→∀(idw mid:Nat) (m:cH) (p:aR) (h:Heap),cW h idw mid m→
  aj Tryd.prog 42 [.ptr idw 0,aE p, .v (.int .i64 d)] h fun x h' =>x= .v (.int .i64 (cI m d p).err)∧Keeps [idw,mid] h h'∧∀m',cI m d p= .ok m'→cW h' idw mid m'
 |n,d,hd,idw,mid,m, .mk id set alg tgt rules kids obls,h,hw=>by
  refine aj.body hU hm Tryd.func42 rfl (by kernel_rfl) 52 rfl [.tmp 6] rfl (Gp rfl) (fun hwf=> ?_)
  simp only [go_sem,aE,aC,ay];intro ip hip;have n1:idw≠ip:=fun e=>by have:=hw.1; rw [e,hip] at this; cases this
  have n2:mid≠ip:=fun e=>by have:=hw.2.1; rw [e,hip] at this; cases this
  have hwb:=hw.keep (Sub.ah (k:=some (.obj [.s id, .v (.bool set), .v (.int .i64 alg), .sl (tgt.map aD) .no, .sl (rules.map aB) .no, .sl (aZ kids) .no, .sl (obls.map aN) .no] 28)) hip);have hk0:Keeps [idw,mid] h (upd h ip (some (.obj [.s id, .v (.bool set), .v (.int .i64 alg), .sl (tgt.map aD) .no, .sl (rules.map aB) .no, .sl (aZ kids) .no, .sl (obls.map aN) .no] 28))):= .of (.ah hip);obtain ⟨hb,ehb⟩:∃hb,upd h ip (some (.obj [.s id, .v (.bool set), .v (.int .i64 alg), .sl (tgt.map aD) .no, .sl (rules.map aB) .no, .sl (aZ kids) .no, .sl (obls.map aN) .no] 28))=hb:=⟨_,rfl⟩;have hbip:hb ip=some (.obj [.s id, .v (.bool set), .v (.int .i64 alg), .sl (tgt.map aD) .no, .sl (rules.map aB) .no, .sl (aZ kids) .no, .sl (obls.map aN) .no] 28):=by rw [←ehb]; exact ag ..
  rw [ehb] at hwb hk0⊢;cases d0:decide (4<(d:Int))
  case true=>
   have e0:4<d:=by grind
   simp only [go_sem,d0];exact .same (.refl _) ⟨by rw [fU e0]; rfl,hk0,fun m' h' =>by grind [fU]⟩
  have e0:¬4<d:=by grind
  simp only [go_sem,d0,hbip];have hhead:=wR idw mid m id set alg tgt rules kids obls hb hwb;simp only [aE,aC,ay] at hhead;refine hhead.mono fun x h2 ⟨ex,hk,hw2⟩=> ?_
  subst ex;have hk2:=hk0.trans hk;cases hh:bt m id set alg tgt rules.length kids.length obls with
  |bad e=>
   have hne:=kj hh;have t1:(e !=0)=true:=by grind
   simp only [go_sem,Went.err,t1];exact .same (.refl _) ⟨by rw [fV e0 hh]; rfl,hk2,fun m' h' =>by grind [fV]⟩
  |ok m1=>
   have hw2:=hw2 _ hh;have hle:=(vK hh).2.2.2.2.2.2.2;have hip2:=hk ip _ (by grind) hbip
   simp only [go_sem,Went.err,hip2,Gq];refine .intro (fun k ρ h' =>∃(i:Nat) (mi:cH),i≤rules.length∧k=rules.length - i∧bA m1 (rules.take i)= .ok mi∧Keeps [idw,mid] h h'∧cW h' idw mid mi∧
    h' ip=some (.obj [.s id, .v (.bool set), .v (.int .i64 alg), .sl (tgt.map aD) .no, .sl (rules.map aB) .no, .sl (aZ kids) .no, .sl (obls.map aN) .no] 28)∧
    lk ρ 0=some (.ptr idw 0)∧lk ρ 2=some (.v (.int .i64 d))∧lk ρ 4=some (.ptr ip 0)∧lk ρ 23=some (.sl (rules.map aB) .no)∧lk ρ 24=some (.v (.int .i64 rules.length))∧lk ρ 25=some (.v (.int .i64 i))) rules.length ?_ ?_
   ·refine ⟨0,m1,by omega,rfl,rfl,hk2,hw2,hip2, ?_, ?_, ?_, ?_, ?_, ?_⟩<;>simp only [go_sem]
   ·rintro k ρ h' ⟨i,mi,hi,rfl,hri,hki,hwi,hipi,r0,r2,r4,r23,r24,r25⟩
    simp only [go_sem,r24,r25];refine .intro (fun e=> ?_) (fun e=> ?_)
    ·have hlt:i<rules.length:=Gx e
     have w1:IntKind.i64.wrap ((i:Int)+1)=((i+1:Nat):Int):=by grind [aY]
     simp only [go_sem,r23,r25];refine .at i (by grind) (by rw [Gr]; rfl) ?_
     simp only [go_sem,Gr,aB];intro ir hir;have hrl:=wV idw mid mi rules[i] _ (hwi.keep (Sub.ah (k:=some (.obj [.s rules[i].id, .v (.bool rules[i].deny),aC rules[i].tgt,aH rules[i].cond,ay rules[i].obls] 54)) hir));simp only [aB] at hrl;simp only [go_sem,r0];refine hrl.mono fun x h3 ⟨ex,hk3,hw3⟩=> ?_
     subst ex;have hk4:=(hki.trans (.of (Sub.ah hir))).trans hk3;have hip3:=hk3 ip _ (by grind) ((Sub.ah hir) _ _ hipi)
     cases hx:bG mi rules[i] with
     |bad x=>
      have t1:(x !=0)=true:=by grind [kM]
      simp only [go_sem,Went.err,t1];have hp:=ji (d:=d) (kids:=kids) e0 hh (lE hlt hri hx);exact .same (.refl _) ⟨by rw [hp]; rfl,hk4,fun m' h' =>by grind⟩
     |ok m3=>
      simp only [go_sem,r25,Went.err,w1];refine ⟨_, ?_,i+1,m3,by omega,rfl,by grind [hD],hk4,hw3 _ hx,hip3, ?_, ?_, ?_, ?_, ?_, ?_⟩
      ·omega
      all_goals simp only [go_sem,r0,r2,r4,r23,r24]
    ·have hge:i=rules.length:=by grind
     subst hge;rw [List.take_length] at hri;have hpk:=kJ (d:=d) (kids:=kids) e0 hh hri;simp only [go_sem,r4,hipi,aG,Gq];refine .intro (fun k ρ h' =>∃(i:Nat) (mj:cH),i≤kids.length∧k=kids.length - i∧cK mi (d+1) (kids.take i)= .ok mj∧Keeps [idw,mid] h h'∧cW h' idw mid mj∧
      lk ρ 0=some (.ptr idw 0)∧lk ρ 2=some (.v (.int .i64 d))∧lk ρ 37=some (.sl (kids.map aE) .no)∧lk ρ 38=some (.v (.int .i64 kids.length))∧lk ρ 39=some (.v (.int .i64 i))) kids.length ?_ ?_
     ·refine ⟨0,mi,by omega,rfl,rfl,hki,hwi, ?_, ?_, ?_, ?_, ?_⟩<;>simp only [go_sem,r0,r2]
     ·rintro k ρ h' ⟨i,mj,hi,rfl,hkj,hki,hwi,r0,r2,r37,r38,r39⟩
      simp only [go_sem,r38,r39];refine .intro (fun e=> ?_) (fun e=> ?_)
      ·have hlt:i<kids.length:=Gx e
       have w1:IntKind.i64.wrap ((i:Int)+1)=((i+1:Nat):Int):=by grind [aY]
       have w2:IntKind.i64.wrap ((d:Int)+1)=((d+1:Nat):Int):=by grind [aY]
       obtain ⟨n',rfl⟩:∃n',n=n' +1:=⟨n - 1,by omega⟩
       have hrec:=tT n' (d+1) (by omega) idw mid mj kids[i]
       cases hki' :kids[i] with
       |mk kid kset kalg ktgt krules kkids kobls=>
       rw [hki'] at hrec;simp only [aE,aC,ay] at hrec;simp only [go_sem,r37,r39];refine .at i (by grind) (by grind [er]) ?_
       simp only [go_sem,Gr,hki',aE,aC,ay];intro ir hir;simp only [go_sem,r0,r2,w2];refine (hrec _ (hwi.keep (Sub.ah hir))).mono fun x h3 ⟨ex,hk3,hw3⟩=> ?_
       subst ex;have hk4:=(hki.trans (.of (Sub.ah hir))).trans hk3;cases hx:cI mj (d+1) (.mk kid kset kalg ktgt krules kkids kobls) with
       |bad x=>
        have t1:(x !=0)=true:=by simpa using jL n' (d+1) _ _ _ (by omega) hx
        simp only [go_sem,Went.err,t1];have hp:=mQ hlt hkj (by rw [hki']; exact hx)
        exact .same (.refl _) ⟨by rw [hpk,hp]; rfl,hk4,fun m' h' =>by grind⟩
       |ok m3=>
        simp only [go_sem,r39,Went.err,w1];refine ⟨_, ?_,i+1,m3,by omega,rfl,by grind [jd],hk4,hw3 _ hx, ?_, ?_, ?_, ?_, ?_⟩
        ·omega
        all_goals simp only [go_sem,r0,r2,r37,r38]
      ·have hge:i=kids.length:=by grind
       subst hge;rw [List.take_length] at hkj;simp only [go_sem];exact .same (.refl _) ⟨by rw [hpk,hkj]; rfl,hki,fun m' h' =>by grind⟩
theorem kE {h:Heap} {i j:Nat} {b} (e:upd h i (some b) j=none):j≠i:=fun hh=>by
 subst hh; rw [ag] at e; cases e
theorem wo (p) (h):aj Tryd.prog 23 [aE p] h fun r h' =>r= .v (.int .i64 (eC p))∧h' =h:=by
 cases p with
 |mk id set alg tgt rules kids obls=>
 refine aj.body hU hm Tryd.func23 rfl (by kernel_rfl) 10 rfl [.tmp 2] rfl (Gp rfl) (fun hwf=> ?_)
 simp only [go_sem,aE,aC,ay];intro ip hip;simp only [go_sem];intro im him;simp only [go_sem];intro iw hiw;have n1:=kE him;have n2:=kE hiw;have hiw1:=hiw;rw [af _ _ n2] at hiw1;have n3:=kE hiw1;have s1:Ab.Sub h (upd (upd (upd h ip (some (.obj [.s id, .v (.bool set), .v (.int .i64 alg), .sl (tgt.map aD) .no, .sl (rules.map aB) .no, .sl (aZ kids) .no, .sl (obls.map aN) .no] 28))) im (some (.mp []))) iw (some (.obj [.mp im, .v (.int .i64 0)] 82))):=
  ((Sub.ah hip).trans (.ah him)).trans (.ah hiw)
 obtain ⟨h3,e3⟩:∃h3,upd (upd (upd h ip (some (.obj [.s id, .v (.bool set), .v (.int .i64 alg), .sl (tgt.map aD) .no, .sl (rules.map aB) .no, .sl (aZ kids) .no, .sl (obls.map aN) .no] 28))) im (some (.mp []))) iw (some (.obj [.mp im, .v (.int .i64 0)] 82))=h3:=⟨_,rfl⟩;have g1:h3 ip=some (.obj [.s id, .v (.bool set), .v (.int .i64 alg), .sl (tgt.map aD) .no, .sl (rules.map aB) .no, .sl (aZ kids) .no, .sl (obls.map aN) .no] 28):=by
  rw [←e3,af _ _ n3.symm,af _ _ n1.symm,ag]
 have g2:cW h3 iw im ⟨[],0⟩:=by
  refine ⟨by rw [←e3,ag]; rfl,by rw [←e3,af _ _ n2.symm,ag]; rfl,fun l hl=>(by grind),by decide⟩
 have hi0:h im=none:=by grind [af]
 have hw0:h iw=none:=by grind [af]
 simp only [go_sem];rw [e3] at s1⊢;simp only [go_sem,g1];have hp:=tT 4 1 rfl iw im ⟨[],0⟩ (.mk id set alg tgt rules kids obls) h3 g2;refine hp.mono fun x h4 ⟨ex,hk,_⟩=> ?_
 subst ex;simp only [go_sem];refine .mk _ (.refl _) (fun j k hj=> ?_) ⟨rfl,rfl⟩
 refine hk j k ?_ (s1 _ _ hj)
 grind
end Go.Proofs.YtfpckjaeeiiipaaDoor
namespace Go.Ab
open Go
inductive Av (F:Nat→Prop):AV→Prop where
 |v (x:Value):Av F (.v x)
 |s (l:List UInt8):Av F (.s l)
 |agg (xs:List AV) (h:∀x∈xs,Av F x):Av F (.agg xs)
 |tup (xs:List AV) (h:∀x∈xs,Av F x):Av F (.tup xs)
 |sl (xs:List AV) (p:Perm) (h:∀x∈xs,Av F x) (hp:∀id,p= .own id→¬F id):Av F (.sl xs p)
 |pe (x:AV) (o:Nat) (h:Av F x):Av F (.pe x o)
 |ptr (id o:Nat) (h:¬F id):Av F (.ptr id o)
 |oa (id o l:Nat) (h:¬F id):Av F (.oa id o l)
 |ob (id o l c z:Nat) (h:¬F id):Av F (.ob id o l c z)
 |ifc (t:TypeId) (x:AV) (h:Av F x):Av F (.ifc t x)
 |fn (f:FuncId) (xs:List AV) (h:∀x∈xs,Av F x):Av F (.fn f xs)
 |mp (id:Nat) (h:¬F id):Av F (.mp id)
theorem Av.cells {F} {x} (h:Av F x):∀y∈x.cells,Av F y:=by
 cases h with
 |agg xs hx=>exact hx
 |_=>intro y hy; rw [List.mem_singleton.1 hy]; constructor<;>assumption
theorem Av.qO {F} {x} (h:∀y∈x.cells,Av F y):Av F x:=by
 cases x with
 |agg xs=>exact .agg xs h
 |_=>exact h _ (List.mem_singleton.2 rfl)
theorem Rep.av {c} {F} (hF:∀id,F id→c.h id=none) {x} {u} (h:Rep c x u):Av F x:=by
 have nf:∀ {id:Nat} {k:Blk},c.h id=some k→¬F id:=fun hk hf=>by grind
 induction h with
 |v x=>exact .v x
 |s l hl=>exact .s l
 |agg xs vs hn hr ho ih=>exact .agg xs fun x hx=>by obtain ⟨i,hi,rfl⟩:=List.mem_iff_getElem.1 hx; grind
 |tup xs vs hn hr ih=>exact .tup xs fun x hx=>by obtain ⟨i,hi,rfl⟩:=List.mem_iff_getElem.1 hx; grind
 |sl xs p a cap sz val hc hm h0 hs hz hf hr ho hp ih=>
  refine .sl xs p (fun x hx=> ?_) fun id e=> ?_
  ·obtain ⟨i,hi,rfl⟩:=List.mem_iff_getElem.1 hx
   refine .qO fun y hy=> ?_
   obtain ⟨j,hj,rfl⟩:=List.mem_iff_getElem.1 hy
   grind
  ·subst e
   obtain ⟨m,h1,_⟩:=hp
   grind
 |pe x off b o val hb hf hr ho ih=>
  refine .pe x off (.qO fun y hy=> ?_)
  obtain ⟨j,hj,rfl⟩:=List.mem_iff_getElem.1 hy
  grind
 |ptr id off cs t h=>exact .ptr _ _ (nf h)
 |oa id off len cap o cs t h hc hm ho=>exact .oa _ _ _ (nf h)
 |ob id off len cap sz o cs t h hc hm ho=>exact .ob _ _ _ _ _ (nf h)
 |ifc t x u h ih=>exact .ifc t x ih
 |fn f xs vs hn hr ih=>exact .fn f xs fun x hx=>by obtain ⟨i,hi,rfl⟩:=List.mem_iff_getElem.1 hx; grind
 |mp id m h=>exact .mp _ (nf h)
noncomputable def Cx.back (c' :Cx) (g:Heap):Cx:= {c' with h:=fun id=>if g id=none then none else c'.h id}
theorem j3 {c' :Cx} {g:Heap} {id:Nat} {k:Blk} (h:(c'.back g).h id=some k):g id≠none∧c'.h id=some k:=by
 grind [Cx.back]
theorem dU {c' :Cx} {g:Heap} {id:Nat} (h:g id≠none):(c'.back g).h id=c'.h id:=by
 simp_all [Cx.back,if_false]
theorem mq {c'} {g} {b o} (h:owned (c'.back g) b o):owned c' b o:=by
 obtain ⟨id,k,h1,h2,h3⟩:=h;exact ⟨id,k,(j3 h1).2,h2,h3⟩
theorem mo {c'} {g} {b o} {u} (h:fix c' b o u):fix (c'.back g) b o u:=⟨h.1,fun ho=>h.2 (mq ho)⟩
theorem Rep.back {c' :Cx} {g:Heap} {x:AV} {u:Value} (h:Rep c' x u) (ha:Av (fun id=>g id=none) x):Rep (c'.back g) x u:=by
 induction h with
 |v x=>exact .v x
 |s l hl=>exact .s l hl
 |agg xs vs hn hr ho ih=>cases ha with|agg _ ha=>exact .agg xs vs hn (by grind) ho
 |tup xs vs hn hr ih=>cases ha with|tup _ ha=>exact .tup xs vs hn (by grind)
 |sl xs p a cap sz val hc hm h0 hs hz hf hr ho hp ih=>
  cases ha with
  |sl _ _ ha hq=>
   refine .sl xs p a cap sz val hc hm h0 hs hz (by grind [mo]) (fun i hi j hj=>ih i hi j hj ((ha _ (Gv hi)).cells _ (Gv hj))) ho ?_
   cases p with
   |no=>trivial
   |full=>exact hp
   |own id=>
    obtain ⟨m,h1,h2,h3⟩:=hp;exact ⟨m,by rw [dU (hq id rfl)]; omega,h2,h3⟩
 |pe x off b o val hb hf hr ho ih=>
  cases ha with
  |pe _ _ ha=>exact .pe x off b o val hb (by grind [mo]) (fun j hj=>ih j hj (ha.cells _ (Gv hj))) ho
 |ptr id off cs t h=>cases ha with|ptr _ _ ha=>exact .ptr id off cs t (by grind [dU])
 |oa id off len cap o cs t h hc hm ho=>cases ha with|oa _ _ _ ha=>exact .oa id off len cap o cs t (by grind [dU]) hc hm ho
 |ob id off len cap sz o cs t h hc hm ho=>cases ha with|ob _ _ _ _ _ ha=>exact .ob id off len cap sz o cs t (by grind [dU]) hc hm ho
 |ifc t x u h ih=>cases ha with|ifc _ _ ha=>exact .ifc t x u (ih ha)
 |fn f xs vs hn hr ih=>cases ha with|fn _ _ ha=>exact .fn f xs vs hn (by grind)
 |mp id m h=>cases ha with|mp _ ha=>exact .mp id m (by grind [dU])
inductive Frz (g h:Heap):AV→AV→Prop where
 |keep (x:AV) (ha:Av (fun id=>g id=none) x):Frz g h x x
 |agg (xs ys:List AV) (hn:xs.length=ys.length) (hr:∀i (h1:i<xs.length) (h2:i<ys.length),Frz g h xs[i] ys[i]):Frz g h (.agg xs) (.agg ys)
 |tup (xs ys:List AV) (hn:xs.length=ys.length) (hr:∀i (h1:i<xs.length) (h2:i<ys.length),Frz g h xs[i] ys[i]):Frz g h (.tup xs) (.tup ys)
 |sl (xs ys:List AV) (p:Perm) (hn:xs.length=ys.length) (hz:∀i (h1:i<xs.length) (h2:i<ys.length),xs[i].cells.length=ys[i].cells.length)
   (hr:∀i (h1:i<xs.length) (h2:i<ys.length) j (h3:j<xs[i].cells.length) (h4:j<ys[i].cells.length),Frz g h xs[i].cells[j] ys[i].cells[j]):Frz g h (.sl xs p) (.sl ys .no)
 |ob (id off len cap sz:Nat) (cs:List AV) (t:TypeId) (ys:List AV) (hg:g id=none) (hh:h id=some (.obj cs t)) (hl:off+len*sz≤cs.length) (hn:ys.length=len) (hz:∀i (h1:i<ys.length),ys[i].cells.length=sz)
   (hr:∀i (h1:i<ys.length) j (h3:j<ys[i].cells.length) (h4:off+(i*sz+j)<cs.length),Frz g h (cs[off+(i*sz+j)]) ys[i].cells[j]):Frz g h (.ob id off len cap sz) (.sl ys .no)
 |ptr (id off:Nat) (cs:List AV) (t:TypeId) (ys:List AV) (hg:g id=none) (hh:h id=some (.obj cs t)) (hn:cs.length=ys.length) (hr:∀i (h1:i<cs.length) (h2:i<ys.length),Frz g h cs[i] ys[i]):Frz g h (.ptr id off) (.pe (.agg ys) off)
 |ifc (t:TypeId) (x y:AV) (hr:Frz g h x y):Frz g h (.ifc t x) (.ifc t y)
theorem Frz.rep {c' :Cx} {g h:Heap} (gd:Good c') (hh:Sub h c'.h) {x y:AV} (hz:Frz g h x y):∀ {u:Value},Rep c' x u→Rep (c'.back g) y u:=by
 have nown:∀ {id:Nat} {k:Blk} {o:Nat},g id=none→h id=some k→¬owned (c'.back g) (c'.φ id).block o:=fun {id k o} h1 h2 ho=>by
  obtain ⟨j,l,h3,h4,h5⟩:=ho;obtain ⟨h6,h7⟩:=j3 h3;exact gd.inj j id l k h7 (hh _ _ h2) (fun e=>h6 (by grind)) h4
 induction hz with
 |keep x ha=>exact fun hr=>hr.back ha
 |agg xs ys hn hr ih=>
  intro u hu;obtain ⟨vs,rfl,h1,h2,h3⟩:=hu.gh;exact .agg ys vs (by omega) (fun i hi=>ih i (by omega) hi (h2 i (by omega))) fun i hi=>h3 i (by omega)
 |tup xs ys hn hr ih=>
  intro u hu;obtain ⟨vs,rfl,h1,h2⟩:=hu.pN;exact .tup ys vs (by omega) (fun i hi=>ih i (by omega) hi (h2 i (by omega)))
 |sl xs ys p hn hz hr ih=>
  intro u hu;obtain ⟨a,cap,sz,val,rfl,hs⟩:=hu.dc;rw [hn];have hcap:=hs.hc;refine .sl ys .no a cap sz val (by omega) hs.hm hs.h0 hs.hs (fun i hi=>by rw [←hz i (by omega) hi]; exact hs.hz i (by omega)) (fun q hq i j hi hj=>mo (hs.hf q hq i j (by omega) hj)) (fun i hi j hj=> ?_) (fun i j hi hj=>hs.ho i j (by omega) hj) trivial
  exact ih i (by omega) hi j (by grind) hj (hs.hr i (by omega) j (by grind))
 |ob id off len cap sz cs t ys hg hid hl hn hz hr ih=>
  intro u hu;obtain ⟨o,rfl,h1,h2,cs',t',h3,h4⟩:=hu.dF;have hcid:=hh _ _ hid;obtain ⟨vs,v1,v2,v3⟩:=gd.obj id cs t hcid;subst hn;have hbd:∀i j,i<ys.length→j<sz→i*sz+j<ys.length*sz:=fun i j hi hj=>by
   have:(i+1)*sz≤ys.length*sz:=Nat.mul_le_mul_right _ (by omega)
   rw [Nat.add_mul,Nat.one_mul] at this;omega
  refine .sl ys .no _ cap sz (fun i j=>vs.getD (off+(i*sz+j)) undef) h1 h2 (fun e=>by cases e) (fun q hq _=> ?_) hz (fun q hq i j hi hj=> ?_) (fun i hi j hj=> ?_) (fun i j hi hj=>(v3 _ (by grind)).2) trivial
  ·cases hq
   exact ⟨rfl,gd.lt hcid⟩
  ·cases hq
   obtain ⟨rfl,_⟩:=h4 (by omega)
   have hb:=hbd i j hi hj;refine ⟨?_,nown hg hid⟩;have:o+(i*sz+j)<vs.size:=by omega
   simp [World.cell?,Cx.back,v1,this]
  ·have hj' :j<sz:=by grind
   have hb:=hbd i j hi hj';exact ih i hi j hj (by omega) (v3 _ (by omega)).1
 |ptr id off cs t ys hg hid hn hr ih=>
  intro u hu;obtain ⟨rfl,_⟩:=hu.dX;have hcid:=hh _ _ hid;obtain ⟨vs,v1,v2,v3⟩:=gd.obj id cs t hcid;have:=Rep.pe (c:=c'.back g) (.agg ys) off (c'.φ id).block 0 (fun j=>vs.getD j undef) (gd.lt hcid) (fun j hj=>by
    have hj' :j<ys.length:=hj;refine ⟨?_,nown hg hid⟩
    simp_all [World.cell?,Cx.back]) (fun j hj=>by
    have hj' :j<ys.length:=hj;exact ih j (by omega) hj' (v3 j (by omega)).1) (fun j hj=>by
    have hj' :j<ys.length:=hj;exact (v3 j (by omega)).2)
  rw [Nat.zero_add] at this;exact this
 |ifc t x y hr ih=>
  intro u hu;cases hu with
  |ifc _ _ u' h=>exact .ifc t y _ (ih h)
theorem aj.freeze {P:Program} {f:FuncId} {args:List AV} {h:Heap} {Q:AV→Prop}
  (hf:∀g,Sub h g→(∀x∈args,Av (fun id=>g id=none) x)→aj P f args g fun r h' =>Sub g h'∧∃y,Frz g h' r y∧Q y):aj P f args h fun r h' =>Q r∧h' =h:=by
 intro c vs hs gd h1 h2;have hav:∀x∈args,Av (fun id=>c.h id=none) x:=fun x hx=>by
  obtain ⟨i,hi,rfl⟩:=List.mem_iff_getElem.1 hx;exact (h2 i hi).av fun _ e=>e
 refine (hf c.h hs hav c vs (.refl _) gd h1 h2).mono ?_
 rintro u w' ⟨c',x,h',rfl,gd',hE,hr,hsub,hgh,y,hz,hq⟩
 have hkeep:∀id k,c.h id=some k→c'.h id=some k:=fun id k hk=>hsub _ _ (hgh _ _ hk)
 have hE2:Ext c (c'.back c.h):= {
  os:=hE.os,tape:=hE.tape,output:=hE.output,size:=hE.size,block:=hE.block,cell:=hE.cell,shape:=hE.shape
  steal:=fun b o hb ho=>hE.steal b o hb (mq ho)
  obj:=fun id cs t hi=>by rw [dU (by grind)]; exact hE.obj id cs t hi
  spare:=fun id n sz hi=>by rw [dU (by grind)]; exact hE.spare id n sz hi
  mp:=fun id m hi=>by rw [dU (by grind)]; exact hE.mp id m hi
  ro:=fun id b vs hi=>by rw [dU (by grind)]; exact hE.ro id b vs hi}
 have hold:∀id k,(c'.back c.h).h id=some k→c.h id=some k∧c'.h id=some k:=fun id k hk=>by
  obtain ⟨a1,a2⟩:=j3 hk;cases hc:c.h id with
  |none=>grind
  |some k' =>grind
 refine ⟨c'.back c.h,y,h,rfl, ?_,hE2,hz.rep gd' hsub hr,fun id k hk=> ?_,hq,rfl⟩
 ·refine ⟨?_,fun i j k l hi hj hne=>gd'.inj i j k l (hold i k hi).2 (hold j l hj).2 hne,fun id cs t hi=> ?_,fun id n sz hi=>gd'.spare id n sz (hold id _ hi).2,fun id m hi=> ?_,fun id m hi=>gd'.keys id m (hold id _ hi).2,fun id b vs hi=>gd'.ro id b vs (hold id _ hi).2⟩
  ·obtain ⟨N,hN⟩:=gd'.fin
   exact ⟨N,fun id hid=>by grind [Cx.back]⟩
  ·obtain ⟨vs,v1,v2,v3⟩:=gd'.obj id cs t (hold id _ hi).2
   obtain ⟨vs0,w1,w2,w3⟩:=gd.obj id cs t (hold id _ hi).1;exact ⟨vs,v1,v2,fun j hj=>⟨(v3 j hj).1.back ((w3 j hj).1.av fun _ e=>e),(v3 j hj).2⟩⟩
  ·obtain ⟨es,cl,v1,v2,v3⟩:=gd'.mp id m (hold id _ hi).2
   obtain ⟨es0,cl0,w1,w2,w3⟩:=gd.mp id m (hold id _ hi).1;exact ⟨es,cl,v1,v2,fun i hi' hi2=>⟨(v3 i hi' hi2).1,(v3 i hi' hi2).2.back ((w3 i hi' (by omega)).2.av fun _ e=>e)⟩⟩
 ·rw [dU (by rw [hs _ _ hk]; simp)]
  exact hkeep id k (hs _ _ hk)
end Go.Ab
namespace Go.Bf
open Go Go.Ab
def cN:Nat→Nat
 |0=>0
 |n+1=>17+16*cN n
theorem qJ {m m' :cH} {s:Txt} (h:cX m s=some m'):m'.met.length=m.met.length+1:=by
 unfold cX at h;split at h
 ·cases h; simp
 ·cases h
theorem uD {m m' :cH} {r:cJ} (h:bG m r= .ok m'):m'.met.length=m.met.length+1:=by
 unfold bG at h;split at h
 ·cases h
 ·rename_i m1 hm
  split at h
  ·cases h
  ·obtain ⟨_,h⟩:=cF h
   obtain ⟨_,h⟩:=cF h;obtain ⟨_,h⟩:=cF h;cases h;have h9:=qJ hm;exact h9
theorem jk:∀(l:List cJ) (m m' :cH),bA m l= .ok m'→m'.met.length=m.met.length+l.length
 | [],m,m',h=>by cases h; rfl
 |r::l,m,m',h=>by
  simp only [bA] at h;cases hr:bG m r with
  |bad e=>rw [hr] at h; cases h
  |ok m1=>
   rw [hr] at h;rw [jk l m1 m' h,uD hr,List.length_cons];omega
theorem kz {d c:Nat} (hp:∀m p m',cI m d p= .ok m'→m'.met.length≤m.met.length+c):∀(l:List aR) (m m' :cH),cK m d l= .ok m'→m'.met.length≤m.met.length+l.length*c
 | [],m,m',h=>by cases h; simp
 |k::l,m,m',h=>by
  simp only [cK] at h;cases hk:cI m d k with
  |bad e=>rw [hk] at h; cases h
  |ok m1=>
   rw [hk] at h;have h1:=hp _ _ _ hk;have h2:=kz hp l m1 m' h;rw [List.length_cons,Nat.succ_mul];omega
theorem oB {m m1:cH} {id} {set} {alg:Int} {tgt} {nr nk:Nat} {obls} (h:bt m id set alg tgt nr nk obls= .ok m1):m1.met.length=m.met.length+1∧nr≤16∧nk≤16:=by
 unfold bt at h;split at h
 ·cases h
 rename_i m2 hm
 split at h
 ·cases h
 split at h
 ·cases h
 obtain ⟨_,h⟩:=cF h;obtain ⟨_,h⟩:=cF h;split at h
 ·cases h
 ·cases h
  exact ⟨qJ hm,by omega,by omega⟩
theorem qR:∀(n d:Nat) (m:cH) (p:aR) (m' :cH),d+n=5→cI m d p= .ok m'→m'.met.length≤m.met.length+cN n
 |n,d,m, .mk id set alg tgt rules kids obls,m',hd,h=>by
  unfold cI at h;split at h
  ·cases h
  rename_i h4
  obtain ⟨n,rfl⟩:∃k,n=k+1:=⟨n - 1,by omega⟩
  cases hh:bt m id set alg tgt rules.length kids.length obls with
  |bad e=>rw [hh] at h; cases h
  |ok m1=>
   rw [hh] at h;obtain ⟨a1,a2,a3⟩:=oB hh;cases hr:bA m1 rules with
   |bad e=>simp only [hr] at h; cases h
   |ok m2=>
    simp only [hr] at h;have a4:=jk _ _ _ hr;have a5:=kz (c:=cN n) (fun m p m' =>qR n (d+1) m p m' (by omega)) kids m2 m' h
    have a6:kids.length*cN n≤16*cN n:=Nat.mul_le_mul_right _ a3;unfold cN;omega
end Go.Bf
namespace Go.Proofs.YtfpckjaeeiiipaaDoor
open Go Go.Ab Go.Bf
def dB (id:Nat) (h h' :Heap):Prop:=∀j cs t,j≠id→h j=some (.obj cs t)→h' j=some (.obj cs t)
theorem dB.refl (id:Nat) (h:Heap):dB id h h:=fun _ _ _ _ e=>e
theorem dB.trans {id:Nat} {a b c:Heap} (x:dB id a b) (y:dB id b c):dB id a c:=fun j cs t n e=>y j cs t n (x j cs t n e)
theorem dB.of {id:Nat} {a b:Heap} (x:Ab.Sub a b):dB id a b:=fun _ _ _ _ e=>x _ _ e
theorem dB.upd {id:Nat} {a b:Heap} (x:dR a b) (k:Option Blk):dB id a (Ab.upd b id k):=fun j cs t n e=>by rw [af _ _ n]; exact x j cs t e
def dm (g h:Heap) (id:Nat) (m:cH):Prop:=g id=none∧m.rules≤64∧∃y,Acc U 9 g h y (m.met.map .s)∧h id=some (.obj [y, .v (.int .i64 m.rules)] 89)
theorem dm.fine {g h:Heap} {id:Nat} {m:cH} (hw:dm g h id m):Ab.Sub g h:=by
 obtain ⟨_,_,y,ha,_⟩:=hw;exact ha.1
theorem dm.keep {g h h' :Heap} {id:Nat} {m:cH} (hw:dm g h id m) (hs:Ab.Sub h h'):dm g h' id m:=by
 obtain ⟨h0,h1,y,ha,hb⟩:=hw;exact ⟨h0,h1,y,ha.sub hs,hs _ _ hb⟩
theorem ju {g h:Heap} {id:Nat} {y:AV} {xs:List AV} {e:TypeId} {cs t} (ha:Acc U e g h y xs) (hg:g id=none) (ho:h id=some (.obj cs t)) (b:Option Blk):Acc U e g (upd h id b) y xs:=by
 obtain ⟨h1,h2|⟨k,h3,h4,h5⟩⟩:=ha
 ·exact ⟨fun j b hj=>by rw [af _ _ fun e=>by rw [e,hg] at hj; cases hj]; exact h1 _ _ hj, .inl h2⟩
 ·exact ⟨fun j b hj=>by rw [af _ _ fun e=>by rw [e,hg] at hj; cases hj]; exact h1 _ _ hj, .inr ⟨k,h3,h4,by rw [af _ _ fun e=>by rw [e,ho] at h5; cases h5]; exact h5⟩⟩
theorem yI (l:List Txt):One (l.map AV.s):=One.map (fun _=>rfl) l
theorem ustr:(U 9).sz≠0∧(U 9).bytes≠0∧(U 9).bytes≤16:=by decide
theorem yJ (g:Heap) (id:Nat) (m:cH) (s:Txt) (h:Heap) (hw:dm g h id m) (hm0:m.met.length≤200000):aj Tryd.prog 64 [.ptr id 0, .s s] h fun r h' =>Ab.Sub g h'∧dB id h h'∧match cX m s with
  |none=>r= .v (.bool false)
  |some m' =>r= .v (.bool true)∧dm g h' id m' :=by
 have hfine:=hw.fine;obtain ⟨h0,h1,y,ha,hb⟩:=hw;obtain ⟨q,hy⟩:=Acc.row ha;refine aj.body hU hm Tryd.func64 rfl (by kernel_rfl) 33 rfl [.tmp 4] rfl (Gp rfl) (fun hwf=> ?_)
 simp -implicitDefEqProofs only [go_sem];refine (o9 s h).pthen ?_;cases d1:bu s
 ·simp -implicitDefEqProofs only [go_sem]
  rw [gu (.inr d1)];exact .same (.refl _) ⟨hfine, .refl _ _,rfl⟩
 subst hy;simp -implicitDefEqProofs only [go_sem,hb];refine .intro (fun k ρ h' =>h' =h∧∃i:Nat,i≤m.met.length∧k=m.met.length - i∧s∉m.met.take i∧lk ρ 0=some (.ptr id 0)∧lk ρ 1=some (.s s)∧lk ρ 13=some (.sl (m.met.map .s) q)∧lk ρ 14=some (.v (.int .i64 m.met.length))∧lk ρ 15=some (.v (.int .i64 i))) m.met.length ?_ ?_
 ·refine ⟨rfl,0,by omega,rfl,by simp, ?_, ?_, ?_, ?_, ?_⟩<;>simp -implicitDefEqProofs only [go_sem,Gq]
 rintro k ρ h' ⟨rfl,i,hi,rfl,hni,r0,r1,r13,r14,r15⟩
 simp -implicitDefEqProofs only [go_sem,r14,r15];refine .intro (fun e=> ?_) (fun e=> ?_)
 ·have hlt:i<m.met.length:=Gx e
  have w1:IntKind.i64.wrap ((i:Int)+1)=((i+1:Nat):Int):=by grind [aY]
  simp -implicitDefEqProofs only [go_sem,r13,r15];refine .at i (by simpa using hlt) (by rw [Gr]; rfl) ?_
  cases d2:(s==m.met[i])
  ·have hne:s≠m.met[i]:=by simpa using d2
   simp -implicitDefEqProofs only [go_sem,Gr,r1,d2,r15,w1];refine ⟨_, ?_,rfl,i+1,by omega,rfl, ?_, ?_, ?_, ?_, ?_, ?_⟩
   ·omega
   ·rw [List.take_succ_eq_append_getElem hlt]
    simp only [List.mem_append,List.mem_singleton,not_or];exact ⟨hni,hne⟩
   all_goals simp -implicitDefEqProofs only [go_sem,r0,r1,r13,r14]
  ·have he:s=m.met[i]:=by simpa using d2
   simp -implicitDefEqProofs only [go_sem,Gr,r1,d2];rw [gu (.inl (by rw [he]; exact Gv hlt))]
   exact .same (.refl _) ⟨hfine, .refl _ _,rfl⟩
 ·have hge:i=m.met.length:=by grind
  subst hge;rw [List.take_length] at hni;have hmm:cX m s=some ⟨m.met++ [s],m.rules⟩:=by grind [cX]
  rw [hmm];simp -implicitDefEqProofs only [go_sem,r0,r1,hb];refine Acc.app ha ustr.1 ustr.2.1 (v:= .sl [.s s] .full) (fun k hk=>hk) (by have h9:=(yI m.met).sized; exact h9) (by have h9:=(yI [s]).sized; exact h9) (by
   have h9:(m.met.map AV.s).length+ [AV.s s].length≤200001:=by simp; omega
   exact Nat.le_trans (Nat.mul_le_mul h9 ustr.2.2) (by decide)) fun y' h2 hy hK=> ?_
  have hb2:=hK _ _ _ hb;obtain ⟨q2,rfl⟩:=Acc.row hy;simp -implicitDefEqProofs only [go_sem,hb2];refine .same (.refl _) ?_;refine ⟨(ju hy h0 hb2 _).1, .upd hK _,rfl,h0,h1,_, ?_,ag ..⟩;have h9:=ju hy h0 hb2 (some (.obj [.sl (m.met.map .s++ [.s s]) q2, .v (.int .i64 m.rules)] 89));rw [List.map_append];exact h9
set_option maxHeartbeats 2000000 in
set_option maxRecDepth 100000 in
theorem wI (g:Heap):∀(n d:Nat),d+n=5→∀(id:Nat) (m:cH) (p:aR) (h:Heap),dm g h id m→m.met.length+cN n≤200000→
  aj Tryd.prog 46 [.ptr id 0,aE p, .v (.int .i64 d)] h fun x h' =>x= .v (.int .i64 (cI m d p).err)∧dB id h h'∧Ab.Sub g h'∧∀m',cI m d p= .ok m'→dm g h' id m'
 |n,d,hd,id,m, .mk pid set alg tgt rules kids obls,h,hw,hm0=>by
  refine aj.body hU hm Tryd.func46 rfl (by kernel_rfl) 141 rfl [.tmp 6] rfl (Gp rfl) (fun hwf=> ?_)
  simp -implicitDefEqProofs only [go_sem,aE,aC,ay];intro ip hip;have hwb:=hw.keep (Sub.ah (k:=some (.obj [.s pid, .v (.bool set), .v (.int .i64 alg), .sl (tgt.map aD) .no, .sl (rules.map aB) .no, .sl (aZ kids) .no, .sl (obls.map aN) .no] 28)) hip);have n1:ip≠id:=fun e=>by obtain ⟨_,_,y,_,hb⟩:=hw; rw [e,hb] at hip; cases hip
  have hk0:dB id h (upd h ip (some (.obj [.s pid, .v (.bool set), .v (.int .i64 alg), .sl (tgt.map aD) .no, .sl (rules.map aB) .no, .sl (aZ kids) .no, .sl (obls.map aN) .no] 28))):= .of (.ah hip);obtain ⟨hb,ehb⟩:∃hb,upd h ip (some (.obj [.s pid, .v (.bool set), .v (.int .i64 alg), .sl (tgt.map aD) .no, .sl (rules.map aB) .no, .sl (aZ kids) .no, .sl (obls.map aN) .no] 28))=hb:=⟨_,rfl⟩;have hbip:hb ip=some (.obj [.s pid, .v (.bool set), .v (.int .i64 alg), .sl (tgt.map aD) .no, .sl (rules.map aB) .no, .sl (aZ kids) .no, .sl (obls.map aN) .no] 28):=by rw [←ehb]; exact ag ..
  rw [ehb] at hwb hk0⊢;clear ehb hip;cases d0:decide (4<(d:Int))
  case true=>
   have e0:4<d:=by grind
   simp -implicitDefEqProofs only [go_sem,d0];exact .same (.refl _) ⟨by rw [fU e0]; rfl,hk0,hwb.fine,fun m' h' =>by grind [fU]⟩
  have e0:¬4<d:=by grind
  obtain ⟨n,rfl⟩:∃k,n=k+1:=⟨n - 1,by omega⟩
  have hcN:cN (n+1)=17+16*cN n:=rfl;simp -implicitDefEqProofs only [go_sem,d0,hbip];refine (yJ g id m pid hb hwb (by omega)).mono fun x h2 ⟨hs2,hk,hx⟩=> ?_
  have hip2:=hk _ _ _ n1 hbip;replace hk:=hk0.trans hk;clear hk0 hbip hwb;have bad:∀e,bt m pid set alg tgt rules.length kids.length obls= .bad e→gK [.v (.int .i64 e)] h2 fun x h' =>x= .v (.int .i64 (cI m d (.mk pid set alg tgt rules kids obls)).err)∧dB id h h'∧Ab.Sub g h'∧∀m',cI m d (.mk pid set alg tgt rules kids obls)= .ok m'→dm g h' id m' :=
   fun e he=> .same (.refl _) ⟨by rw [fV e0 he]; rfl,hk,hs2,fun m' h' =>by rw [fV e0 he] at h'; cases h'⟩
  cases hmm:cX m pid with
  |none=>
   rw [hmm] at hx;subst hx;simp -implicitDefEqProofs only [go_sem];exact bad 1 (jb hmm)
  |some m1=>
  rw [hmm] at hx;obtain ⟨rfl,hw2⟩:=hx;cases d1:decide (alg<1)
  case true=>
   have e1:=Gs d1;simp -implicitDefEqProofs only [go_sem,d1,hip2];exact bad 1 (by simp [bt,hmm,e1])
  cases d2:decide (6<alg)
  case true=>
   have e2:=Gs d2;simp -implicitDefEqProofs only [go_sem,d1,d2,hip2];exact bad 1 (by simp [bt,hmm,e2])
  have e1:¬(alg<1∨alg>6):=by have:=Gt d1; have:=Gt d2; omega
  have tail:¬(set=true∧rules.length>0∨set=false∧(kids.length>0∨alg=4))→bt m pid set alg tgt rules.length kids.length obls=need (cy tgt) (need (bp obls) (if rules.length>16∨kids.length>16 then .bad 6 else .ok m1)):=fun hh=>by
   simp only [bt,hmm];rw [if_neg e1,if_neg hh]
  by_cases hset:set=true∧rules.length>0∨set=false∧(kids.length>0∨alg=4)
  ·have hbd:bt m pid set alg tgt rules.length kids.length obls= .bad 1:=by
    simp only [bt,hmm];rw [if_neg e1,if_pos hset]
   rcases hset with ⟨rfl,h9⟩|⟨rfl,h9⟩
   ·simp -implicitDefEqProofs only [go_sem,d1,d2,hip2,Gq,decide_eq_true (show (0:Int)<(rules.length:Int) by omega)]
    exact bad 1 hbd
   ·cases d4:decide (0<(kids.length:Int))
    ·have f4:alg=4:=by have:=Gt d4; omega
     simp -implicitDefEqProofs only [go_sem,d1,d2,hip2,aG,Gq,d4,show (alg==4)=true from beq_iff_eq.2 f4]
     exact bad 1 hbd
    ·simp -implicitDefEqProofs only [go_sem,d1,d2,hip2,aG,Gq,d4]
     exact bad 1 hbd
  have e3:=tail hset;clear tail;have hfork:(set=true∧decide ((0:Int)<(rules.length:Int))=false)∨(set=false∧decide ((0:Int)<(kids.length:Int))=false∧(alg==4)=false):=by
   cases set
   ·refine .inr ⟨rfl,decide_eq_false fun e=>hset (.inr ⟨rfl, .inl (by omega)⟩),beq_eq_false_iff_ne.2 fun e=>hset (.inr ⟨rfl, .inr e⟩)⟩
   ·exact .inl ⟨rfl,decide_eq_false fun e=>hset (.inl ⟨rfl,by omega⟩)⟩
  have hx1:=fun hh=>oL tgt hh
  have hx2:=fun hh=>tM obls hh
  simp only [aC] at hx1;simp only [ay] at hx2;obtain ⟨sv,hsv⟩:∃b,set=b:=⟨_,rfl⟩;have hip2:h2 ip=some (.obj [.s pid, .v (.bool sv), .v (.int .i64 alg), .sl (tgt.map aD) .no, .sl (rules.map aB) .no, .sl (aZ kids) .no, .sl (obls.map aN) .no] 28):=by rw [←hsv]; exact hip2
  rcases hfork with ⟨hset',q1⟩|⟨hset',q1,q2⟩<;>rw [hsv] at hset'
  case' inl=>simp -implicitDefEqProofs only [go_sem,d1,d2,hip2,hset',Gq,q1]
  case' inr=>simp -implicitDefEqProofs only [go_sem,d1,d2,hip2,hset',Gq,aG,q1,q2]
  all_goals
   refine (hx1 h2).pthen ?_;cases t1:(cy tgt !=0)
   case true=>
    have f1:cy tgt≠0:=by simpa using t1
    simp -implicitDefEqProofs only [go_sem,t1];exact bad (cy tgt) (by rw [e3]; simp [need,f1])
   have f1:cy tgt=0:=by simpa using t1
   simp -implicitDefEqProofs only [go_sem,t1,hip2];refine (hx2 h2).pthen ?_;cases t2:(bp obls !=0)
   case true=>
    have f2:bp obls≠0:=by simpa using t2
    simp -implicitDefEqProofs only [go_sem,t2];exact bad (bp obls) (by rw [e3]; simp [need,f1,f2])
   have f2:bp obls=0:=by simpa using t2
   cases t3:decide (16<(rules.length:Int))
   case true=>
    have f3:16<rules.length:=by have:=Gs t3; omega
    simp -implicitDefEqProofs only [go_sem,t2,hip2,Gq,t3];exact bad 6 (by rw [e3]; simp [need,f1,f2,f3])
   have f3:¬16<rules.length:=by have:=Gt t3; omega
   cases t4:decide (16<(kids.length:Int))
   case true=>
    have f4:16<kids.length:=by have:=Gs t4; omega
    simp -implicitDefEqProofs only [go_sem,t2,hip2,Gq,t3,aG,t4];exact bad 6 (by rw [e3]; simp [need,f1,f2,f4])
   have f4:¬16<kids.length:=by have:=Gt t4; omega
   have hh:bt m pid set alg tgt rules.length kids.length obls= .ok m1:=by rw [e3]; simp [need,f1,f2,f3,f4]
   have hm1:=(oB hh).1;simp -implicitDefEqProofs only [go_sem,t2,hip2,Gq,t3,aG,t4];refine .intro (fun k ρ h' =>∃(i:Nat) (mi:cH),i≤rules.length∧k=rules.length - i∧bA m1 (rules.take i)= .ok mi∧dB id h h'∧dm g h' id mi∧
    h' ip=some (.obj [.s pid, .v (.bool sv), .v (.int .i64 alg), .sl (tgt.map aD) .no, .sl (rules.map aB) .no, .sl (aZ kids) .no, .sl (obls.map aN) .no] 28)∧
    lk ρ 0=some (.ptr id 0)∧lk ρ 2=some (.v (.int .i64 d))∧lk ρ 4=some (.ptr ip 0)∧lk ρ 83=some (.sl (rules.map aB) .no)∧lk ρ 84=some (.v (.int .i64 rules.length))∧lk ρ 85=some (.v (.int .i64 i))) rules.length ?_ ?_
   ·refine ⟨0,m1,by omega,rfl,rfl,hk,hw2,hip2, ?_, ?_, ?_, ?_, ?_, ?_⟩<;>simp -implicitDefEqProofs only [go_sem]
   clear hip2 hw2 hk bad hs2
   rintro k ρ h3 ⟨i,mi,hi,rfl,hri,hk,hw2,hip2,r0,r2,r4,r83,r84,r85⟩
   have hmi:=jk _ _ _ hri;rw [List.length_take,Nat.min_eq_left hi] at hmi;simp -implicitDefEqProofs only [go_sem,r84,r85];refine .intro (fun e=> ?_) (fun e=> ?_)
   ·have hlt:i<rules.length:=Gx e
    have w1:IntKind.i64.wrap ((i:Int)+1)=((i+1:Nat):Int):=by grind [aY]
    have next:=fun m2 (hx:bG mi rules[i]= .ok m2)=>(hD hlt hri).trans hx
    have stop:=fun (e:Int) (hx:bG mi rules[i]= .bad e)=>ji (d:=d) (kids:=kids) e0 hh (lE hlt hri hx)
    generalize hR:rules[i]=R at next stop;simp -implicitDefEqProofs only [go_sem,r83,r85];refine .at i (by grind) (by rw [Gr]; rfl) ?_
    simp -implicitDefEqProofs only [go_sem,Gr,hR,aB,aC,aH,ay];intro ir hir;have hwR:=hw2.keep (Sub.ah (k:=some (.obj [.s R.id, .v (.bool R.deny), .sl (R.tgt.map aD) .no, .sl (R.cond.map aW) .no, .sl (R.obls.map aN) .no] 54)) hir);have nr:ir≠id:=fun e=>by obtain ⟨_,_,y,_,hb⟩:=hw2; rw [e,hb] at hir; cases hir
    have nip:ip≠id:=n1;have hkR:dB id h (upd h3 ir (some (.obj [.s R.id, .v (.bool R.deny), .sl (R.tgt.map aD) .no, .sl (R.cond.map aW) .no, .sl (R.obls.map aN) .no] 54))):=hk.trans (.of (.ah hir));have hipR:=(Sub.ah (k:=some (.obj [.s R.id, .v (.bool R.deny), .sl (R.tgt.map aD) .no, .sl (R.cond.map aW) .no, .sl (R.obls.map aN) .no] 54)) hir) _ _ hip2;have hcR:upd h3 ir (some (.obj [.s R.id, .v (.bool R.deny), .sl (R.tgt.map aD) .no, .sl (R.cond.map aW) .no, .sl (R.obls.map aN) .no] 54)) ir=some (.obj [.s R.id, .v (.bool R.deny), .sl (R.tgt.map aD) .no, .sl (R.cond.map aW) .no, .sl (R.obls.map aN) .no] 54):=ag ..;simp -implicitDefEqProofs only [go_sem];generalize upd h3 ir _=h4 at hwR hkR hipR hcR⊢;clear hk hw2 hip2 hir;simp -implicitDefEqProofs only [go_sem,r0,hcR];refine (yJ g id mi R.id h4 hwR (by omega)).mono fun x h5 ⟨hs5,hk5,hx⟩=> ?_
    have hip5:=hk5 _ _ _ n1 hipR;have hc5:=hk5 _ _ _ nr hcR;replace hk5:=hkR.trans hk5;clear hkR hipR hcR hwR;cases hmR:cX mi R.id with
    |none=>
     rw [hmR] at hx;subst hx;simp -implicitDefEqProofs only [go_sem];exact .same (.refl _) ⟨by rw [stop 1 (by grind [bG])]; rfl,hk5,hs5,fun m' h' =>by rw [stop 1 (by grind [bG])] at h'; cases h'⟩
    |some m2=>
    rw [hmR] at hx;obtain ⟨rfl,hw5⟩:=hx;have hr:bG mi R=if m2.rules+1>64 then .bad 6 else need (cy R.tgt) (need (bF R.cond) (need (bp R.obls) (.ok ⟨m2.met,m2.rules+1⟩))):=by unfold bG; rw [hmR]
    obtain ⟨g0,hrl,y,hay,hby⟩:=hw5;have w2:IntKind.i64.wrap ((m2.rules:Int)+1)=((m2.rules+1:Nat):Int):=by grind [aY]
    have hS6:∀b,Ab.Sub g (upd h5 id b):=fun b=>(ju hay g0 hby b).1
    have hk6:∀b,dB id h (upd h5 id b):=fun b=>hk5.trans (.upd (fun _ _ _ e=>e) b)
    have hw6:m2.rules+1≤64→dm g (upd h5 id (some (.obj [y, .v (.int .i64 ((m2.rules+1:Nat):Int))] 89))) id ⟨m2.met,m2.rules+1⟩:=fun h9=>⟨g0,h9,y,ju hay g0 hby _,ag ..⟩
    have hip6:upd h5 id (some (.obj [y, .v (.int .i64 ((m2.rules+1:Nat):Int))] 89)) ip=_:=(af _ _ n1).trans hip5;have hc6:upd h5 id (some (.obj [y, .v (.int .i64 ((m2.rules+1:Nat):Int))] 89)) ir=_:=(af _ _ nr).trans hc5;have hb6:upd h5 id (some (.obj [y, .v (.int .i64 ((m2.rules+1:Nat):Int))] 89)) id=_:=ag ..;have hS6:=hS6 (some (.obj [y, .v (.int .i64 ((m2.rules+1:Nat):Int))] 89));have hk6:=hk6 (some (.obj [y, .v (.int .i64 ((m2.rules+1:Nat):Int))] 89));simp -implicitDefEqProofs only [go_sem,r0,hby,w2];generalize upd h5 id _=h6 at hS6 hk6 hw6 hip6 hc6 hb6⊢;clear hk5 hs5 hip5 hc5 hay hby;have badR:∀e,bG mi R= .bad e→gK [.v (.int .i64 e)] h6 fun x h' =>x= .v (.int .i64 (cI m d (.mk pid set alg tgt rules kids obls)).err)∧dB id h h'∧Ab.Sub g h'∧∀m',cI m d (.mk pid set alg tgt rules kids obls)= .ok m'→dm g h' id m' :=
     fun e he=> .same (.refl _) ⟨by rw [stop e he]; rfl,hk6,hS6,fun m' h' =>by rw [stop e he] at h'; cases h'⟩
    cases d9:decide (64<((m2.rules+1:Nat):Int))
    case true=>
     have e9:m2.rules+1>64:=by have:=Gs d9; omega
     simp -implicitDefEqProofs only [go_sem,r0,hb6,d9];exact badR 6 (by rw [hr,if_pos e9])
    have e9:¬m2.rules+1>64:=by have:=Gt d9; omega
    rw [if_neg e9] at hr;have hy1:=fun hh=>oL R.tgt hh
    have hy2:=fun hh=>tL R.cond hh
    have hy3:=fun hh=>tM R.obls hh
    simp only [aC] at hy1;simp only [aH] at hy2;simp only [ay] at hy3;simp -implicitDefEqProofs only [go_sem,r0,hb6,d9,hc6];refine (hy1 h6).pthen ?_;cases u1:(cy R.tgt !=0)
    case true=>
     have v1:cy R.tgt≠0:=by simpa using u1
     simp -implicitDefEqProofs only [go_sem,u1];exact badR (cy R.tgt) (by rw [hr]; simp [need,v1])
    have v1:cy R.tgt=0:=by simpa using u1
    simp -implicitDefEqProofs only [go_sem,u1,hc6];refine (hy2 h6).pthen ?_;cases u2:(bF R.cond !=0)
    case true=>
     have v2:bF R.cond≠0:=by simpa using u2
     simp -implicitDefEqProofs only [go_sem,u2];exact badR (bF R.cond) (by rw [hr]; simp [need,v1,v2])
    have v2:bF R.cond=0:=by simpa using u2
    simp -implicitDefEqProofs only [go_sem,u2,hc6];refine (hy3 h6).pthen ?_;cases u3:(bp R.obls !=0)
    case true=>
     have v3:bp R.obls≠0:=by simpa using u3
     simp -implicitDefEqProofs only [go_sem,u3];exact badR (bp R.obls) (by rw [hr]; simp [need,v1,v2,v3])
    have v3:bp R.obls=0:=by simpa using u3
    simp -implicitDefEqProofs only [go_sem,u3,r85,w1];refine ⟨rules.length - (i+1),by omega,i+1,⟨m2.met,m2.rules+1⟩,by omega,rfl,next _ (by rw [hr]; simp [need,v1,v2,v3]),hk6,hw6 (by omega),hip6, ?_, ?_, ?_, ?_, ?_, ?_⟩
    all_goals simp -implicitDefEqProofs only [go_sem,r0,r2,r4,r83,r84]
   ·have hge:i=rules.length:=by grind
    subst hge;rw [List.take_length] at hri;have hpk:=kJ (d:=d) (kids:=kids) e0 hh hri;simp -implicitDefEqProofs only [go_sem,r4,hip2,aG,Gq];refine .intro (fun k ρ h' =>∃(i:Nat) (mj:cH),i≤kids.length∧k=kids.length - i∧cK mi (d+1) (kids.take i)= .ok mj∧dB id h h'∧dm g h' id mj∧
     lk ρ 0=some (.ptr id 0)∧lk ρ 2=some (.v (.int .i64 d))∧lk ρ 126=some (.sl (kids.map aE) .no)∧lk ρ 127=some (.v (.int .i64 kids.length))∧lk ρ 128=some (.v (.int .i64 i))) kids.length ?_ ?_
    ·refine ⟨0,mi,by omega,rfl,rfl,hk,hw2, ?_, ?_, ?_, ?_, ?_⟩<;>simp -implicitDefEqProofs only [go_sem,r0,r2]
    clear r0 r2 r4 r83 r84 r85 hk hw2 hip2
    rintro k ρ h3 ⟨i,mj,hi,rfl,hkj,hk,hw2,r0,r2,r126,r127,r128⟩
    have hmj:=kz (c:=cN n) (fun m p m' =>qR n (d+1) m p m' (by omega)) _ _ _ hkj
    rw [List.length_take,Nat.min_eq_left hi] at hmj;simp -implicitDefEqProofs only [go_sem,r127,r128];refine .intro (fun e=> ?_) (fun e=> ?_)
    ·have hlt:i<kids.length:=Gx e
     have w1:IntKind.i64.wrap ((i:Int)+1)=((i+1:Nat):Int):=by grind [aY]
     have w2:IntKind.i64.wrap ((d:Int)+1)=((d+1:Nat):Int):=by grind [aY]
     have hrec:=wI g n (d+1) (by omega) id mj kids[i]
     have next:=fun m3 (hx:cI mj (d+1) kids[i]= .ok m3)=>(jd hlt hkj).trans hx
     have stop:=fun (e:Int) (hx:cI mj (d+1) kids[i]= .bad e)=>mQ hlt hkj hx
     cases hki' :kids[i] with
     |mk kid kset kalg ktgt krules kkids kobls=>
     rw [hki'] at hrec next stop;simp only [aE,aC,ay] at hrec;simp -implicitDefEqProofs only [go_sem,r126,r128];refine .at i (by grind) (by grind [er]) ?_
     simp -implicitDefEqProofs only [go_sem,Gr,hki',aE,aC,ay];intro ir hir;simp -implicitDefEqProofs only [go_sem,r0,r2,w2];have hmul:i*cN n+cN n≤16*cN n:=by
      have h9:(i+1)*cN n≤16*cN n:=Nat.mul_le_mul_right _ (by omega)
      rw [Nat.succ_mul] at h9;exact h9
     refine (hrec _ (hw2.keep (Sub.ah hir)) (by omega)).mono fun x h4 ⟨ex,hk3,hs3,hw3⟩=> ?_
     subst ex;have hk4:=(hk.trans (.of (Sub.ah hir))).trans hk3;cases hx:cI mj (d+1) (.mk kid kset kalg ktgt krules kkids kobls) with
     |bad x=>
      have t1:(x !=0)=true:=by simpa using jL n (d+1) _ _ _ (by omega) hx
      simp -implicitDefEqProofs only [go_sem,Went.err,t1];exact .same (.refl _) ⟨by rw [hpk,stop x hx]; rfl,hk4,hs3,fun m' h' =>by rw [hpk,stop x hx] at h'; cases h'⟩
     |ok m3=>
      simp -implicitDefEqProofs only [go_sem,r128,Went.err,w1];refine ⟨kids.length - (i+1),by omega,i+1,m3,by omega,rfl,next m3 hx,hk4,hw3 _ hx, ?_, ?_, ?_, ?_, ?_⟩
      all_goals simp -implicitDefEqProofs only [go_sem,r0,r2,r126,r127]
    ·have hge:i=kids.length:=by grind
     subst hge;rw [List.take_length] at hkj;simp -implicitDefEqProofs only [go_sem];exact .same (.refl _) ⟨by rw [hpk,hkj]; rfl,hk,hw2.fine,fun m' h' =>by rw [hpk,hkj] at h'; cases h'; exact hw2⟩
theorem Af (p:aR) (h:Heap):aj Tryd.prog 25 [aE p] h fun r h' =>r= .v (.int .i64 (eC p))∧h' =h:=
 aj.freeze fun g hg _=>by
 cases p with
 |mk pid set alg tgt rules kids obls=>
 refine aj.body hU hm Tryd.func25 rfl (by kernel_rfl) 9 rfl [.tmp 2] rfl (Gp rfl) (fun hwf=> ?_)
 simp -implicitDefEqProofs only [go_sem,aE,aC,ay];intro ip hip;simp -implicitDefEqProofs only [go_sem];intro is his;have n1:=kE his;have his0:g is=none:=by rw [af _ _ n1] at his; exact his
 simp -implicitDefEqProofs only [go_sem,pO,n1.symm];generalize hH:upd (upd g ip _) is _=H;have hs1:Ab.Sub g H:=by rw [←hH]; exact ((Sub.refl g).put hip _).put his0 _
 have hw:dm g H is ⟨[],0⟩:=⟨his0,by decide, .sl [] .full,Acc.full hs1,by rw [←hH,ag]; rfl⟩
 have hp:=wI g 4 1 rfl is ⟨[],0⟩ (.mk pid set alg tgt rules kids obls) H hw (by decide)
 simp only [aE,aC,ay] at hp;refine hp.mono fun x h4 ⟨ex,_,hs,_⟩=> ?_
 subst ex;simp -implicitDefEqProofs only [go_sem];exact .same (.refl _) ⟨hs,_, .keep _ (.v _),rfl⟩
end Go.Proofs.YtfpckjaeeiiipaaDoor
namespace Go.Proofs
open Go.Shelf
def Tryd.lu:Go.Shelf.Ren:=⟨fun|156=>30|165=>55|166=>56|169=>57|240=>73|241=>74|276=>79|277=>80|n=>n,fun|31=>59|9=>9|3=>3|4=>4|0=>0|20=>20|72=>97|76=>101|70=>94|37=>95|75=>100|127=>115|164=>119|5=>5|80=>103|n=>n,fun|n=>n⟩
theorem Tryd.tC:Go.Proofs.Lays.n156 Tryd.prog Tryd.lu:= {
 mixed:=by kernel_rfl
 f156:=Tryd.func30.trans (congrArg some (by kernel_rfl))
 f165:=Tryd.func55.trans (congrArg some (by kernel_rfl))
 f166:=Tryd.func56.trans (congrArg some (by kernel_rfl))
 f169:=Tryd.func57.trans (congrArg some (by kernel_rfl))
 f240:=Tryd.func73.trans (congrArg some (by kernel_rfl))
 f241:=Tryd.func74.trans (congrArg some (by kernel_rfl))
 f276:=Tryd.func79.trans (congrArg some (by kernel_rfl))
 f277:=Tryd.func80.trans (congrArg some (by kernel_rfl))
 t0:=Tryd.underlying0
 a0:=Tryd.isAgg0
 z0:=Tryd.sizeOf0
 v0:=Tryd.zeroValue0
 t3:=Tryd.underlying3
 a3:=Tryd.isAgg3
 z3:=Tryd.sizeOf3
 v3:=Tryd.zeroValue3
 t4:=Tryd.underlying4
 a4:=Tryd.isAgg4
 z4:=Tryd.sizeOf4
 v4:=Tryd.zeroValue4
 t9:=Tryd.underlying9
 a9:=Tryd.isAgg9
 z9:=Tryd.sizeOf9
 v9:=Tryd.zeroValue9
 t20:=Tryd.underlying20
 a20:=Tryd.isAgg20
 z20:=Tryd.sizeOf20
 v20:=Tryd.zeroValue20
 t31:=Tryd.underlying59
 a31:=Tryd.isAgg59
 z31:=Tryd.sizeOf59
 v31:=Tryd.zeroValue59
 t37:=Tryd.underlying95
 a37:=Tryd.isAgg95
 z37:=Tryd.sizeOf95
 v37:=Tryd.zeroValue95
 t70:=Tryd.underlying94
 a70:=Tryd.isAgg94
 z70:=Tryd.sizeOf94
 v70:=Tryd.zeroValue94
 t72:=Tryd.underlying97
 a72:=Tryd.isAgg97
 z72:=Tryd.sizeOf97
 v72:=Tryd.zeroValue97
 t75:=Tryd.underlying100
 a75:=Tryd.isAgg100
 z75:=Tryd.sizeOf100
 v75:=Tryd.zeroValue100
 t76:=Tryd.underlying101
 a76:=Tryd.isAgg101
 z76:=Tryd.sizeOf101
 v76:=Tryd.zeroValue101
 t127:=Tryd.underlying115
 a127:=Tryd.isAgg115
 z127:=Tryd.sizeOf115
 v127:=Tryd.zeroValue115
 t164:=Tryd.underlying119
 a164:=Tryd.isAgg119
 z164:=Tryd.sizeOf119
 v164:=Tryd.zeroValue119}
theorem Tryd.fy:Builder.Extra Tryd.prog Tryd.lu:= {
 sizeBuilder:=by kernel_rfl
 liesBuilder:=by kernel_rfl
 t5:=Tryd.underlying5
 a5:=Tryd.isAgg5
 z5:=Tryd.sizeOf5
 v5:=Tryd.zeroValue5
 infoByte:=by kernel_rfl
 cellsByte:=by kernel_rfl
 sizeByte:=by kernel_rfl
 neB5:=by decide}
open Go.RowKit in
theorem Tryd.strings_Join_none (a:Option Addr) (c:Nat) (sep:ByteArray) (w:World):
  Calls Tryd.prog 30 #[.slice a 0 c, .string sep] w fun e w' =>e= .returned (.string ⟨#[]⟩)∧w' =w:=Any.strings_Join_none Tryd.tC Tryd.fy a c sep w
open Go.RowKit in
theorem Tryd.strings_Join (bk o c:Nat) (xs:List ByteArray) (sep:ByteArray) (w:World) (hcells:∀(j:Nat) x,xs[j]? =some x→w.cell? ⟨bk,o+j,none⟩=some (.string x)) (hbk:bk<w.heap.size) (hN:xs.length≤140737488355328) (hcap:xs.length≤c) (hlen:(Lib.join (xs.map (·.data.toList)) sep.data.toList).length≤140737488355328):
  Calls Tryd.prog 30 #[.slice (some ⟨bk,o,none⟩) xs.length c, .string sep] w fun e w' =>e= .returned (.string ⟨(Lib.join (xs.map (·.data.toList)) sep.data.toList).toArray⟩)∧Below w.heap.size w w' :=Any.strings_Join Tryd.tC Tryd.fy bk o c xs sep w hcells hbk hN hcap hlen
def Tryd.qF:Go.Shelf.Ren:=⟨fun|121=>52|214=>70|n=>n,fun|4=>4|9=>9|n=>n,fun|n=>n⟩
theorem Tryd.xG:Go.Proofs.Lays.n121 Tryd.prog Tryd.qF:= {
 mixed:=by kernel_rfl
 f121:=Tryd.func52.trans (congrArg some (by kernel_rfl))
 f214:=Tryd.func70.trans (congrArg some (by kernel_rfl))
 t4:=Tryd.underlying4
 a4:=Tryd.isAgg4
 z4:=Tryd.sizeOf4
 v4:=Tryd.zeroValue4
 t9:=Tryd.underlying9
 a9:=Tryd.isAgg9
 z9:=Tryd.sizeOf9
 v9:=Tryd.zeroValue9}
open Go.RowKit in
theorem Tryd.strconv_FormatBool (b:Bool) (w:World):
  Calls Tryd.prog 52 #[.bool b] w fun e w' =>e= .returned (.string ⟨(Lib.formatBool b).toArray⟩)∧w' =w:=Any.strconv_FormatBool Tryd.xG b w
def Tryd.o8:Go.Shelf.Ren:=⟨fun|171=>53|243=>71|246=>78|283=>82|284=>83|285=>84|286=>85|129=>89|317=>88|318=>90|319=>91|320=>92|337=>94|338=>95|n=>n,fun|3=>3|9=>9|2=>2|4=>4|171=>125|0=>0|53=>105|37=>95|5=>5|173=>128|212=>134|51=>135|20=>20|213=>136|46=>107|232=>140|233=>141|n=>n,fun|17=>1|18=>2|19=>3|n=>n⟩
theorem Tryd.vP:Go.Proofs.LaysM.n171 Tryd.prog Tryd.o8:= {
 mixed:=by kernel_rfl
 f129:=Tryd.func89.trans (congrArg some (by kernel_rfl))
 f171:=Tryd.func53.trans (congrArg some (by kernel_rfl))
 f243:=Tryd.func71.trans (congrArg some (by kernel_rfl))
 f246:=Tryd.func78.trans (congrArg some (by kernel_rfl))
 f283:=Tryd.func82.trans (congrArg some (by kernel_rfl))
 f284:=Tryd.func83.trans (congrArg some (by kernel_rfl))
 f285:=Tryd.func84.trans (congrArg some (by kernel_rfl))
 f286:=Tryd.func85.trans (congrArg some (by kernel_rfl))
 f317:=Tryd.func88.trans (congrArg some (by kernel_rfl))
 f318:=Tryd.func90.trans (congrArg some (by kernel_rfl))
 f319:=Tryd.func91.trans (congrArg some (by kernel_rfl))
 f320:=Tryd.func92.trans (congrArg some (by kernel_rfl))
 f337:=Tryd.func94.trans (congrArg some (by kernel_rfl))
 f338:=Tryd.func95.trans (congrArg some (by kernel_rfl))
 t0:=Tryd.underlying0
 a0:=Tryd.isAgg0
 z0:=Tryd.sizeOf0
 v0:=Tryd.zeroValue0
 t2:=Tryd.underlying2
 a2:=Tryd.isAgg2
 z2:=Tryd.sizeOf2
 v2:=Tryd.zeroValue2
 t3:=Tryd.underlying3
 a3:=Tryd.isAgg3
 z3:=Tryd.sizeOf3
 v3:=Tryd.zeroValue3
 t4:=Tryd.underlying4
 a4:=Tryd.isAgg4
 z4:=Tryd.sizeOf4
 v4:=Tryd.zeroValue4
 t5:=Tryd.underlying5
 a5:=Tryd.isAgg5
 z5:=Tryd.sizeOf5
 v5:=Tryd.zeroValue5
 t9:=Tryd.underlying9
 a9:=Tryd.isAgg9
 z9:=Tryd.sizeOf9
 v9:=Tryd.zeroValue9
 t20:=Tryd.underlying20
 a20:=Tryd.isAgg20
 z20:=Tryd.sizeOf20
 v20:=Tryd.zeroValue20
 t37:=Tryd.underlying95
 a37:=Tryd.isAgg95
 z37:=Tryd.sizeOf95
 v37:=Tryd.zeroValue95
 t46:=Tryd.underlying107
 a46:=Tryd.isAgg107
 z46:=Tryd.sizeOf107
 v46:=Tryd.zeroValue107
 t51:=Tryd.underlying135
 a51:=Tryd.isAgg135
 z51:=Tryd.sizeOf135
 v51:=Tryd.zeroValue135
 t53:=Tryd.underlying105
 a53:=Tryd.isAgg105
 z53:=Tryd.sizeOf105
 v53:=Tryd.zeroValue105
 t171:=Tryd.underlying125
 a171:=Tryd.isAgg125
 z171:=Tryd.sizeOf125
 v171:=Tryd.zeroValue125
 t173:=Tryd.underlying128
 a173:=Tryd.isAgg128
 z173:=Tryd.sizeOf128
 v173:=Tryd.zeroValue128
 t212:=Tryd.underlying134
 a212:=Tryd.isAgg134
 z212:=Tryd.sizeOf134
 v212:=Tryd.zeroValue134
 t213:=Tryd.underlying136
 a213:=Tryd.isAgg136
 z213:=Tryd.sizeOf136
 t232:=Tryd.underlying140
 a232:=Tryd.isAgg140
 z232:=Tryd.sizeOf140
 v232:=Tryd.zeroValue140
 t233:=Tryd.underlying141
 a233:=Tryd.isAgg141
 z233:=Tryd.sizeOf141
 v233:=Tryd.zeroValue141
 g17:=by kernel_rfl
 g18:=by kernel_rfl
 g19:=by kernel_rfl
 i0:=by kernel_rfl
 i2:=by kernel_rfl
 i3:=by kernel_rfl
 i4:=by kernel_rfl
 i5:=by kernel_rfl
 i9:=by kernel_rfl
 i20:=by kernel_rfl
 i37:=by kernel_rfl
 i46:=by kernel_rfl
 i51:=by kernel_rfl
 i53:=by kernel_rfl
 i171:=by kernel_rfl
 i173:=by kernel_rfl
 i212:=by kernel_rfl
 i232:=by kernel_rfl
 i233:=by kernel_rfl
 m17:=by kernel_rfl
 m18:=by kernel_rfl
 m19:=by kernel_rfl}
open Go.RowKit Go.Sort Go.Lib in
theorem Tryd.strconv_Itoa (n : Int) (h0 : -9223372036854775808 ≤ n) (h1 : n ≤ 9223372036854775807) (w : World) (htab : Lib.TabIs Tryd.prog w "internal/strconv.uint64pow10" .u64 Lib.pow10Tab) :
  Calls Tryd.prog 53 #[.int .i64 n] w fun e w' =>e= .returned (.string ⟨(Lib.itoa n).toArray⟩)∧∃k os,w' =grow (w.drewN k) os:=Any.strconv_Itoa Tryd.vP n h0 h1 w htab
end Go.Proofs
namespace Go.Proofs.YtfpckjaeeiiipaaDoor
open Go
def nh:List Value:=Lib.pow10Tab.map fun z=>Value.int .u64 z
end Go.Proofs.YtfpckjaeeiiipaaDoor
namespace Go.Proofs.YtfpckjaeeiiipaaDoor
open Go Go.Ab Go.Bf
theorem u9:(U 9).sz=1:=by rfl
theorem u9a:(U 9).k.agg=false:=by rfl
theorem u9b:(U 9).bytes=16:=by rfl
theorem u9f:fit (U 9).zero 1:=by rfl
theorem u9n:aU (U 9).zero=false:=by rfl
abbrev iR (h:Heap):Prop:=Tab h 1 nh
theorem tw (n:Int) (h) (hn: -9223372036854775808≤n∧n≤9223372036854775807) (ht:iR h):aj Tryd.prog 53 [.v (.int .i64 n)] h fun r h' =>r= .s (Lib.itoa n)∧h' =h:=by
 refine .lib ⟨_,Tryd.func53,by rfl,rfl⟩ fun c vs hs g h1 h2=> ?_
 obtain ⟨v,rfl⟩:∃v,vs= #[v]:=Array.size_eq_one_iff.1 h1;have e:v= .int .i64 n:=(h2 0 (by simp)).aK
 subst e;have hv := ht.var (P := Tryd.prog) (name := "internal/strconv.uint64pow10") (by rfl) hs g
 refine (Tryd.strconv_Itoa n hn.1 hn.2 c.w (by unfold Lib.TabIs; rw [hv]; rfl)).mono ?_
 rintro e w' ⟨rfl,k,os,rfl⟩
 refine ⟨⟨_,rfl,fun c' _=> .s _ ?_⟩,rfl,rfl,rfl, ?_,fun k hk=> ?_⟩
 ·grind [Lib.itoa_length_le,Nat,lim]
 ·simp
 ·show (_++os)[k]? =_
  simp_all [Array.getElem?_append,if_pos]
theorem vH (b) (h):aj Tryd.prog 52 [.v (.bool b)] h fun r h' =>r= .s (Lib.formatBool b)∧h' =h:=by
 refine .lib ⟨_,Tryd.func52,by rfl,rfl⟩ fun c vs hs g h1 h2=> ?_
 obtain ⟨v,rfl⟩:∃v,vs= #[v]:=Array.size_eq_one_iff.1 h1;have e:v= .bool b:=(h2 0 (by simp)).aK
 subst e;refine (Tryd.strconv_FormatBool b c.w).mono ?_
 rintro e w' ⟨rfl,rfl⟩
 exact ⟨⟨_,rfl,fun c' _=> .s _ (by cases b<;>decide)⟩, .refl _ _⟩
theorem bB (l:List Txt):One (l.map AV.s):=One.map (fun _=>rfl) l
theorem l6 (y:AV) (xs:List Txt) (sep:Txt) (h:Heap) (hy:nH 9 h y (xs.map AV.s)) (hlen:(Lib.join xs sep).length≤140737488355328) (hn:xs.length≤140737488355328):
  aj Tryd.prog 30 [y, .s sep] h fun r h' =>r= .s (Lib.join xs sep)∧h' =h:=by
 refine .lib ⟨_,Tryd.func30,by kernel_rfl,rfl⟩ fun c vs hs g h1 h2=> ?_
 obtain ⟨u,v,rfl⟩:∃u v,vs= #[u,v]:=by
  match vs,h1 with
  |⟨[u,v]⟩,_=>exact ⟨u,v,rfl⟩
 obtain ⟨e1,e2⟩:=(h2 1 (by simp)).fl
 have e1:v= .string ⟨sep.toArray⟩:=e1;subst e1;have hu:Rep c y u:=h2 0 (by simp)
 have fin:(Lib.join xs sep).length<lim:=by
  have:(140737488355328:Nat)<lim:=by decide
  omega
 by_cases hx:xs= []
 ·subst hx
  obtain ⟨a,k,rfl⟩:∃a k,u= .slice a 0 k:=by
   rcases hy with ⟨q,rfl⟩|⟨id,off,cs,rfl,_⟩
   ·obtain ⟨a,cap,sz,val,e,_⟩:=hu.dc; exact ⟨a,cap,e⟩
   ·obtain ⟨cap,o,e,_⟩:=hu.fh; exact ⟨_,cap,e⟩
  refine (Tryd.strings_Join_none a k ⟨sep.toArray⟩ c.w).mono ?_
  rintro e w' ⟨rfl,rfl⟩
  exact ⟨⟨_,rfl,fun c' _=> .s [] (by decide)⟩, .refl _ _⟩
 ·have hpos:0<xs.length:=List.length_pos_iff.2 hx
  obtain ⟨bk,o,cap,rfl,hcap,hbk,hcell⟩:∃bk o cap,u= .slice (some ⟨bk,o,none⟩) xs.length cap∧xs.length≤cap∧bk<c.w.heap.size∧∀j (hj:j<xs.length),c.w.cell? ⟨bk,o+j,none⟩=some (.string ⟨xs[j].toArray⟩):=by
   rcases hy with ⟨q,rfl⟩|⟨id,off,cs,rfl,g1,g2,g3⟩
   ·obtain ⟨a,cap,sz,val,e,hsl⟩:=hu.dc
    have hc:=hsl.hc;simp only [Gq] at e hc;have hz1:sz=1:=by
     have:=hsl.hz 0 (by simpa using hpos)
     simpa [AV.cells] using this.symm
    subst hz1;cases a with
    |none=>have:=hsl.h0 rfl; omega
    |some p=>
     obtain ⟨pb,po,ps⟩:=p;obtain ⟨k1,k2⟩:=hsl.hs _ rfl (by omega)
     simp only at k1 k2;subst k1;refine ⟨pb,po,cap,e,hc,k2,fun j hj=> ?_⟩
     have f1:=(hsl.hf _ rfl j 0 (by simpa using hj) (by omega)).1
     have f2:=hsl.hr j (by simpa using hj) 0 (by simp [AV.cells])
     have f3:Rep c (.s xs[j]) (val j 0):=by simpa [AV.cells] using f2
     rw [f3.fl.1] at f1;simpa using f1
   ·obtain ⟨cap,o,e,k1,k2,k3,cs',t',k4,k5⟩:=hu.fh
    simp only [Gq] at e k1 k3;rw [hs _ _ g1] at k4;cases k4;obtain ⟨vs',m1,m2,m3⟩:=g.obj id _ _ (hs _ _ g1);have ho:o=off:=k3 (by omega)
    subst ho;refine ⟨_,o,cap,e,k1, ?_,fun j hj=> ?_⟩
    ·exact bg m1
    ·simp only [Gq] at g2 g3
     have hlt:o+j<cs.length:=by omega
     have e5:cs[o+j]'hlt= .s xs[j]:=by
      have:=congrArg (fun q=>q[j]?) g3
      simp only [List.getElem?_take,hj,if_true,List.getElem?_drop,List.getElem?_map,List.getElem?_eq_getElem hj,Option.map_some] at this;rw [List.getElem?_eq_getElem hlt] at this;simpa using this
     have m4:=(m3 (o+j) hlt).1;rw [e5] at m4;have m5:=m4.fl.1;have hlv:o+j<vs'.size:=by omega
     simp only [World.cell?,m1];simp only [Array.getD,hlv,dite_true] at m5;rw [Array.getElem?_eq_getElem hlv];exact congrArg some m5
  have hl:xs.length=(xs.map fun l=>(⟨l.toArray⟩:ByteArray)).length:=by simp
  have hmap:(xs.map fun l=>(⟨l.toArray⟩:ByteArray)).map (·.data.toList)=xs:=by
   rw [List.map_map];exact (List.map_congr_left (g:=id) fun _ _=>rfl).trans (List.map_id xs)
  have hsep:(⟨sep.toArray⟩:ByteArray).data.toList=sep:=rfl;have key:=Tryd.strings_Join bk o cap (xs.map fun l=>(⟨l.toArray⟩:ByteArray)) ⟨sep.toArray⟩ c.w (fun j x hjx=>by
   rw [List.getElem?_map,Option.map_eq_some_iff] at hjx;obtain ⟨l,hl,rfl⟩:=hjx;obtain ⟨hlt,rfl⟩:=List.getElem?_eq_some_iff.1 hl;exact hcell j hlt) hbk (by simpa using hn) (by simpa using hcap) (by rw [hmap,hsep]; exact hlen)
  rw [hmap,hsep] at key;simp only [Gq] at key;refine key.mono ?_
  rintro e w' ⟨rfl,hb⟩
  exact ⟨⟨_,rfl,fun c' _=> .s _ fin⟩,hb⟩
theorem iE (n:Int) (i:Nat) (y:AV) (ws:List Txt) (h:Heap) (hy:nH 9 h y (ws.map AV.s)) (hn:n=i+1) (hi:i<ws.length) (hl:i<1000):
  aj Tryd.prog 32 [.v (.int .i64 n),y] h fun r h' =>r= .s ws[i]∧h' =h:=by
 refine aj.body hU hm Tryd.func32 rfl (by kernel_rfl) 10 rfl [.tmp 4] rfl (Gp rfl) (fun hwf=> ?_)
 have w1:IntKind.i64.wrap (n - 1)=((i:Nat):Int):=by rw [aY _ (by omega)]; omega
 simp -implicitDefEqProofs only [go_sem,w1];refine hy.idx (bB ws) i rfl (by simpa using hi) u9 u9a fun p hp=> ?_
 simp -implicitDefEqProofs only [go_sem,hp _,Gr];exact .same (.refl _) ⟨rfl,rfl⟩
theorem uR (n:Int) (h1:1≤n) (h4:n≤4):∃i:Nat,n=i+1∧∃hi:i< [[115,117,98,106,101,99,116],[97,99,116,105,111,110],[99,97,115,101],[101,110,118]].length,([[115,117,98,106,101,99,116],[97,99,116,105,111,110],[99,97,115,101],[101,110,118]]:List Txt)[i]'hi=j4 n:=by
 rcases (by omega:n=1∨n=2∨n=3∨n=4) with rfl|rfl|rfl|rfl
 ·exact ⟨0,rfl,by decide,rfl⟩
 ·exact ⟨1,rfl,by decide,rfl⟩
 ·exact ⟨2,rfl,by decide,rfl⟩
 ·exact ⟨3,rfl,by decide,rfl⟩
def gM (a:eU):Txt:=if bM a then cn a else []
theorem nt (a:eU) (h:Heap):aj Tryd.prog 14 [dZ a] h fun r h' =>r= .s (gM a)∧h' =h:=by
 refine aj.body hU hm Tryd.func14 rfl (by kernel_rfl) 20 rfl [.tmp 2] rfl (Gp rfl) (fun hwf=> ?_)
 simp -implicitDefEqProofs only [go_sem,dZ];intro id hid;simp -implicitDefEqProofs only [go_sem];refine (oX a _).pthen ?_;cases d1:bM a
 ·simp -implicitDefEqProofs only [go_sem,d1]
  exact .mk _ (.refl _) (.ah hid) ⟨by simp [gM,d1,au],rfl⟩
 have hle:=fR d1;have hc:1≤a.cat∧a.cat≤4:=by simp [bM] at d1; exact d1.1
 obtain ⟨i,hn,hi,hw⟩:=uR a.cat hc.1 hc.2;simp -implicitDefEqProofs only [go_sem,d1];refine .quiet (by kernel_rfl) ?_
 simp -implicitDefEqProofs only [go_sem];refine ⟨_,iE a.cat i _ [[115,117,98,106,101,99,116],[97,99,116,105,111,110],[99,97,115,101],[101,110,118]] _ (.sl _ _) hn hi (by simp at hi; omega), ?_⟩
 rw [hw];have hl:lim=9223372036854775808:=rfl;have e0:(cn a).length≤25:=hle;unfold cn at hle;simp only [Gu,List.length_cons,List.length_nil] at hle;have c1:(j4 a.cat).length+(0+1)<lim:=by omega
 have c2:(j4 a.cat++ [46]).length+a.name.length<lim:=by simp only [Gu,List.length_cons,List.length_nil]; omega
 cases d2:a.must
 ·simp -implicitDefEqProofs only [go_sem,c1,c2,d2]
  exact .mk _ (.refl _) (.ah hid) ⟨by simp [gM,cn,d1,d2,au],rfl⟩
 ·have c3:(j4 a.cat++ [46]++a.name).length+(0+1)<lim:=by simp only [Gu,List.length_cons,List.length_nil]; omega
  simp -implicitDefEqProofs only [go_sem,c1,c2,c3,d2];exact .mk _ (.refl _) (.ah hid) ⟨by simp [gM,cn,d1,d2,au],rfl⟩
def Quoted:Prop:=∀(s:Txt) (h:Heap),s.length≤64→aj Tryd.prog 54 [.s s] h fun r h' =>r= .s (dN s)∧h' =h
def ie (v:iG):Txt:=if bD v then Bf.ck v else []
theorem rR (Q:Quoted) (v:iG) (hi:inV v) (h:Heap) (ht:iR h):aj Tryd.prog 28 [iL v] h fun r h' =>r= .s (ie v)∧h' =h:=by
 refine aj.body hU hm Tryd.func28 rfl (by kernel_rfl) 33 rfl [.tmp 2] rfl (Gp rfl) (fun hwf=> ?_)
 simp -implicitDefEqProofs only [go_sem,iL];intro id hid;have ht2:iR (upd h id (some (.obj [.v (.int .i64 v.kind), .v (.int .i64 v.n), .s v.s] 46))):=ht.sub (.ah hid);simp -implicitDefEqProofs only [go_sem];refine (ic v _).pthen ?_;cases d1:bD v
 ·simp -implicitDefEqProofs only [go_sem,d1]
  exact .mk _ (.refl _) (.ah hid) ⟨by grind [ie,au],rfl⟩
 have hl:lim=9223372036854775808:=rfl;have hil:=Lib.itoa_length_le v.n hi.1 hi.2;cases k1:(v.kind==1)
 case true=>
  have e1:v.kind=1:=by grind
  simp -implicitDefEqProofs only [go_sem,d1,k1];refine (vH _ _).pthen ?_;simp -implicitDefEqProofs only [go_sem];exact .mk _ (.refl _) (.ah hid) ⟨by grind [ie,Bf.ck,au],rfl⟩
 have e1:v.kind≠1:=by grind
 cases k4:(v.kind==4)
 case true=>
  have e4:v.kind=4:=by grind
  simp -implicitDefEqProofs only [go_sem,d1,k1,k4];refine (tw _ _ hi ht2).pthen ?_;have c1:0+1+(Lib.itoa v.n).length<lim:=by omega
  simp -implicitDefEqProofs only [go_sem,c1];exact .mk _ (.refl _) (.ah hid) ⟨by grind [ie,Bf.ck,au],rfl⟩
 have e4:v.kind≠4:=by grind
 cases k5:(v.kind==5)
 case true=>
  have e5:v.kind=5:=by grind
  have hn:v.s.length≤16:=by
   grind [bD,cw]
  have c1:0+1+v.s.length<lim:=by omega
  simp -implicitDefEqProofs only [go_sem,d1,k1,k4,k5,c1];exact .mk _ (.refl _) (.ah hid) ⟨by grind [ie,Bf.ck,au],rfl⟩
 have e5:v.kind≠5:=by grind
 cases k3:(v.kind==3)
 case true=>
  have e3:v.kind=3:=by grind
  have hn:v.s.length≤64:=by
   grind [bD]
  simp -implicitDefEqProofs only [go_sem,d1,k1,k4,k5,k3];refine (Q _ _ hn).pthen ?_;simp -implicitDefEqProofs only [go_sem];exact .mk _ (.refl _) (.ah hid) ⟨by grind [ie,Bf.ck,au],rfl⟩
 have e3:v.kind≠3:=by grind
 simp -implicitDefEqProofs only [go_sem,d1,k1,k4,k5,k3];refine (tw _ _ hi ht2).pthen ?_;simp -implicitDefEqProofs only [go_sem];exact .mk _ (.refl _) (.ah hid) ⟨by grind [ie,Bf.ck,au],rfl⟩
theorem wU (n:Int) (h1:1≤n) (h4:n≤3):∃i:Nat,n=i+1∧∃hi:i< [[61],[60],[62]].length,([[61],[60],[62]]:List Txt)[i]'hi=opW n:=by
 rcases (by omega:n=1∨n=2∨n=3) with rfl|rfl|rfl
 ·exact ⟨0,rfl,by decide,rfl⟩
 ·exact ⟨1,rfl,by decide,rfl⟩
 ·exact ⟨2,rfl,by decide,rfl⟩
theorem zj (Q:Quoted) (l:List bl) (he:eI l=0) (hi:inA l) (h:Heap) (ht:iR h):aj Tryd.prog 63 [bR l] h fun r h' =>r= .s (iH l)∧h' =h:=by
 refine aj.body hU hm Tryd.func63 rfl (by kernel_rfl) 32 rfl [.tmp 2] rfl (Gp rfl) (fun hwf=> ?_)
 obtain ⟨_,hl8,hok⟩:=jZ he;simp -implicitDefEqProofs only [go_sem,bR,Gq];refine .intro (fun m ρ h' =>∃(i:Nat) (y:AV),WrA 9 h h' y (((l.take i).map cC).map AV.s)∧i≤l.length∧m=l.length - i∧lk ρ 3=some y∧lk ρ 6=some (.sl (l.map cE) .no)∧lk ρ 7=some (.v (.int .i64 l.length))∧lk ρ 8=some (.v (.int .i64 i))) l.length ?_ ?_
 ·refine ⟨0,_, .nil (.refl _),by omega,rfl, ?_, ?_, ?_, ?_⟩<;>simp -implicitDefEqProofs only [go_sem]
 ·rintro m ρ h' ⟨i,y,hy,hil,rfl,r3,r6,r7,r8⟩
  simp -implicitDefEqProofs only [go_sem,r3,r6,r7,r8];refine .intro (fun e=> ?_) (fun e=> ?_)
  ·have hlt:i<l.length:=Gx e
   have w1:=Gw i (by omega)
   have hmk:=dV (hok l[i] (Gv hlt));have hin:=hi l[i] (Gv hlt);obtain ⟨j,hn,hj,hw⟩:=wU l[i].op hmk.2.1 hmk.2.2.1;have ha:=fR hmk.1;have hv:=jV hmk.2.2.2 hin.1 hin.2;have ho:=sE l[i].op;have hlim:lim=9223372036854775808:=rfl;simp -implicitDefEqProofs only [go_sem,r3,r6,r7,r8];refine .at i (by simpa using hlt) (by rw [Gr]; rfl) ?_
   simp -implicitDefEqProofs only [go_sem,r3,r6,r7,r8,Gr,cE];intro id hid;have hyb:=hy.base hid (some (.obj [.v (.int .i64 l[i].attr.cat), .s l[i].attr.name, .v (.bool l[i].attr.must), .v (.int .i64 l[i].op), .v (.int .i64 l[i].val.kind), .v (.int .i64 l[i].val.n), .s l[i].val.s] 48));simp -implicitDefEqProofs only [go_sem,r3,r6,r7,r8];obtain ⟨hb,ehb⟩:∃hb,upd h' id (some (.obj [.v (.int .i64 l[i].attr.cat), .s l[i].attr.name, .v (.bool l[i].attr.must), .v (.int .i64 l[i].op), .v (.int .i64 l[i].val.kind), .v (.int .i64 l[i].val.n), .s l[i].val.s] 48))=hb:=⟨_,rfl⟩;have hbid:hb id=some (.obj [.v (.int .i64 l[i].attr.cat), .s l[i].attr.name, .v (.bool l[i].attr.must), .v (.int .i64 l[i].op), .v (.int .i64 l[i].val.kind), .v (.int .i64 l[i].val.n), .s l[i].val.s] 48):=by rw [←ehb]; exact ag ..
   rw [ehb] at hyb⊢;have htb:iR hb:=(ht.sub (Sub.ah (hy.1.none hid))).sub hyb.1;refine .calls (hm1 id _) [0,1,2,5,6,7,11,12,3,4,8,9,10,13,14,15,16,17] (.hm1 hbid) (by kernel_rfl) rfl ?_
   simp -implicitDefEqProofs only [go_sem,r3,r6,r7,r8,fe];have e1:gM l[i].attr=cn l[i].attr:=by simp [gM,hmk.1]
   have e2:ie l[i].val=Bf.ck l[i].val:=by simp [ie,hmk.2.2.2]
   have hsa:=nt l[i].attr hb;rw [e1] at hsa;have hsv:=rR Q l[i].val hin hb htb;rw [e2] at hsv;have hsw:=iE l[i].op j (.sl [.s [61], .s [60], .s [62]] .full) [[61],[60],[62]] hb (.sl _ _) hn hj (by simp at hj; omega)
   rw [hw] at hsw;refine hsa.pthen ?_;refine ⟨.hm1 hbid, ?_⟩;have c1:(cn l[i].attr).length+(0+1)<lim:=by omega
   simp -implicitDefEqProofs only [go_sem,r3,r6,r7,r8,fe,c1];refine hsw.pthen ?_;refine ⟨.hm1 hbid, ?_⟩;have c2:(cn l[i].attr++ [32]).length+(opW l[i].op).length<lim:=by simp only [Gu,List.length_cons,List.length_nil]; omega
   have c3:(cn l[i].attr++ [32]++opW l[i].op).length+(0+1)<lim:=by simp only [Gu,List.length_cons,List.length_nil]; omega
   have c4:(cn l[i].attr++ [32]++opW l[i].op++ [32]).length+(Bf.ck l[i].val).length<lim:=by simp only [Gu,List.length_cons,List.length_nil]; omega
   simp -implicitDefEqProofs only [go_sem,r3,r6,r7,r8,fe,c2,c3];refine hsv.pthen ?_;refine ⟨.hm1 hbid, ?_⟩;simp -implicitDefEqProofs only [go_sem,r3,r6,r7,r8,fe,c4];refine hyb.app (zs:= [.s (cC l[i])]) (bB _) (bB [cC l[i]]) u9 (by rw [u9b]; decide) u9f u9n (fun k hk=>hk) (by rw [u9b]; simp; omega) fun z' h2 hz' => ?_
   refine ⟨fun j b hj=>((Sub.hm1 (ag ..)).trans hz'.1) j b hj, ?_⟩
   simp -implicitDefEqProofs only [go_sem,r3,r6,r7,r8,w1];refine ⟨_, ?_,i+1,z', ?_,by omega,rfl, ?_, ?_, ?_, ?_⟩
   ·omega
   ·rw [List.take_succ_eq_append_getElem hlt,List.map_append,List.map_append]
    exact hz'.less (Sub.ah (hy.1.none hid))
   all_goals simp -implicitDefEqProofs only [go_sem,r3,r6,r7,r8,w1]
  ·have hge:i=l.length:=by have:=Gt e; omega
   subst hge;rw [List.take_length] at hy;have hj:=join_le (l.map cC) [44,32] 8 222 (by simpa using hl8) fun x hx=>by
    obtain ⟨m,hm,rfl⟩:=List.mem_map.1 hx;have:=dV (hok m hm);exact kD this.1 (jV this.2.2.2 (hi m hm).1 (hi m hm).2)
   simp only [List.length_cons,List.length_nil] at hj;simp -implicitDefEqProofs only [go_sem,r3,r6,r7,r8];refine (l6 y (l.map cC) [44,32] _ hy.seq (by omega) (by simp; omega)).pthen ?_
   simp -implicitDefEqProofs only [go_sem];exact .mk _ (.refl _) hy.1 ⟨rfl,rfl⟩
end Go.Proofs.YtfpckjaeeiiipaaDoor
namespace Go.Ab
open Go
theorem Cv (n:Nat) (hn:n<18446744073709551616):IntKind.u64.wrap (n:Int)=n:=Cu .u64 n rfl (by grind [IntKind.bits])
theorem yV (n):IntKind.u64.wrap n=((n % 18446744073709551616).toNat:Int):=by
 grind [Int.emod_nonneg,Int,IntKind.wrap,IntKind.signed,IntKind.bits]
section
variable {U : TypeId → TI} {ty : TypeId} {K : AV → Prop}
theorem wu8 (n:Nat):IntKind.u8.wrap (n:Int)=((UInt8.ofNat n).toNat:Int):=by
 rfl
end
end Go.Ab
namespace Go.Proofs.YtfpckjaeeiiipaaDoor
open Go Go.Ab Go.Bf
abbrev rT (h h' :Heap) (y:AV) (l:Txt):Prop:=Acc U 5 h h' y (l.map bX)
theorem q5:(U 5).sz=1:=by rfl
theorem q5b:(U 5).bytes=1:=by rfl
theorem rT.app {g h:Heap} {y v:AV} {l m:Txt} {Q:AV→Heap→Prop} (ha:rT g h y l) (hsrc:∀k:List AV→Prop,k (m.map bX)→eD U 5 h v k) (hlen:l.length+m.length≤140737488355328)
  (hk:∀y' h',rT g h' y' (l++m)→Q y' h'):apK U h y v Q (.slice 5):=
 Acc.app ha (by grind [q5]) (by grind [q5b]) hsrc (by grind [q5,kU]) (by grind [q5,kU]) (by grind [q5b]) fun y' h' hy hK=>hk y' h' (by grind)
@[go_sem high] theorem Dq {ty:TypeId} {K:AV→Prop} (c:UInt8):cA U .shr ty (.v (.int .u8 (c.toNat:Int))) (.v (.int .u64 4)) K=K (.v (.int .u8 ((c.toNat / 16:Nat):Int))):=by
 grind [BB,min,Int,IntKind.bits,Int.fdiv_eq_ediv_of_nonneg,Int.le_of_lt,Int.pow_pos]
@[go_sem high] theorem u8_and15 {ty:TypeId} {K:AV→Prop} (c:UInt8):cA U .and ty (.v (.int .u8 (c.toNat:Int))) (.v (.int .u8 15)) K=K (.v (.int .u8 ((c.toNat % 16:Nat):Int))):=by
 have hc:=c.toNat_lt;have e:(BitVec.ofNat 8 c.toNat &&& BitVec.ofNat 8 15).toNat=c.toNat % 16:=by
  rw [BitVec.toNat_and,BitVec.toNat_ofNat,BitVec.toNat_ofNat,Nat.mod_eq_of_lt (by omega),Nat.mod_eq_of_lt (by omega)]
  exact Nat.and_two_pow_sub_one_eq_mod c.toNat 4
 have h:IntKind.u8.wrap (((BitVec.ofInt IntKind.u8.bits (c.toNat:Int) &&& BitVec.ofInt IntKind.u8.bits 15).toNat:Nat):Int)=((c.toNat % 16:Nat):Int):=by
  grind [IntKind.wrap,IntKind.signed,IntKind.bits]
 exact (BA ..).trans (congrArg (fun z=>K (.v (.int .u8 z))) h)
theorem yt (n:Nat) (hn:n<16) (h:Heap):aj Tryd.prog 60 [.v (.int .u8 (n:Int))] h fun r h' =>r=bX (jD n)∧h' =h:=by
 refine aj.body hU hm Tryd.func60 rfl (by kernel_rfl) 10 rfl [.tmp 2] rfl (Gp rfl) (fun hwf=> ?_)
 have w1:IntKind.u8.wrap ((48:Int)+(n:Int))=((UInt8.ofNat (48+n)).toNat:Int):=by rw [←wu8]; rfl
 have w2:IntKind.u8.wrap ((97:Int)+(n:Int))=(97:Int)+(n:Int):=by simp only [IntKind.wrap,IntKind.signed,IntKind.bits]; simp; omega
 have w3:10≤n→IntKind.u8.wrap ((97:Int)+(n:Int) - 10)=((UInt8.ofNat (87+n)).toNat:Int):=fun h=>by rw [←wu8]; congr 1; omega
 cases d1:decide ((n:Int)<10)
 ·have h1:=Gt d1
  simp -implicitDefEqProofs only [go_sem,d1,w2,w3 (by omega)]
  refine .same (.refl _) ⟨?_,rfl⟩;unfold jD;rw [if_neg (by omega)]
  rfl
 ·have h1:=Gs d1
  simp -implicitDefEqProofs only [go_sem,d1,w1];refine .same (.refl _) ⟨?_,rfl⟩;unfold jD;rw [if_pos (by omega)]
  rfl
theorem qb (n:Int) (hn2: -9223372036854775808≤n∧n≤9223372036854775807) (h:Heap):aj Tryd.prog 40 [.v (.int .i64 n)] h fun r h' =>r= .s (Lib.itoa n)∧h' =h:=by
 refine aj.of_wp hU Tryd.func40 rfl (by rfl) 28 rfl [.tmp 2] rfl (Gp rfl) ?_
 refine .one hU hm ?_;simp -implicitDefEqProofs only [go_sem];refine .one hU hm ?_;simp -implicitDefEqProofs only [go_sem,yV];refine .one hU hm ?_;simp -implicitDefEqProofs only [go_sem];refine .cut (fun ρ g=>g=h∧lk ρ 0=some (.v (.int .i64 n))∧lk ρ 3=some (.v (.int .u64 (n.natAbs:Int)))∧lk ρ 4=some (.s [])) (.vc hU hm ?_) ?_
 ·cases d1:decide (n<0)
  ·have h0:=Gt d1
   have e:(n % 18446744073709551616).toNat=n.natAbs:=by omega
   simp -implicitDefEqProofs only [go_sem,d1,e];refine ⟨rfl, ?_, ?_, ?_⟩<;>simp -implicitDefEqProofs only [go_sem]
  ·have h0:=Gs d1
   have e:IntKind.u64.wrap (0 - ((n % 18446744073709551616).toNat:Int))=(n.natAbs:Int):=by rw [yV]; omega
   simp -implicitDefEqProofs only [go_sem,d1,e];refine ⟨rfl, ?_, ?_, ?_⟩<;>simp -implicitDefEqProofs only [go_sem]
 rintro ρ g ⟨rfl,r0,r3,r4⟩
 refine .vc hU hm ?_;simp -implicitDefEqProofs only [go_sem];have hlen:(Lib.decDigits n.natAbs).length≤21:=by
  have h1:=Lib.itoa_length_le n hn2.1 hn2.2;unfold Lib.itoa at h1;split at h1
  ·simp only [List.length_cons] at h1; omega
  ·rw [show n.toNat=n.natAbs by omega] at h1; exact h1
 refine .intro (fun m ρ h' =>h' =g∧∃(u:Nat) (t:Txt),m=u+1∧u<18446744073709551616∧Lib.decDigits n.natAbs=Lib.decDigits u++t∧lk ρ 0=some (.v (.int .i64 n))∧lk ρ 3=some (.v (.int .u64 (u:Int)))∧lk ρ 4=some (.s t)) (n.natAbs+1) ?_ ?_
 ·refine ⟨rfl,n.natAbs,[],rfl,by omega,by simp, ?_, ?_, ?_⟩<;>simp -implicitDefEqProofs only [go_sem,r0,r3,r4]
 clear r0 r3 r4
 rintro m ρ h' ⟨rfl,u,t,rfl,hu,ht,r0,r3,r4⟩
 have htl:t.length≤21:=by
  have:=congrArg List.length ht;rw [Gu] at this;omega
 have e1:((u:Int).tmod 10)=((u % 10:Nat):Int):=rfl;have e2:((u:Int).tdiv 10)=((u / 10:Nat):Int):=rfl;have w1:IntKind.u64.wrap (48+((u % 10:Nat):Int))=((48+u % 10:Nat):Int):=by rw [show (48+((u % 10:Nat):Int))=((48+u % 10:Nat):Int) by omega]; exact Cv _ (by omega)
 have w2:IntKind.u64.wrap ((u / 10:Nat):Int)=((u / 10:Nat):Int):=Cv _ (by omega)
 have hlim:lim=9223372036854775808:=rfl;have hc:(0+1)+t.length<lim:=by omega
 have hdig:Lib.decDigits u=if u<10 then [UInt8.ofNat (48+u)] else Lib.decDigits (u / 10)++ [UInt8.ofNat (48+u % 10)]:=by
  rw [Lib.decDigits]
  by_cases h:u<10
  ·rw [dif_pos h,if_pos h]
  ·rw [dif_neg h,if_neg h]
 simp -implicitDefEqProofs only [go_sem,r0,r3,r4,e1,w1,wu8];refine ⟨by decide, ?_⟩
 refine (ym _ [UInt8.ofNat (48+u % 10)] _ _).mpr ⟨by rfl, ?_⟩
 cases d3:(((u / 10:Nat):Int)==0)
 ·have h3:¬u<10:=by intro h; rw [show u / 10=0 by omega] at d3; cases d3
  rw [if_neg h3] at hdig;simp -implicitDefEqProofs only [go_sem,r0,r3,r4,e2,w2,hc,d3];refine ⟨by decide,u / 10+1,by omega,rfl,u / 10,UInt8.ofNat (48+u % 10)::t,rfl,by omega, ?_, ?_, ?_, ?_⟩
  ·rw [ht,hdig,List.append_assoc]; rfl
  all_goals simp -implicitDefEqProofs only [go_sem,r0]
 ·have h3:u<10:=by have:=eq_of_beq d3; omega
  rw [if_pos h3] at hdig;have e48:48+u % 10=48+u:=by omega
  rw [hdig,←e48] at ht;cases d4:decide (n<0)
  ·have h4:=Gt d4
   simp -implicitDefEqProofs only [go_sem,r0,r3,r4,e2,w2,hc,d3,d4];refine ⟨by decide, .same (.refl _) ⟨?_,rfl⟩⟩
   unfold Lib.itoa;rw [if_neg h4,show n.toNat=n.natAbs by omega,ht]
   rfl
  ·have h4:=Gs d4
   simp -implicitDefEqProofs only [go_sem,r0,r3,r4,e2,w2,hc,d3,d4];refine ⟨by decide,by omega, .same (.refl _) ⟨?_,rfl⟩⟩
   unfold Lib.itoa;rw [if_pos h4,ht];rfl
theorem xO (c:UInt8):pq c=(decide ((c.toNat:Int)<32)||decide (126<(c.toNat:Int))||(c.toNat:Int)==34||(c.toNat:Int)==92):=rfl
theorem xR (l:Txt) (hl:l.length≤64) (h:Heap):aj Tryd.prog 41 [.s l] h fun r h' =>r= .s (dN l)∧h' =h:=
 aj.freeze fun g hg _=>by
 refine aj.body hU hm Tryd.func41 rfl (by kernel_rfl) 47 rfl [.tmp 2] rfl (Gp rfl) (fun hwf=> ?_)
 simp -implicitDefEqProofs only [go_sem];refine .intro (fun m ρ h' =>∃(i:Nat) (z:AV),rT g h' z ([34]++((l.take i).map cr).flatten)∧i≤l.length∧m=l.length - i∧lk ρ 0=some (.s l)∧lk ρ 3=some z∧lk ρ 4=some (.v (.int .i64 (i:Int)))) l.length ?_ ?_
 ·refine ⟨0, .sl ([34].map bX) .full,Acc.full (.refl _),by omega,rfl, ?_, ?_, ?_⟩<;>simp -implicitDefEqProofs only [go_sem]
  all_goals rfl
 rintro m ρ h' ⟨i,z,ha,hi,rfl,r0,r3,r4⟩
 have hql:∀x∈l.map cr,x.length≤3:=fun x hx=>by
  obtain ⟨c,_,rfl⟩:=List.mem_map.1 hx;unfold cr;split<;>simp
 have hfl:(((l.take i).map cr).flatten).length≤64*3:=cB _ 64 3 (by simp; omega) fun x hx=>by
  obtain ⟨c,hc,rfl⟩:=List.mem_map.1 hx;exact hql _ (List.mem_map.2 ⟨c,List.mem_of_mem_take hc,rfl⟩)
 simp -implicitDefEqProofs only [go_sem,r0,r4];refine .intro (fun e=> ?_) (fun e=> ?_)
 ·have hlt:i<l.length:=Gx e
  have w1:=Gw i (by omega)
  have hst:([34]++((l.take (i+1)).map cr).flatten:Txt)= [34]++((l.take i).map cr).flatten++cr l[i]:=by
   rw [List.take_succ_eq_append_getElem hlt,List.map_append,List.flatten_append];simp only [List.map_cons,List.map_nil,List.flatten_cons,List.flatten_nil,List.append_nil,List.append_assoc]
  simp -implicitDefEqProofs only [go_sem,r0,r4];refine .at i hlt ?_;generalize hcc:l[i]=c at hst;have h255:=c.toNat_lt;have ho:=xO c;cases d1:decide ((c.toNat:Int)<32)<;>cases d2:decide (126<(c.toNat:Int))<;>cases d3:((c.toNat:Int)==34)<;>cases d4:((c.toNat:Int)==92)<;>rw [d1,d2,d3,d4] at ho<;>simp -implicitDefEqProofs only [go_sem,r0,r3,r4,d1,d2,d3,d4]
  case false.false.false.false=>
   have eq:cr c= [c]:=by rw [cr,if_neg (by rw [ho]; decide)]
   refine rT.app ha (m:= [c]) (fun _ hk=>hk) (by simp only [Gu,List.length_cons,List.length_nil]; omega) fun z' h2 ha' => ?_
   simp -implicitDefEqProofs only [go_sem,r4,w1];refine ⟨_, ?_,i+1,z',by rw [eq] at hst; rw [←hst] at ha'; exact ha',by omega,rfl, ?_, ?_, ?_⟩
   ·omega
   all_goals simp -implicitDefEqProofs only [go_sem,r0]
  all_goals
   have eq:cr c= [92,jD (c.toNat / 16),jD (c.toNat % 16)]:=by rw [cr,if_pos (by rw [ho]; rfl)]
   refine (yt (c.toNat / 16) (by omega) _).pthen ?_
   simp -implicitDefEqProofs only [go_sem,r3];refine (yt (c.toNat % 16) (by omega) _).pthen ?_
   simp -implicitDefEqProofs only [go_sem,r3];refine rT.app ha (m:= [92,jD (c.toNat / 16),jD (c.toNat % 16)]) (fun _ hk=>hk) (by simp only [Gu,List.length_cons,List.length_nil]; omega) fun z' h2 ha' => ?_
   simp -implicitDefEqProofs only [go_sem,r4,w1];refine ⟨_, ?_,i+1,z',by rw [eq] at hst; rw [←hst] at ha'; exact ha',by omega,rfl, ?_, ?_, ?_⟩
   ·omega
   all_goals simp -implicitDefEqProofs only [go_sem,r0]
 ·have hge:i=l.length:=by have:=Gt e; omega
  subst hge;rw [List.take_length] at ha hfl;simp -implicitDefEqProofs only [go_sem,r3];refine rT.app ha (m:= [34]) (fun _ hk=>hk) (by simp only [Gu,List.length_cons,List.length_nil]; omega) fun z' h2 ha' => ?_
  have eT: [34]++(l.map cr).flatten++ [34]=dN l:=rfl;rw [eT] at ha';obtain ⟨q,rfl⟩:=Acc.row ha';generalize dN l=T at ha'⊢;simp -implicitDefEqProofs only [go_sem];exact .same (.refl _) ⟨ha'.1,_, .keep _ (.s _),rfl⟩
theorem rI (v:iG) (hi:inV v) (h:Heap):aj Tryd.prog 18 [iL v] h fun r h' =>r= .s (ie v)∧h' =h:=by
 have hv:=fun hh=>jo v hh
 simp only [iL] at hv;have hlim:lim=9223372036854775808:=rfl;refine aj.body hU hm Tryd.func18 rfl (by kernel_rfl) 32 rfl [.tmp 2] rfl (Gp rfl) (fun hwf=> ?_)
 simp -implicitDefEqProofs only [go_sem,iL];intro id hid;simp -implicitDefEqProofs only [go_sem];refine aj.pthen (hv _) ?_;cases d1:bD v
 ·simp -implicitDefEqProofs only [go_sem]
  exact .mk _ (.refl _) (.ah hid) ⟨by simp [ie,d1,au],rfl⟩
 have eS:ie v=Bf.ck v:=by simp [ie,d1]
 unfold inV at hi;have hil:=Lib.itoa_length_le v.n hi.1 hi.2
 by_cases k1:v.kind=1
 ·cases d2:(v.n==1)<;>simp -implicitDefEqProofs only [go_sem,k1,d2]<;>exact .mk _ (.refl _) (.ah hid) ⟨by simp [eS,Bf.ck,k1,au,d2,Lib.formatBool]; decide,rfl⟩
 by_cases k2:v.kind=2
 ·simp -implicitDefEqProofs only [go_sem,k2]
  refine (qb v.n hi _).pthen ?_;simp -implicitDefEqProofs only [go_sem];exact .mk _ (.refl _) (.ah hid) ⟨by simp [eS,Bf.ck,k2,au],rfl⟩
 by_cases k4:v.kind=4
 ·have hc:(0+1)+(Lib.itoa v.n).length<lim:=by omega
  simp -implicitDefEqProofs only [go_sem,k4];refine (qb v.n hi _).pthen ?_;simp -implicitDefEqProofs only [go_sem,hc];exact .mk _ (.refl _) (.ah hid) ⟨by simp [eS,Bf.ck,k4,au],rfl⟩
 by_cases k5:v.kind=5
 ·have hn:v.s.length≤16:=by
   have:=d1;simp [bD,k5] at this;exact cw this.2
  have hc:(0+1)+v.s.length<lim:=by omega
  simp -implicitDefEqProofs only [go_sem,k5,hc];exact .mk _ (.refl _) (.ah hid) ⟨by simp [eS,Bf.ck,k5,au],rfl⟩
 have k3:v.kind=3:=by
  have:=d1;unfold bD at this;simp only [k1,k2,k4,k5,if_false] at this
  by_cases h3:v.kind=3
  ·exact h3
  ·rw [if_neg h3] at this; cases this
 have hs:v.s.length≤64:=by
  have:=d1;simp [bD,k3] at this;exact this.2
 simp -implicitDefEqProofs only [go_sem,k3];refine (xR v.s hs _).pthen ?_;simp -implicitDefEqProofs only [go_sem];exact .mk _ (.refl _) (.ah hid) ⟨by simp [eS,Bf.ck,k3,au],rfl⟩
end Go.Proofs.YtfpckjaeeiiipaaDoor
namespace Go.Ab
open Go
theorem iM.via {P:Program} {U:TypeId→TI} {n:Nat} {a b:Code} {K:Exit→Env→Heap→Prop} {ρ:Env} {h:Heap} {y:AV} (I:Env→Heap→Prop) (hc:∀K' :Exit→Env→Heap→Prop,(∀ρ' H',I ρ' H'→K' .normal ρ' H')→iM P U n a b ρ h K' y) (hK:∀ρ' H',I ρ' H'→K .normal ρ' H'):iM P U n a b ρ h K y:=hc K hK
end Go.Ab
namespace Go.Bf
open Go Go.Ab
theorem kr (l:List Txt) (sep:Txt) (i:Nat) (h:i<l.length):Lib.join (l.take (i+1)) sep=Lib.join (l.take i) sep++(if i=0 then [] else sep)++l[i]:=by
 rw [List.take_succ_eq_append_getElem h];cases e:l.take i with
 |nil=>
  have:i=0:=by
   have:=congrArg List.length e;simp only [List.length_take,List.length_nil] at this;omega
  rw [if_pos this,List.nil_append,Lib.join_one,Lib.join_nil];rfl
 |cons y r=>
  have:i≠0:=by rintro rfl; simp at e
  rw [if_neg this,List.cons_append,Lib.join_cons,Lib.join_cons];simp [Lib.joinTail]
end Go.Bf
namespace Go.Proofs.YtfpckjaeeiiipaaDoor
open Go Go.Ab Go.Bf
theorem pJ (a:eU) (d1:bM a=true) (h:Heap):aj Tryd.prog 9 [dZ a] h fun r h' =>r= .s (cn a)∧h' =h:=by
 refine aj.body hU hm Tryd.func9 rfl (by kernel_rfl) 16 rfl [.tmp 2] rfl (Gp rfl) (fun hwf=> ?_)
 simp -implicitDefEqProofs only [go_sem,dZ];intro id hid;have hle:=fR d1;have hl:lim=9223372036854775808:=rfl;unfold cn at hle;simp only [Gu,List.length_cons,List.length_nil] at hle;have c1:(j4 a.cat).length+(0+1)<lim:=by omega
 have c2:(j4 a.cat++ [46]).length+a.name.length<lim:=by simp only [Gu,List.length_cons,List.length_nil]; omega
 have c3:(j4 a.cat++ [46]++a.name).length+(0+1)<lim:=by simp only [Gu,List.length_cons,List.length_nil]; omega
 simp -implicitDefEqProofs only [go_sem];refine .quiet (by kernel_rfl) ?_
 simp -implicitDefEqProofs only [go_sem];refine ⟨_,BD a.cat _, ?_⟩;cases d2:a.must
 ·simp -implicitDefEqProofs only [go_sem,c1,c2,d2]
  exact .mk _ (.refl _) (.ah hid) ⟨by simp [cn,d2,au],rfl⟩
 ·simp -implicitDefEqProofs only [go_sem,c1,c2,c3,d2]
  exact .mk _ (.refl _) (.ah hid) ⟨by simp [cn,d2,au],rfl⟩
theorem tP (l:List iF) (he:bp l=0) (h:Heap):aj Tryd.prog 49 [ay l] h fun r h' =>r= .s (dI l)∧h' =h:=by
 refine aj.body hU hm Tryd.func49 rfl (by kernel_rfl) 29 rfl [.tmp 2] rfl (Gp rfl) (fun hwf=> ?_)
 obtain ⟨hl8,hok⟩:=jf he;have hlim:lim=9223372036854775808:=rfl;simp -implicitDefEqProofs only [go_sem,ay,Gq];refine .intro (fun m ρ h' =>Ab.Sub h h'∧∃i:Nat,i≤l.length∧m=l.length - i∧(dI (l.take i)).length≤40*i∧lk ρ 3=some (.s (dI (l.take i)))∧lk ρ 7=some (ay l)∧lk ρ 8=some (.v (.int .i64 l.length))∧lk ρ 9=some (.v (.int .i64 i))) l.length ?_ ?_
 ·refine ⟨.refl _,0,by omega,rfl,by simp [dI], ?_, ?_, ?_, ?_⟩<;>simp -implicitDefEqProofs only [go_sem,ay]
  rfl
 rintro m ρ h' ⟨hs,i,hi,rfl,hln,r3,r7,r8,r9⟩
 simp -implicitDefEqProofs only [go_sem,r8,r9];refine .intro (fun e=> ?_) (fun e=> ?_)
 rotate_left
 ·have hge:i=l.length:=by grind
  subst hge;rw [List.take_length] at r3;simp -implicitDefEqProofs only [go_sem,r3];exact .mk _ (.refl _) hs ⟨rfl,rfl⟩
 have hlt:i<l.length:=Gx e;have w1:IntKind.i64.wrap ((i:Int)+1)=((i+1:Nat):Int):=by grind [aY]
 have ho:=hok l[i] (Gv hlt);have hol:=l8 ho;have hst:dI (l.take (i+1))=dI (l.take i)++kG l[i]:=by
  unfold dI;rw [List.take_succ_eq_append_getElem hlt,List.map_append,List.flatten_append];simp
 have hargl:l[i].arg.length≤16:=cw (by simp [cL] at ho; exact ho.2)
 have hdl:=qd l[i].kind;have hon:l[i].on=1∨l[i].on=2:=by simp [cL] at ho; omega
 simp -implicitDefEqProofs only [go_sem,r7,r9,ay];refine .at i (by grind) (by rw [Gr]; rfl) ?_
 simp -implicitDefEqProofs only [go_sem,Gr,aN];intro id hid;generalize hS:dI (l.take i)=S at*;rcases hon with hon|hon
 ·have eo:kG l[i]=([32,111,110,32,112,101,114,109,105,116,32]:Txt)++fC l[i].kind++ [32]++l[i].arg:=by simp [kG,onW,hon]
  have c1:S.length+11<lim:=by omega
  have c2:(S++([32,111,110,32,112,101,114,109,105,116,32]:Txt)).length+(fC l[i].kind).length<lim:=by simp; omega
  have c3:(S++([32,111,110,32,112,101,114,109,105,116,32]:Txt)++fC l[i].kind).length+(0+1)<lim:=by simp; omega
  have c4:(S++([32,111,110,32,112,101,114,109,105,116,32]:Txt)++fC l[i].kind++ [32]).length+l[i].arg.length<lim:=by simp; omega
  simp -implicitDefEqProofs only [go_sem,hon,r3];refine .quiet (by kernel_rfl) ?_
  simp -implicitDefEqProofs only [go_sem,r3];refine ⟨c1, ?_⟩;refine ⟨_,vw l[i].kind _, ?_⟩;simp -implicitDefEqProofs only [go_sem,r3,r9,w1,c2,c3,c4];refine ⟨_, ?_,hs.new hid _,i+1,by omega,rfl, ?_, ?_, ?_, ?_, ?_⟩
  ·omega
  ·rw [hst,Gu]; omega
  ·simp -implicitDefEqProofs only [go_sem,hst,eo,List.append_assoc]
  all_goals simp -implicitDefEqProofs only [go_sem,r7,r8,ay]
 ·have eo:kG l[i]=([32,111,110,32,100,101,110,121,32]:Txt)++fC l[i].kind++ [32]++l[i].arg:=by simp [kG,onW,hon]
  have c1:S.length+9<lim:=by omega
  have c2:(S++([32,111,110,32,100,101,110,121,32]:Txt)).length+(fC l[i].kind).length<lim:=by simp; omega
  have c3:(S++([32,111,110,32,100,101,110,121,32]:Txt)++fC l[i].kind).length+(0+1)<lim:=by simp; omega
  have c4:(S++([32,111,110,32,100,101,110,121,32]:Txt)++fC l[i].kind++ [32]).length+l[i].arg.length<lim:=by simp; omega
  simp -implicitDefEqProofs only [go_sem,hon,r3];refine .quiet (by kernel_rfl) ?_
  simp -implicitDefEqProofs only [go_sem,r3];refine ⟨c1, ?_⟩;refine ⟨_,vw l[i].kind _, ?_⟩;simp -implicitDefEqProofs only [go_sem,r3,r9,w1,c2,c3,c4];refine ⟨_, ?_,hs.new hid _,i+1,by omega,rfl, ?_, ?_, ?_, ?_, ?_⟩
  ·omega
  ·rw [hst,Gu]; omega
  ·simp -implicitDefEqProofs only [go_sem,hst,eo,List.append_assoc]
  all_goals simp -implicitDefEqProofs only [go_sem,r7,r8,ay]
def qS (i:Nat):Txt:=if i=0 then [32,119,104,101,110,32] else [32,97,110,100,32]
def gL (Y:List (List bl)) (k:Nat):Txt:=if k=0 then [] else [40]++Lib.join ((Y.take k).map iH) [32,111,114,32]
def pF (k:Nat):Txt:=if k=0 then [40] else [32,111,114,32]
theorem wK {t:gH} {i:Nat} (h:i<t.length):dH (t.take (i+1))=dH (t.take i)++qS i++lP t[i]:=by
 unfold dH qS;have hj:=kr (t.map lP) [32,97,110,100,32] i (by simpa using h)
 rw [←List.map_take,←List.map_take,Gr] at hj;have h1:t.take (i+1)≠ []:=by
  intro e;have:=congrArg List.length e;simp only [List.length_take,List.length_nil] at this;omega
 rw [if_neg h1,hj]
 by_cases h0:i=0
 ·subst h0
  simp [Lib.join_nil]
 ·have h2:t.take i≠ []:=by
   intro e;have:=congrArg List.length e;simp only [List.length_take,List.length_nil] at this;omega
  rw [if_neg h2,if_neg h0,if_neg h0];simp
theorem vl {Y:List (List bl)} {k:Nat} (h:k<Y.length):gL Y (k+1)=gL Y k++pF k++iH Y[k]:=by
 unfold gL pF;have hj:=kr (Y.map iH) [32,111,114,32] k (by simpa using h)
 rw [←List.map_take,←List.map_take,Gr] at hj;rw [if_neg (by omega),hj]
 by_cases h0:k=0
 ·subst h0
  simp [Lib.join_nil]
 ·rw [if_neg h0,if_neg h0,if_neg h0]
  simp
theorem xj {Y:List (List bl)} (h:0<Y.length):lP Y=gL Y Y.length++ [41]:=by
 unfold gL lP;rw [if_neg (by omega),List.take_length]
theorem vi {Z:List bl} {j:Nat} (h:j<Z.length):Lib.join ((Z.take (j+1)).map cC) [44,32]=Lib.join ((Z.take j).map cC) [44,32]++(if j=0 then [] else [44,32])++cC Z[j]:=by
 have hj:=kr (Z.map cC) [44,32] j (by simpa using h)
 rw [←List.map_take,←List.map_take,Gr] at hj;exact hj
set_option maxRecDepth 100000 in
theorem oP (t:gH) (he:cy t=0) (hi0:inT t) (h:Heap):aj Tryd.prog 48 [aC t] h fun r h' =>r= .s (dH t)∧h' =h:=by
 refine aj.body hU hm Tryd.func48 rfl (by kernel_rfl) 69 rfl [.tmp 2] rfl (Gp rfl) (fun hwf=> ?_)
 obtain ⟨hl8,hok⟩:=kQ he;have hlim:lim=9223372036854775808:=rfl;simp -implicitDefEqProofs only [go_sem,aC,Gq];refine .intro (fun m ρ h' =>Ab.Sub h h'∧∃i:Nat,i≤t.length∧m=t.length - i∧(dH (t.take i)).length≤20000*i∧lk ρ 3=some (.s (dH (t.take i)))∧lk ρ 10=some (aC t)∧lk ρ 11=some (.v (.int .i64 t.length))∧lk ρ 12=some (.v (.int .i64 i))) t.length ?_ ?_
 ·refine ⟨.refl _,0,by omega,rfl,by simp [dH], ?_, ?_, ?_, ?_⟩<;>simp -implicitDefEqProofs only [go_sem,aC]
  rfl
 rintro m ρ h1 ⟨hs,i,hi,rfl,hln,r3,r10,r11,r12⟩
 simp -implicitDefEqProofs only [go_sem,r11,r12];refine .intro (fun e=> ?_) (fun e=> ?_)
 rotate_left
 ·have hge:i=t.length:=by grind
  subst hge;rw [List.take_length] at r3;simp -implicitDefEqProofs only [go_sem,r3];exact .mk _ (.refl _) hs ⟨rfl,rfl⟩
 have hlt:i<t.length:=Gx e;have w1:IntKind.i64.wrap ((i:Int)+1)=((i+1:Nat):Int):=by grind [aY]
 have hY0:=j0 (hok _ (Gv hlt));have hiY:=hi0 _ (Gv hlt);have hst:=wK hlt;generalize hY:t[i]=Y at hY0 hiY hst;obtain ⟨hY1,hY8,hYok⟩:=hY0;simp -implicitDefEqProofs only [go_sem,r10,r12,aC];refine .at i (by grind) (by rw [Gr]; rfl) ?_
 simp -implicitDefEqProofs only [go_sem,Gr,hY,aD];refine .via (fun ρ H=>H=h1∧lk ρ 3=some (.s (dH (t.take i)++qS i))∧lk ρ 5=some (aD Y)∧lk ρ 10=some (aC t)∧lk ρ 11=some (.v (.int .i64 t.length))∧lk ρ 12=some (.v (.int .i64 i))) (fun K hK=> ?_) ?_
 ·cases d1:((i:Int)==0)
  ·have h0:i≠0:=by rintro rfl; cases d1
   have c1:(dH (t.take i)).length+5<lim:=by omega
   have ep:qS i= [32,97,110,100,32]:=if_neg h0;simp -implicitDefEqProofs only [go_sem,d1,r3];refine ⟨c1,hK _ _ ⟨rfl, ?_, ?_, ?_, ?_, ?_⟩⟩
   ·rw [ep]
    simp -implicitDefEqProofs only [go_sem]
   all_goals simp -implicitDefEqProofs only [go_sem,r10,r11,r12,aD]
  ·have h0:i=0:=by have:=eq_of_beq d1; omega
   have ep:qS i= [32,119,104,101,110,32]:=if_pos h0;simp -implicitDefEqProofs only [go_sem,d1];refine hK _ _ ⟨rfl, ?_, ?_, ?_, ?_, ?_⟩
   ·rw [ep,h0]
    simp -implicitDefEqProofs only [go_sem];rfl
   all_goals simp -implicitDefEqProofs only [go_sem,r10,r11,r12,aD]
 clear r3 r10 r11 r12;have hpl:(qS i).length≤6:=by unfold qS; split<;>simp
 generalize hS1:dH (t.take i)++qS i=S1 at hst⊢;have hS1l:S1.length≤20000*i+6:=by rw [←hS1,Gu]; omega
 rintro ρ H ⟨rfl,r3,r5,r10,r11,r12⟩
 simp -implicitDefEqProofs only [go_sem,r5,aD,Gq];refine .intro (fun m ρ h' =>Ab.Sub h h'∧∃k:Nat,k≤Y.length∧m=Y.length - k∧(gL Y k).length≤1+2000*k∧lk ρ 3=some (.s (S1++gL Y k))∧lk ρ 10=some (aC t)∧lk ρ 11=some (.v (.int .i64 t.length))∧lk ρ 12=some (.v (.int .i64 i))∧lk ρ 21=some (aD Y)∧lk ρ 22=some (.v (.int .i64 Y.length))∧lk ρ 23=some (.v (.int .i64 k))) Y.length ?_ ?_
 ·refine ⟨hs,0,by omega,rfl,by simp [gL], ?_, ?_, ?_, ?_, ?_, ?_, ?_⟩<;>simp -implicitDefEqProofs only [go_sem,r3,r10,r11,r12,aD]
  simp [gL]
 clear r3 r5 r10 r11 r12 hs
 rintro m ρ h2 ⟨hs,k,hk,rfl,hPk,r3,r10,r11,r12,r21,r22,r23⟩
 simp -implicitDefEqProofs only [go_sem,r22,r23];refine .intro (fun e=> ?_) (fun e=> ?_)
 rotate_left
 ·have hge:k=Y.length:=by grind
  subst hge;have hye:=xj hY1;have c1:(S1++gL Y Y.length).length+(0+1)<lim:=by rw [Gu]; omega
  simp -implicitDefEqProofs only [go_sem,r3,c1,r12,w1];refine ⟨_, ?_,hs,i+1,by omega,rfl, ?_, ?_, ?_, ?_, ?_⟩
  ·omega
  ·rw [hst,hye]
   simp only [Gu,List.length_cons,List.length_nil];omega
  ·rw [hst,hye,←List.append_assoc]
   simp -implicitDefEqProofs only [go_sem]
  all_goals simp -implicitDefEqProofs only [go_sem,r10,r11,aC]
 have hlt2:k<Y.length:=Gx e;have w2:IntKind.i64.wrap ((k:Int)+1)=((k+1:Nat):Int):=by grind [aY]
 have hZ0:=jZ (hYok _ (Gv hlt2));have hiZ:=hiY _ (Gv hlt2);have hst2:=vl hlt2;generalize hZ:Y[k]=Z at hZ0 hiZ hst2;obtain ⟨hZ1,hZ8,hZok⟩:=hZ0;simp -implicitDefEqProofs only [go_sem,r21,r23,aD];refine .at k (by grind) (by rw [Gr]; rfl) ?_
 simp -implicitDefEqProofs only [go_sem,Gr,hZ,bR];have c40:(S1++gL Y k).length+(0+1)<lim:=by rw [Gu]; omega
 have c4:(S1++gL Y k).length+4<lim:=by rw [Gu]; omega
 refine .via (fun ρ H=>H=h2∧lk ρ 3=some (.s (S1++gL Y k++pF k))∧lk ρ 7=some (bR Z)∧lk ρ 10=some (aC t)∧lk ρ 11=some (.v (.int .i64 t.length))∧lk ρ 12=some (.v (.int .i64 i))∧lk ρ 21=some (aD Y)∧lk ρ 22=some (.v (.int .i64 Y.length))∧lk ρ 23=some (.v (.int .i64 k))) (fun K hK=> ?_) ?_
 ·cases d1:((k:Int)==0)
  ·have h0:k≠0:=by rintro rfl; cases d1
   have ep:pF k= [32,111,114,32]:=if_neg h0;simp -implicitDefEqProofs only [go_sem,d1,r3];refine ⟨c4,hK _ _ ⟨rfl, ?_, ?_, ?_, ?_, ?_, ?_, ?_, ?_⟩⟩
   ·rw [ep]
    simp -implicitDefEqProofs only [go_sem]
   all_goals simp -implicitDefEqProofs only [go_sem,r10,r11,r12,r21,r22,r23,bR]
  ·have h0:k=0:=by have:=eq_of_beq d1; omega
   have ep:pF k= [40]:=if_pos h0;simp -implicitDefEqProofs only [go_sem,d1,r3,c40];refine hK _ _ ⟨rfl, ?_, ?_, ?_, ?_, ?_, ?_, ?_, ?_⟩
   ·rw [ep]
    simp -implicitDefEqProofs only [go_sem]
   all_goals simp -implicitDefEqProofs only [go_sem,r10,r11,r12,r21,r22,r23,bR]
 clear r3 r10 r11 r12 r21 r22 r23 c40 c4;have hpl2:(pF k).length≤4:=by unfold pF; split<;>simp
 generalize hS2:S1++gL Y k++pF k=S2;have hS2l:S2.length≤200000:=by rw [←hS2,Gu,Gu]; omega
 rintro ρ H ⟨rfl,r3,r7,r10,r11,r12,r21,r22,r23⟩
 simp -implicitDefEqProofs only [go_sem,r7,bR,Gq];refine .intro (fun m ρ h' =>Ab.Sub h h'∧∃j:Nat,j≤Z.length∧m=Z.length - j∧(Lib.join ((Z.take j).map cC) [44,32]).length≤230*j∧lk ρ 3=some (.s (S2++Lib.join ((Z.take j).map cC) [44,32]))∧lk ρ 10=some (aC t)∧lk ρ 11=some (.v (.int .i64 t.length))∧lk ρ 12=some (.v (.int .i64 i))∧lk ρ 21=some (aD Y)∧lk ρ 22=some (.v (.int .i64 Y.length))∧lk ρ 23=some (.v (.int .i64 k))∧lk ρ 34=some (bR Z)∧lk ρ 35=some (.v (.int .i64 Z.length))∧lk ρ 36=some (.v (.int .i64 j))) Z.length ?_ ?_
 ·refine ⟨hs,0,by omega,rfl,by simp [Lib.join_nil], ?_, ?_, ?_, ?_, ?_, ?_, ?_, ?_, ?_, ?_⟩<;>simp -implicitDefEqProofs only [go_sem,r3,r10,r11,r12,r21,r22,r23,bR]
  simp [Lib.join_nil]
 clear r3 r7 r10 r11 r12 r21 r22 r23 hs
 rintro m ρ h3 ⟨hs,j,hj,rfl,hJj,r3,r10,r11,r12,r21,r22,r23,r34,r35,r36⟩
 simp -implicitDefEqProofs only [go_sem,r35,r36];refine .intro (fun e=> ?_) (fun e=> ?_)
 rotate_left
 ·have hge:j=Z.length:=by grind
  subst hge;rw [List.take_length] at hJj r3;simp -implicitDefEqProofs only [go_sem,r23,w2];have ez:gL Y (k+1)=gL Y k++(pF k++Lib.join (Z.map cC) [44,32]):=by rw [hst2,List.append_assoc]; rfl
  refine ⟨_, ?_,hs,k+1,by omega,rfl, ?_, ?_, ?_, ?_, ?_, ?_, ?_, ?_⟩
  ·omega
  ·rw [ez]
   simp only [Gu];omega
  ·rw [ez,←List.append_assoc,←List.append_assoc,hS2]
   simp -implicitDefEqProofs only [go_sem,r3]
  all_goals simp -implicitDefEqProofs only [go_sem,r10,r11,r12,r21,r22,aC,aD]
 have hlt3:j<Z.length:=Gx e;have w3:IntKind.i64.wrap ((j:Int)+1)=((j+1:Nat):Int):=by grind [aY]
 have hmk:=dV (hZok _ (Gv hlt3));have hin:=hiZ _ (Gv hlt3);have hst3:=vi hlt3;generalize hM:Z[j]=M at hmk hin hst3;have ha:=fR hmk.1;have hv:=jV hmk.2.2.2 hin.1 hin.2;have ho:=sE M.op;simp -implicitDefEqProofs only [go_sem,r34,r36,bR];refine .at j (by grind) (by rw [Gr]; rfl) ?_
 simp -implicitDefEqProofs only [go_sem,Gr,hM,cE];intro id hid;have hs' :=hs.new hid (some (.obj [.v (.int .i64 M.attr.cat), .s M.attr.name, .v (.bool M.attr.must), .v (.int .i64 M.op), .v (.int .i64 M.val.kind), .v (.int .i64 M.val.n), .s M.val.s] 48));simp -implicitDefEqProofs only [go_sem];generalize eH:upd h3 id _=H3 at hs'⊢;have hm3:H3 id=some (.obj [.v (.int .i64 M.attr.cat), .s M.attr.name, .v (.bool M.attr.must), .v (.int .i64 M.op), .v (.int .i64 M.val.kind), .v (.int .i64 M.val.n), .s M.val.s] 48):=by rw [←eH,ag]
 clear eH hs hid;generalize hJ:Lib.join ((Z.take j).map cC) [44,32]=J at*;refine .via (fun ρ H=>H=H3∧lk ρ 3=some (.s (S2++(J++(if j=0 then [] else [44,32]))))∧lk ρ 9=some (.ptr id 0)∧lk ρ 10=some (aC t)∧lk ρ 11=some (.v (.int .i64 t.length))∧lk ρ 12=some (.v (.int .i64 i))∧lk ρ 21=some (aD Y)∧lk ρ 22=some (.v (.int .i64 Y.length))∧lk ρ 23=some (.v (.int .i64 k))∧lk ρ 34=some (bR Z)∧lk ρ 35=some (.v (.int .i64 Z.length))∧lk ρ 36=some (.v (.int .i64 j))) (fun K hK=> ?_) ?_
 ·cases d1:decide (0<(j:Int))
  ·have h0:j=0:=by have:=Gt d1; omega
   simp -implicitDefEqProofs only [go_sem,d1];refine hK _ _ ⟨rfl, ?_, ?_, ?_, ?_, ?_, ?_, ?_, ?_, ?_, ?_, ?_⟩
   ·rw [if_pos h0,List.append_nil]
    simp -implicitDefEqProofs only [go_sem,r3]
   all_goals simp -implicitDefEqProofs only [go_sem,r10,r11,r12,r21,r22,r23,r34,r35,r36,bR]
  ·have h0:j≠0:=by have:=Gs d1; omega
   have c2:(S2++J).length+(0+1+1)<lim:=by rw [Gu]; omega
   simp -implicitDefEqProofs only [go_sem,d1,r3,c2];refine hK _ _ ⟨rfl, ?_, ?_, ?_, ?_, ?_, ?_, ?_, ?_, ?_, ?_, ?_⟩
   ·rw [if_neg h0,←List.append_assoc]
    simp -implicitDefEqProofs only [go_sem]
   all_goals simp -implicitDefEqProofs only [go_sem,r10,r11,r12,r21,r22,r23,r34,r35,r36,bR]
 clear r3 r10 r11 r12 r21 r22 r23 r34 r35 r36;have hsl:(if j=0 then ([]:Txt) else [44,32]).length≤2:=by split<;>simp
 generalize (if j=0 then ([]:Txt) else [44,32])=sp at hst3 hsl⊢
 generalize hS3:S2++(J++sp)=S3;have hS3l:S3.length≤300000:=by rw [←hS3]; simp only [Gu]; omega
 rintro ρ H ⟨rfl,r3,r9,r10,r11,r12,r21,r22,r23,r34,r35,r36⟩
 obtain ⟨n,c,hn,hn3,hcn,hoc⟩:∃(n:Nat) (c:UInt8),M.op=n+1∧∃h:n<([61,60,62]:Txt).length,([61,60,62]:Txt)[n]=c∧opW M.op= [c]:=by
  rcases (by omega:M.op=1∨M.op=2∨M.op=3) with h|h|h
  ·exact ⟨0,61,by omega,by decide,rfl,by rw [h]; rfl⟩
  ·exact ⟨1,60,by omega,by decide,rfl,by rw [h]; rfl⟩
  ·exact ⟨2,62,by omega,by decide,rfl,by rw [h]; rfl⟩
 have wn:IntKind.i64.wrap (M.op - 1)=(n:Int):=by rw [aY _ (by omega)]; omega
 have ev:ie M.val=Bf.ck M.val:=by simp [ie,hmk.2.2.2]
 have hsv:=rI M.val hin H;rw [ev] at hsv;have hsa:=pJ M.attr hmk.1 H;simp only [dZ] at hsa;simp only [iL] at hsv;have em:cC M=cn M.attr++ [32]++ [c]++ [32]++Bf.ck M.val:=by unfold cC; rw [hoc]
 have f1:S3.length+(cn M.attr).length<lim:=by omega
 have f2:(S3++cn M.attr).length+(0+1)<lim:=by simp only [Gu]; omega
 have f3:(S3++cn M.attr++ [32]).length+(0+1)<lim:=by simp only [Gu,List.length_cons,List.length_nil]; omega
 have f4:(S3++cn M.attr++ [32]++ [c]).length+(0+1)<lim:=by simp only [Gu,List.length_cons,List.length_nil]; omega
 have f5:(S3++cn M.attr++ [32]++ [c]++ [32]).length+(Bf.ck M.val).length<lim:=by simp only [Gu,List.length_cons,List.length_nil]; omega
 simp -implicitDefEqProofs only [go_sem,r3];refine .quiet (by kernel_rfl) ?_
 simp -implicitDefEqProofs only [go_sem,r3,r9,hm3];refine ⟨_,hsa, ?_⟩;simp -implicitDefEqProofs only [go_sem,r3,r9,hm3,f1,f2,wn];refine .at n hn3 ?_;rw [hcn];simp -implicitDefEqProofs only [go_sem,bX];refine (ym _ [c] _ _).mpr ⟨by rfl, ?_⟩
 simp -implicitDefEqProofs only [go_sem,f3,f4,hm3,r9];refine ⟨_,hsv, ?_⟩;simp -implicitDefEqProofs only [go_sem,f5,r36,w3];have hml:=kD hmk.1 hv;have eJ:Lib.join ((Z.take (j+1)).map cC) [44,32]=J++sp++cC M:=hst3;refine ⟨_, ?_,hs',j+1,by omega,rfl, ?_, ?_, ?_, ?_, ?_, ?_, ?_, ?_, ?_, ?_, ?_⟩
 ·omega
 ·rw [eJ]
  simp only [Gu];omega
 ·rw [eJ,em,←List.append_assoc,←List.append_assoc S2,←hS3]
  simp -implicitDefEqProofs only [go_sem,List.append_assoc]
 all_goals simp -implicitDefEqProofs only [go_sem,r10,r11,r12,r21,r22,r23,r34,r35,aC,aD,bR]
theorem nC (Q:Quoted) (l:gH) (he:cy l=0) (hi:inT l) (h:Heap) (ht:iR h):aj Tryd.prog 43 [aC l] h fun r h' =>r= .s (dH l)∧h' =h:=by
 refine aj.body hU hm Tryd.func43 rfl (by kernel_rfl) 41 rfl [.tmp 2] rfl (Gp rfl) (fun hwf=> ?_)
 obtain ⟨hl8,hok⟩:=kQ he;have hlim:lim=9223372036854775808:=rfl;cases d0:((l.length:Int)==0)
 case true=>
  have e0:l= []:=by have:(l.length:Int)=0:=(by simpa using d0); exact List.length_eq_zero_iff.1 (by omega)
  simp -implicitDefEqProofs only [go_sem,aC,Gq,d0];exact .same (.refl _) ⟨by simp [dH,e0,au],rfl⟩
 have e0:l≠ []:=by rintro rfl; simp at d0
 simp -implicitDefEqProofs only [go_sem,aC,Gq,d0];refine .intro (fun m ρ h' =>∃(i:Nat) (y:AV),WrA 9 h h' y (((l.take i).map lP).map AV.s)∧i≤l.length∧m=l.length - i∧lk ρ 3=some y∧lk ρ 12=some (.sl (l.map aD) .no)∧lk ρ 13=some (.v (.int .i64 l.length))∧lk ρ 14=some (.v (.int .i64 i))) l.length ?_ ?_
 ·refine ⟨0,_, .nil (.refl _),by omega,rfl, ?_, ?_, ?_, ?_⟩<;>simp -implicitDefEqProofs only [go_sem]
 ·rintro m ρ h' ⟨i,y,hy,hil,rfl,r3,r12,r13,r14⟩
  simp -implicitDefEqProofs only [go_sem,r3,r12,r13,r14];refine .intro (fun e=> ?_) (fun e=> ?_)
  ·have hlt:i<l.length:=Gx e
   have w1:=Gw i (by omega)
   obtain ⟨x,ex⟩:∃x,l[i]=x:=⟨_,rfl⟩;have hax:eZ x=0:=by rw [←ex]; exact hok _ (Gv hlt)
   have hix:inY x:=by rw [←ex]; exact hi _ (Gv hlt)
   obtain ⟨_,hx8,hxo⟩:=j0 hax;simp -implicitDefEqProofs only [go_sem,r3,r12,r13,r14];refine .at i (by simpa using hlt) (by rw [Gr]; rfl) ?_
   simp -implicitDefEqProofs only [go_sem,r3,r12,r13,r14,Gr,ex,aD,Gq];refine .intro (fun m ρ h2=>∃(k:Nat) (z:AV),WrA 9 h' h2 z (((x.take k).map iH).map AV.s)∧k≤x.length∧m=x.length - k∧lk ρ 6=some z∧lk ρ 18=some (.sl (x.map bR) .no)∧lk ρ 19=some (.v (.int .i64 x.length))∧lk ρ 20=some (.v (.int .i64 k))∧
    lk ρ 3=some y∧lk ρ 12=some (.sl (l.map aD) .no)∧lk ρ 13=some (.v (.int .i64 l.length))∧lk ρ 14=some (.v (.int .i64 i))) x.length ?_ ?_
   ·refine ⟨0,_, .nil (.refl _),by omega,rfl, ?_, ?_, ?_, ?_, ?_, ?_, ?_, ?_⟩<;>simp -implicitDefEqProofs only [go_sem,r3,r12,r13,r14]
   ·rintro m ρ h2 ⟨k,z,hz,hkl,rfl,r6,r18,r19,r20,r3,r12,r13,r14⟩
    simp -implicitDefEqProofs only [go_sem,r3,r12,r13,r14,r6,r18,r19,r20];refine .intro (fun e2=> ?_) (fun e2=> ?_)
    ·have hkt:k<x.length:=Gx e2
     have w2:=Gw k (by omega)
     simp -implicitDefEqProofs only [go_sem,r3,r12,r13,r14,r6,r18,r19,r20];refine .at k (by simpa using hkt) (by rw [Gr]; rfl) ?_
     simp -implicitDefEqProofs only [go_sem,r3,r12,r13,r14,r6,r18,r19,r20,Gr,bR];have hal:=zj Q x[k] (hxo _ (Gv hkt)) (hix _ (Gv hkt)) h2 ((ht.sub hy.1).sub hz.1);simp only [bR] at hal;refine hal.pthen ?_;simp -implicitDefEqProofs only [go_sem,r3,r12,r13,r14,r6,r18,r19,r20];refine hz.app (zs:= [.s (iH x[k])]) (bB _) (bB [iH x[k]]) u9 (by rw [u9b]; decide) u9f u9n (fun k hk=>hk) (by rw [u9b]; simp; omega) fun z' h3 hz' => ?_
     simp -implicitDefEqProofs only [go_sem,r3,r12,r13,r14,r6,r18,r19,r20,w2];refine ⟨_, ?_,k+1,z', ?_,by omega,rfl, ?_, ?_, ?_, ?_, ?_, ?_, ?_, ?_⟩
     ·omega
     ·rw [List.take_succ_eq_append_getElem hkt,List.map_append,List.map_append]
      exact hz'
     all_goals simp -implicitDefEqProofs only [go_sem,r3,r12,r13,r14,r6,r18,r19,r20,w2]
    ·have hge:k=x.length:=by have:=Gt e2; omega
     subst hge;rw [List.take_length] at hz;have hj:=join_le (x.map iH) [32,111,114,32] 8 1792 (by simpa using hx8) fun s hs=>by
      obtain ⟨m,hm,rfl⟩:=List.mem_map.1 hs;exact s8 (hxo m hm) (hix m hm)
     simp only [List.length_cons,List.length_nil] at hj;have hy2:=hy.sub hz.1;simp -implicitDefEqProofs only [go_sem,r3,r12,r13,r14,r6,r18,r19,r20];refine (l6 z (x.map iH) [32,111,114,32] _ hz.seq (by omega) (by simp; omega)).pthen ?_
     have c1:0+1+(Lib.join (x.map iH) [32,111,114,32]).length<lim:=by omega
     have c2:([40]++Lib.join (x.map iH) [32,111,114,32]).length+(0+1)<lim:=by simp only [Gu,List.length_cons,List.length_nil]; omega
     simp -implicitDefEqProofs only [go_sem,r3,r12,r13,r14,r6,r18,r19,r20,c1,c2];refine ⟨by omega, ?_⟩
     refine hy2.app (zs:= [.s (40::(Lib.join (x.map iH) [32,111,114,32]++ [41]))]) (bB _) (bB [40::(Lib.join (x.map iH) [32,111,114,32]++ [41])]) u9 (by rw [u9b]; decide) u9f u9n (fun k hk=>hk) (by rw [u9b]; simp; omega) fun y' h3 hy' => ?_
     simp -implicitDefEqProofs only [go_sem,r3,r12,r13,r14,r6,r18,r19,r20,w1];refine ⟨_, ?_,i+1,y', ?_,by omega,rfl, ?_, ?_, ?_, ?_⟩
     ·omega
     ·rw [List.take_succ_eq_append_getElem hlt,List.map_append,List.map_append,ex]
      exact hy'
     all_goals simp -implicitDefEqProofs only [go_sem,r3,r12,r13,r14,r6,r18,r19,r20,w1]
  ·have hge:i=l.length:=by have:=Gt e; omega
   subst hge;rw [List.take_length] at hy;have hj:=join_le (l.map lP) [32,97,110,100,32] 8 14370 (by simpa using hl8) fun s hs=>by
    obtain ⟨m,hm,rfl⟩:=List.mem_map.1 hs;exact s9 (hok m hm) (hi m hm)
   simp only [List.length_cons,List.length_nil] at hj;simp -implicitDefEqProofs only [go_sem,r3,r12,r13,r14];refine (l6 y (l.map lP) [32,97,110,100,32] _ hy.seq (by omega) (by simp; omega)).pthen ?_
   have c1:0+1+1+1+1+1+1+(Lib.join (l.map lP) [32,97,110,100,32]).length<lim:=by omega
   simp -implicitDefEqProofs only [go_sem,c1];exact .mk _ (.refl _) hy.1 ⟨by simp [dH,e0,au],rfl⟩
theorem wT (n:Int) (h1:1≤n) (h4:n≤2):∃i:Nat,n=i+1∧∃hi:i< [[112,101,114,109,105,116],[100,101,110,121]].length,([[112,101,114,109,105,116],[100,101,110,121]]:List Txt)[i]'hi=onW n:=by
 rcases (by omega:n=1∨n=2) with rfl|rfl
 ·exact ⟨0,rfl,by decide,rfl⟩
 ·exact ⟨1,rfl,by decide,rfl⟩
theorem sZ (n:Int) (h1:1≤n) (h4:n≤4):∃i:Nat,n=i+1∧∃hi:i< [[108,111,103],[114,101,100,97,99,116],[114,101,118,105,101,119],[110,111,116,105,102,121]].length,([[108,111,103],[114,101,100,97,99,116],[114,101,118,105,101,119],[110,111,116,105,102,121]]:List Txt)[i]'hi=fC n:=by
 rcases (by omega:n=1∨n=2∨n=3∨n=4) with rfl|rfl|rfl|rfl
 ·exact ⟨0,rfl,by decide,rfl⟩
 ·exact ⟨1,rfl,by decide,rfl⟩
 ·exact ⟨2,rfl,by decide,rfl⟩
 ·exact ⟨3,rfl,by decide,rfl⟩
theorem qN {o:iF} (h:cL o=true):1≤o.on∧o.on≤2∧1≤o.kind∧o.kind≤4∧bu o.arg=true:=by
 simp only [cL,Bool.and_eq_true,decide_eq_true_eq] at h;exact ⟨h.1.1.1.1,h.1.1.1.2,h.1.1.2,h.1.2,h.2⟩
theorem jm (l:List iF) (he:bp l=0) (h:Heap):aj Tryd.prog 45 [ay l] h fun r h' =>r= .s (dI l)∧h' =h:=by
 refine aj.body hU hm Tryd.func45 rfl (by kernel_rfl) 31 rfl [.tmp 2] rfl (Gp rfl) (fun hwf=> ?_)
 obtain ⟨hl8,hok⟩:=jf he;have hlim:lim=9223372036854775808:=rfl;simp -implicitDefEqProofs only [go_sem,ay,Gq];refine .intro (fun m ρ h' =>Ab.Sub h h'∧∃(i:Nat),i≤l.length∧m=l.length - i∧lk ρ 3=some (.s (((l.take i).map kG).flatten))∧lk ρ 6=some (.sl (l.map aN) .no)∧lk ρ 7=some (.v (.int .i64 l.length))∧lk ρ 8=some (.v (.int .i64 i))) l.length ?_ ?_
 ·refine ⟨.refl _,0,by omega,rfl, ?_, ?_, ?_, ?_⟩<;>simp -implicitDefEqProofs only [go_sem]<;>rfl
 ·rintro m ρ h' ⟨hs,i,hil,rfl,r3,r6,r7,r8⟩
  simp -implicitDefEqProofs only [go_sem,r3,r6,r7,r8];refine .intro (fun e=> ?_) (fun e=> ?_)
  ·have hlt:i<l.length:=Gx e
   have w1:=Gw i (by omega)
   have hmk:=qN (hok l[i] (Gv hlt));have hle:=l8 (hok l[i] (Gv hlt));obtain ⟨j,hn,hj,hw⟩:=wT l[i].on hmk.1 hmk.2.1;obtain ⟨j2,hn2,hj2,hw2⟩:=sZ l[i].kind hmk.2.2.1 hmk.2.2.2.1;have hpre:=cB ((l.take i).map kG) 8 34 (by simp; omega) fun x hx=>by
    obtain ⟨o,ho,rfl⟩:=List.mem_map.1 hx;exact l8 (hok o (List.mem_of_mem_take ho))
   have hle2:=hle;unfold kG at hle;simp only [Gu,List.length_cons,List.length_nil] at hle;simp -implicitDefEqProofs only [go_sem,r3,r6,r7,r8];refine .at i (by simpa using hlt) (by rw [Gr]; rfl) ?_
   simp -implicitDefEqProofs only [go_sem,r3,r6,r7,r8,Gr,aN];intro id hid;simp -implicitDefEqProofs only [go_sem,r3,r6,r7,r8];refine .quiet (by kernel_rfl) ?_
   simp -implicitDefEqProofs only [go_sem,r3,r6,r7,r8];refine ⟨_,iE l[i].on j _ [[112,101,114,109,105,116],[100,101,110,121]] _ (.sl _ _) hn hj (by simp at hj; omega), ?_⟩
   rw [hw];have c1:0+1+1+1+1+(onW l[i].on).length<lim:=by omega
   have c2:([32,111,110,32]++onW l[i].on).length+(0+1)<lim:=by simp only [Gu,List.length_cons,List.length_nil]; omega
   simp -implicitDefEqProofs only [go_sem,r3,r6,r7,r8,c1,c2];refine ⟨by omega, ?_⟩
   refine ⟨_,iE l[i].kind j2 _ [[108,111,103],[114,101,100,97,99,116],[114,101,118,105,101,119],[110,111,116,105,102,121]] _ (.sl _ _) hn2 hj2 (by simp at hj2; omega), ?_⟩
   rw [hw2];simp -implicitDefEqProofs only [go_sem,r3,r6,r7,r8,w1];simp only [Gu,List.length_cons,List.length_nil];refine ⟨by omega,by omega,by omega,by omega, ?_⟩
   refine ⟨_, ?_,hs.new hid _,i+1,by omega,rfl, ?_, ?_, ?_, ?_⟩
   ·omega
   ·simp -implicitDefEqProofs only [go_sem]
    rw [List.take_succ_eq_append_getElem hlt,List.map_append,List.flatten_append];simp [kG]
   all_goals simp -implicitDefEqProofs only [go_sem,r3,r6,r7,r8,w1]
  ·have hge:i=l.length:=by have:=Gt e; omega
   subst hge;rw [List.take_length] at r3;simp -implicitDefEqProofs only [go_sem,r3,r6,r7,r8];exact .mk _ (.refl _) hs ⟨rfl,rfl⟩
theorem wF {α:Type} (l:List α) (h:1≤l.length) (x:α):l.set (l.length - 1) x=l.take (l.length - 1)++ [x]:=by
 rw [List.set_eq_take_append_cons_drop,if_pos (by omega),show l.length - 1+1=l.length by omega,List.drop_length]
theorem mF {α:Type} (l:List α) (h:1≤l.length):l.drop (l.length - 1)= [l[l.length - 1]]:=by
 rw [List.drop_eq_getElem_cons (by omega),show l.length - 1+1=l.length by omega,List.drop_length]
theorem rX {α:Type} (l:List α) (h:2≤l.length):l.drop (l.length - 2)= [l[l.length - 2],l[l.length - 1]]:=by
 rw [List.drop_eq_getElem_cons (by omega),show l.length - 2+1=l.length - 1 by omega,mF l (by omega)]
set_option maxHeartbeats 1000000 in
theorem tO (l:List bf) (e0:l≠ []) (e1:bF l=0) (hi:inL l) (h:Heap):aj Tryd.prog 7 [aH l] h fun r h' =>r= .s (gG l)∧h' =h:=by
 refine aj.body hU hm Tryd.func7 rfl (by kernel_rfl) 94 rfl [.tmp 2] rfl (Gp rfl) (fun hwf=> ?_)
 have hlim:lim=9223372036854775808:=rfl;obtain ⟨hl32,hfin⟩:=gp e1 e0;simp -implicitDefEqProofs only [go_sem,aH,Gq];refine .intro (fun m ρ h' =>∃(i:Nat) (y:AV),WrA 9 h h' y (((l.take i).foldl Bf.stepT []).map AV.s)∧i≤l.length∧m=l.length - i∧lk ρ 3=some y∧lk ρ 7=some (.sl (l.map aW) .no)∧lk ρ 8=some (.v (.int .i64 l.length))∧lk ρ 9=some (.v (.int .i64 i))) l.length ?_ ?_
 ·refine ⟨0,_, .nil (.refl _),by omega,rfl, ?_, ?_, ?_, ?_⟩<;>simp -implicitDefEqProofs only [go_sem]
 rintro m ρ h' ⟨i,y,hy,hil,rfl,r3,r7,r8,r9⟩
 simp -implicitDefEqProofs only [go_sem,r8,r9];refine .intro (fun e=> ?_) (fun e=> ?_)
 rotate_left
 ·have hge:i=l.length:=by have:=Gt e; omega
  subst hge;rw [List.take_length] at hy;have hone:=(dO l [] [false] [] hfin hi rfl).1;obtain ⟨s,es⟩:=List.length_eq_one_iff.1 hone;rw [es] at hy;simp -implicitDefEqProofs only [go_sem,r3];refine hy.idx (bB [s]) 0 rfl (by simp) u9 u9a fun p hp=> ?_
  simp -implicitDefEqProofs only [go_sem,r3,hp _,List.map_cons,List.map_nil,List.getElem_cons_zero];exact .mk _ (.refl _) hy.1 ⟨by simp [gG,es,au],rfl⟩
 have hlt:i<l.length:=Gx e;have w1:=Gw i (by omega)
 obtain ⟨bs,hbs⟩:=gm e1 i;obtain ⟨bs',hbs'⟩:=gm e1 (i+1);have hstep:bT bs l[i]=some bs' :=by
  rw [cO [] _ i,List.take_take,Nat.min_eq_left (by omega),hbs,List.take_succ_eq_append_getElem hlt,List.drop_append_of_le_length (by simp; omega),List.drop_of_length_le (by simp; omega)] at hbs'
  simp only [List.nil_append,bn] at hbs';cases hs:bT bs l[i] with
  |none=>rw [hs] at hbs'; cases hbs'
  |some b2=>rw [hs] at hbs'; exact hbs'
 obtain ⟨st,est⟩:∃st,(l.take i).foldl Bf.stepT []=st:=⟨_,rfl⟩;obtain ⟨g1,g2⟩:=dO (l.take i) [] bs [] hbs (fun n hn=>hi n (List.mem_of_mem_take hn)) rfl
 rw [est] at g1 g2 hy;have g3:tot st≤6240:=by
  have:(l.take i).length≤32:=by simp; omega
  have:tot ([]:List Txt)=0:=rfl;omega
 have hnext:∀z,(l.take (i+1)).foldl Bf.stepT []=z↔Bf.stepT st l[i]=z:=fun z=>by
  rw [List.take_succ_eq_append_getElem hlt,List.foldl_append,est]; rfl
 have hin:=hi l[i] (Gv hlt);have hstl:st.length≤6240:=by unfold tot at g3; omega
 simp -implicitDefEqProofs only [go_sem,r7,r9];refine .at i (by simpa using hlt) (by rw [Gr]; rfl) ?_
 generalize hN:l[i]=N at*;simp -implicitDefEqProofs only [go_sem,r3,r7,Gr,hN,aW];intro id hid;have hyb:=hy.sub (Sub.ah (k:=some (.obj [.v (.int .i64 N.op), .v (.int .i64 N.val.kind), .v (.int .i64 N.val.n), .s N.val.s, .v (.int .i64 N.attr.cat), .s N.attr.name, .v (.bool N.attr.must)] 52)) hid);simp -implicitDefEqProofs only [go_sem,r3,hyb.len,Gq];generalize eH:upd h' id _=H at hyb⊢;have hcid:H id=some (.obj [.v (.int .i64 N.op), .v (.int .i64 N.val.kind), .v (.int .i64 N.val.n), .s N.val.s, .v (.int .i64 N.attr.cat), .s N.attr.name, .v (.bool N.attr.must)] 52):=by rw [←eH,ag]
 have hid0:h id=none:=hy.1.none hid;clear eH hy;have hv1:=fun hh=>rI N.val hin hh
 have hv2:=fun d hh=>pJ N.attr d hh
 simp only [iL,ie] at hv1;simp only [dZ] at hv2;rcases gz hstep with ⟨k1,h1,_⟩|⟨k2,h1,_⟩|⟨k3,k13,h1,_⟩
 ·have t1:(N.op==1)=true:=by simp [k1]
  rw [if_pos h1] at hv1;simp -implicitDefEqProofs only [go_sem,r3,hcid,t1];refine (hv1 H).pthen ?_;simp -implicitDefEqProofs only [go_sem,r3];refine hyb.app (zs:= [.s (Bf.ck N.val)]) (bB _) (bB [Bf.ck N.val]) u9 (by rw [u9b]; decide) u9f u9n (fun k hk=>hk) (by rw [u9b]; simp; omega) fun z' h2 hz' => ?_
  simp -implicitDefEqProofs only [go_sem,r9,w1];refine ⟨_, ?_,i+1,z', ?_,by omega,rfl, ?_, ?_, ?_, ?_⟩
  ·omega
  ·rw [(hnext _).2 rfl,Bf.stepT,if_pos k1,List.map_append]
   exact hz'
  all_goals simp -implicitDefEqProofs only [go_sem,r7,r8]
 ·have t1:(N.op==1)=false:=by simp [k2]
  have t2:(N.op==2)=true:=by simp [k2]
  simp -implicitDefEqProofs only [go_sem,r3,hcid,t1,t2];refine (hv2 h1 H).pthen ?_;simp -implicitDefEqProofs only [go_sem,r3];refine hyb.app (zs:= [.s (cn N.attr)]) (bB _) (bB [cn N.attr]) u9 (by rw [u9b]; decide) u9f u9n (fun k hk=>hk) (by rw [u9b]; simp; omega) fun z' h2 hz' => ?_
  simp -implicitDefEqProofs only [go_sem,r9,w1];refine ⟨_, ?_,i+1,z', ?_,by omega,rfl, ?_, ?_, ?_, ?_⟩
  ·omega
  ·rw [(hnext _).2 rfl,Bf.stepT,if_neg (by omega),if_pos k2,List.map_append]
   exact hz'
  all_goals simp -implicitDefEqProofs only [go_sem,r7,r8]
 have t1:(N.op==1)=false:=by simp; omega
 have t2:(N.op==2)=false:=by simp; omega
 have hle:arity N.op≤st.length:=by rw [g1]; exact h1
 have hfl:=o4 N.op;have hone:∀x∈st,x.length≤6240:=fun x hx=>by have:=tF hx; omega
 obtain ⟨hsH,⟨ey,enil⟩|⟨aid,cs,ha0,rfl,hcs,hcl,hct⟩⟩:=hyb
 ·exfalso
  have:=congrArg List.length ey;simp only [Gq,List.length_nil] at this;have ha:1≤arity N.op:=by unfold arity; split<;>omega
  omega
 have hnm:st.length≤cs.length:=by simpa using hcl
 have hct' :=hct;simp only [Gq] at hct r3;have hat:∀j (hj:j<st.length),cs[j]? =some (.s st[j]):=fun j hj=>by
  have h9:=congrArg (fun x=>x[j]?) hct
  simp only [List.getElem?_take,List.getElem?_map] at h9;rw [if_pos hj,List.getElem?_eq_getElem hj] at h9;exact h9
 by_cases hu:N.op=3∨N.op=4∨N.op=11
 ·have ha:arity N.op=1:=by unfold arity; rw [if_pos hu]
  have hk1:1≤st.length:=by omega
  have wk:IntKind.i64.wrap ((st.length:Int) - 1)=((st.length - 1:Nat):Int):=by rw [aY _ (by omega)]; omega
  have hlast:=hone _ (Gv (show st.length - 1<st.length by omega))
  have b1:(0:Int)≤((st.length - 1:Nat):Int):=by omega
  have b2:((st.length - 1:Nat):Int)<(st.length:Int):=by omega
  have f1:(0+1)+(fnW N.op).length<lim:=by omega
  have f2:([40]++fnW N.op).length+(0+1)<lim:=by simp only [Gu,List.length_cons,List.length_nil]; omega
  have f3:([40]++fnW N.op++ [32]).length+st[st.length - 1].length<lim:=by simp only [Gu,List.length_cons,List.length_nil]; omega
  have f4:([40]++fnW N.op++ [32]++st[st.length - 1]).length+(0+1)<lim:=by simp only [Gu,List.length_cons,List.length_nil]; omega
  cases t3:(N.op==3)<;>cases t4:(N.op==4)<;>cases t11:(N.op==11)
  case false.false.false=>exfalso; simp only [beq_eq_false_iff_ne] at t3 t4 t11; omega
  all_goals
   simp -implicitDefEqProofs only [go_sem,r3,hcid,t1,t2,t3,t4,t11];refine .stage H [0,1,2,3,4,8,9,10,11,12,5,6,7,13,14,15] [16] (.refl _) (by kernel_rfl) ?_
   simp -implicitDefEqProofs only [go_sem,r3,hcid,wk,b1,b2,and_self,true_and,hcs,Nat.mul_one,hat (st.length - 1) (by omega)]
   refine (Ck N.op H).pthen ?_;refine ⟨.refl _, ?_⟩;simp -implicitDefEqProofs only [go_sem,r3,hcid,wk,b1,b2,and_self,true_and,hcs,Nat.mul_one,hat (st.length - 1) (by omega),f1,f2,f3,f4]
   refine ⟨by omega,by simp only [Gu,List.length_cons,List.length_nil]; omega,by simp only [Gu,List.length_cons,List.length_nil]; omega,mZ,(fun _ _ e=>by cases e), ?_⟩
   simp -implicitDefEqProofs only [go_sem,hcs];refine ⟨by omega,(fun _ _ e=>by cases e), ?_⟩
   have hw2:=WrA.Cl (c:= .s (40::(fnW N.op++ [32]++st[st.length - 1]++ [41]))) hsH ha0 hcs hcl hct' (j:=st.length - 1) (by simp; omega)
   rw [Gq] at hw2;have eS:(st.map AV.s).set (st.length - 1) (.s (40::(fnW N.op++ [32]++st[st.length - 1]++ [41])))=(Bf.stepT st N).map AV.s:=by
    rw [Bf.stepT,if_neg (by omega),if_neg (by omega),ha,mF st hk1,Lib.join_one,List.map_append,List.map_take]
    have h9:=wF (st.map AV.s) (by simpa using hk1) (.s (40::(fnW N.op++ [32]++st[st.length - 1]++ [41])))
    rw [Gq] at h9;rw [h9];simp
   rw [eS] at hw2;simp -implicitDefEqProofs only [go_sem,r9,w1];refine ⟨_, ?_,i+1, .oa aid 0 st.length,by rw [(hnext _).2 rfl]; exact hw2,by omega,rfl, ?_, ?_, ?_, ?_⟩
   ·omega
   all_goals simp -implicitDefEqProofs only [go_sem,r3,r7,r8]
 have ha:arity N.op=2:=by unfold arity; rw [if_neg hu]
 have t3:(N.op==3)=false:=by simp; omega
 have t4:(N.op==4)=false:=by simp; omega
 have t11:(N.op==11)=false:=by simp; omega
 have wk:IntKind.i64.wrap ((st.length:Int) - 1)=((st.length - 1:Nat):Int):=by rw [aY _ (by omega)]; omega
 have wk2:IntKind.i64.wrap ((st.length:Int) - 2)=((st.length - 2:Nat):Int):=by rw [aY _ (by omega)]; omega
 have b1:(0:Int)≤((st.length - 1:Nat):Int):=by omega
 have b2:((st.length - 1:Nat):Int)<(st.length:Int):=by omega
 have b3:(0:Int)≤((st.length - 2:Nat):Int):=by omega
 have b4:((st.length - 2:Nat):Int)<(st.length:Int):=by omega
 have m1:=hone _ (Gv (show st.length - 1<st.length by omega))
 have m2:=hone _ (Gv (show st.length - 2<st.length by omega))
 have hyb:WrA 9 h H (.oa aid 0 st.length) (st.map .s):=⟨hsH, .inr ⟨aid,cs,ha0,by simp,hcs,hcl,by rw [Gq]; exact hct⟩⟩
 simp -implicitDefEqProofs only [go_sem,r3,hcid,t1,t2,t3,t4,t11];refine .stage H [0,1,2,3,4,5,9,10,11,12,13,16,17,18,19,20,6,7,8,14,15,21,22,23] [24,25] (.refl _) (by kernel_rfl) ?_
 have b5:((st.length - 2:Nat):Int)≤(st.length:Int):=by omega
 simp -implicitDefEqProofs only [go_sem,r3,hcid,wk,wk2,b1,b2,b3,b4,b5,and_self,true_and,implies_true,hcs,Nat.mul_one,hat (st.length - 1) (by omega),hat (st.length - 2) (by omega)]
 refine ⟨by omega, ?_⟩
 refine (Ck N.op H).pthen ?_;refine ⟨.refl _, ?_⟩;simp -implicitDefEqProofs only [go_sem];refine ⟨by omega,by omega,by simp only [Gu,List.length_cons,List.length_nil]; omega,by simp only [Gu,List.length_cons,List.length_nil]; omega,by simp only [Gu,List.length_cons,List.length_nil]; omega,by simp only [Gu,List.length_cons,List.length_nil]; omega,mZ,(fun _ _ e=>by cases e), ?_⟩
 simp -implicitDefEqProofs only [go_sem];have hk2:2≤st.length:=by omega
 have hz2:WrA 9 h H (.oa aid 0 (st.length - 2 - 0)) ((st.take (st.length - 2)).map .s):=⟨hsH, .inr ⟨aid,cs,ha0,by simp,hcs,by simp; omega,by
  have h9:=congrArg (List.take (st.length - 2)) hct;rw [List.take_take,Nat.min_eq_left (by omega),←List.map_take] at h9
  rw [Gq,List.length_take,Nat.min_eq_left (by omega)]
  exact h9⟩⟩
 refine hz2.app (zs:= [.s (40::(fnW N.op++ [32]++st[st.length - 2]++ [32]++st[st.length - 1]++ [41]))]) (bB _) (bB [40::(fnW N.op++ [32]++st[st.length - 2]++ [32]++st[st.length - 1]++ [41])]) u9 (by rw [u9b]; decide) u9f u9n (fun k hk=>hk) (by rw [u9b]; simp; omega) fun z' h2 hz' => ?_
 have eS:(st.take (st.length - 2)).map AV.s++ [.s (40::(fnW N.op++ [32]++st[st.length - 2]++ [32]++st[st.length - 1]++ [41]))]=(Bf.stepT st N).map AV.s:=by
  rw [Bf.stepT,if_neg (by omega),if_neg (by omega),ha,rX st hk2,Lib.join_cons,List.map_append]
  simp [Lib.joinTail]
 rw [eS] at hz';refine ⟨(fun _ _ e=>by cases e), ?_⟩
 simp -implicitDefEqProofs only [go_sem,r9,w1];refine ⟨_, ?_,i+1,z',by rw [(hnext _).2 rfl]; exact hz',by omega,rfl, ?_, ?_, ?_, ?_⟩
 ·omega
 all_goals simp -implicitDefEqProofs only [go_sem,r7,r8]
def l5:List Txt:= [[111,110,101],[115,105,122,101],[104,97,115],[101,113],[108,101,115,115],[97,100,100],[115,117,98],[109,117,108],[110,111,116],[97,110,100],[111,114]]
theorem wS (n:Int) (h1:3≤n) (h4:n≤13):∃i:Nat,n - 2=i+1∧∃hi:i<l5.length,l5[i]'hi=fnW n:=by
 rcases (by omega:n=3∨n=4∨n=5∨n=6∨n=7∨n=8∨n=9∨n=10∨n=11∨n=12∨n=13) with rfl|rfl|rfl|rfl|rfl|rfl|rfl|rfl|rfl|rfl|rfl
 ·exact ⟨0,rfl,by decide,rfl⟩
 ·exact ⟨1,rfl,by decide,rfl⟩
 ·exact ⟨2,rfl,by decide,rfl⟩
 ·exact ⟨3,rfl,by decide,rfl⟩
 ·exact ⟨4,rfl,by decide,rfl⟩
 ·exact ⟨5,rfl,by decide,rfl⟩
 ·exact ⟨6,rfl,by decide,rfl⟩
 ·exact ⟨7,rfl,by decide,rfl⟩
 ·exact ⟨8,rfl,by decide,rfl⟩
 ·exact ⟨9,rfl,by decide,rfl⟩
 ·exact ⟨10,rfl,by decide,rfl⟩
theorem qq (op:Int) (h1:3≤op) (h2:op≤13) (h:Heap):aj Tryd.prog 29 [.v (.int .i64 op)] h fun r h' =>r= .tup [.s (fnW op), .v (.int .i64 (arity op:Nat))]∧h' =h:=by
 refine aj.body hU hm Tryd.func29 rfl (by kernel_rfl) 22 rfl [.tmp 2, .tmp 3] rfl (Gp rfl) (fun hwf=> ?_)
 obtain ⟨i,hn,hi,hw⟩:=wS op h1 h2;have w1:IntKind.i64.wrap (op - 3)=op - 3:=aY _ (by omega)
 have w2:IntKind.i64.wrap (op - 3+1)=op - 2:=by rw [aY _ (by omega)]; omega
 simp -implicitDefEqProofs only [go_sem,w1,w2];have hwd:=iE (op - 2) i (.sl [.s [111,110,101], .s [115,105,122,101], .s [104,97,115], .s [101,113], .s [108,101,115,115], .s [97,100,100], .s [115,117,98], .s [109,117,108], .s [110,111,116], .s [97,110,100], .s [111,114]] .full) l5 h (.sl _ _) hn hi (by simp [l5] at hi; omega)
 rw [hw] at hwd;refine hwd.pthen ?_;cases k3:(op==3)<;>cases k4:(op==4)<;>cases k11:(op==11)
 all_goals
  simp -implicitDefEqProofs only [go_sem,k3,k4,k11];refine .same (.refl _) ⟨?_,rfl⟩;simp only [beq_iff_eq,beq_eq_false_iff_ne] at k3 k4 k11;simp [arity,k3,k4,k11,au]
def gF (l:List bf):Txt:=if l= []∨bF l≠0 then [] else gG l
theorem rf (Q:Quoted) (l:List bf) (hi:inL l) (h:Heap) (ht:iR h):aj Tryd.prog 13 [aH l] h fun r h' =>r= .s (gF l)∧h' =h:=by
 refine aj.body hU hm Tryd.func13 rfl (by kernel_rfl) 71 rfl [.tmp 2] rfl (Gp rfl) (fun hwf=> ?_)
 have hlim:lim=9223372036854775808:=rfl;cases d0:((l.length:Int)==0)
 case true=>
  have e0:l= []:=by have:(l.length:Int)=0:=(by simpa using d0); exact List.length_eq_zero_iff.1 (by omega)
  simp -implicitDefEqProofs only [go_sem,aH,Gq,d0];exact .same (.refl _) ⟨by simp [gF,e0,au],rfl⟩
 have e0:l≠ []:=by rintro rfl; simp at d0
 simp -implicitDefEqProofs only [go_sem,aH,Gq,d0];have hex:=tr l h;simp only [aH] at hex;refine hex.pthen ?_;cases d1:(bF l !=0)
 case true=>
  have e1:bF l≠0:=by simpa using d1
  simp -implicitDefEqProofs only [go_sem,aH,Gq,d0,d1];exact .same (.refl _) ⟨by simp [gF,e1,au],rfl⟩
 have e1:bF l=0:=by simpa using d1
 obtain ⟨hl32,hfin⟩:=gp e1 e0;simp -implicitDefEqProofs only [go_sem,aH,Gq,d0,d1];refine .intro (fun m ρ h' =>∃(i:Nat) (y:AV),WrA 9 h h' y (((l.take i).foldl Bf.stepT []).map AV.s)∧i≤l.length∧m=l.length - i∧lk ρ 3=some y∧lk ρ 18=some (.sl (l.map aW) .no)∧lk ρ 19=some (.v (.int .i64 l.length))∧lk ρ 20=some (.v (.int .i64 i))) l.length ?_ ?_
 ·refine ⟨0,_, .nil (.refl _),by omega,rfl, ?_, ?_, ?_, ?_⟩<;>simp -implicitDefEqProofs only [go_sem]
 ·rintro m ρ h' ⟨i,y,hy,hil,rfl,r3,r18,r19,r20⟩
  simp -implicitDefEqProofs only [go_sem,r3,r18,r19,r20];refine .intro (fun e=> ?_) (fun e=> ?_)
  ·have hlt:i<l.length:=Gx e
   have w1:=Gw i (by omega)
   obtain ⟨bs,hbs⟩:=gm e1 i;obtain ⟨bs',hbs'⟩:=gm e1 (i+1);have hstep:bT bs l[i]=some bs' :=by
    rw [cO [] _ i,List.take_take,Nat.min_eq_left (by omega),hbs,List.take_succ_eq_append_getElem hlt,List.drop_append_of_le_length (by simp; omega),List.drop_of_length_le (by simp; omega)] at hbs'
    simp only [List.nil_append,bn] at hbs';cases hs:bT bs l[i] with
    |none=>rw [hs] at hbs'; cases hbs'
    |some b2=>rw [hs] at hbs'; exact hbs'
   obtain ⟨st,est⟩:∃st,(l.take i).foldl Bf.stepT []=st:=⟨_,rfl⟩;obtain ⟨g1,g2⟩:=dO (l.take i) [] bs [] hbs (fun n hn=>hi n (List.mem_of_mem_take hn)) rfl
   rw [est] at g1 g2 hy;have g3:tot st≤6240:=by
    have:(l.take i).length≤32:=by simp; omega
    have:tot ([]:List Txt)=0:=rfl;omega
   have hnext:∀z,(l.take (i+1)).foldl Bf.stepT []=z↔Bf.stepT st l[i]=z:=fun z=>by
    rw [List.take_succ_eq_append_getElem hlt,List.foldl_append,est]; rfl
   have hin:=hi l[i] (Gv hlt);have hstl:st.length≤6240:=by unfold tot at g3; omega
   simp -implicitDefEqProofs only [go_sem,r3,r18,r19,r20];refine .at i (by simpa using hlt) (by rw [Gr]; rfl) ?_
   simp -implicitDefEqProofs only [go_sem,r3,r18,r19,r20,Gr,aW];intro id hid;have hyb:=hy.sub (Sub.ah (k:=some (.obj [.v (.int .i64 l[i].op), .v (.int .i64 l[i].val.kind), .v (.int .i64 l[i].val.n), .s l[i].val.s, .v (.int .i64 l[i].attr.cat), .s l[i].attr.name, .v (.bool l[i].attr.must)] 52)) hid);rcases gz hstep with ⟨k1,h1,_⟩|⟨k2,h1,_⟩|⟨k3,k13,h1,_⟩
   ·have t1:(l[i].op==1)=true:=by simp [k1]
    simp -implicitDefEqProofs only [go_sem,r3,r18,r19,r20,t1];have hv:=rR Q l[i].val hin _ (ht.sub hyb.1);simp only [iL,ie,h1,if_true] at hv;refine hv.pthen ?_;simp -implicitDefEqProofs only [go_sem,r3,r18,r19,r20,t1];refine hyb.app (zs:= [.s (Bf.ck l[i].val)]) (bB _) (bB [Bf.ck l[i].val]) u9 (by rw [u9b]; decide) u9f u9n (fun k hk=>hk) (by rw [u9b]; simp; omega) fun z' h2 hz' => ?_
    simp -implicitDefEqProofs only [go_sem,r3,r18,r19,r20,t1,w1];refine ⟨_, ?_,i+1,z', ?_,by omega,rfl, ?_, ?_, ?_, ?_⟩
    ·omega
    ·rw [(hnext _).2 rfl,Bf.stepT,if_pos k1,List.map_append]
     exact hz'
    all_goals simp -implicitDefEqProofs only [go_sem,r3,r18,r19,r20,w1]
   ·have t1:(l[i].op==1)=false:=by simp [k2]
    have t2:(l[i].op==2)=true:=by simp [k2]
    simp -implicitDefEqProofs only [go_sem,r3,r18,r19,r20,t1,t2];have hv:=nt l[i].attr (upd h' id (some (.obj [.v (.int .i64 l[i].op), .v (.int .i64 l[i].val.kind), .v (.int .i64 l[i].val.n), .s l[i].val.s, .v (.int .i64 l[i].attr.cat), .s l[i].attr.name, .v (.bool l[i].attr.must)] 52)));simp only [dZ,gM,h1,if_true] at hv;refine hv.pthen ?_;simp -implicitDefEqProofs only [go_sem,r3,r18,r19,r20,t1,t2];refine hyb.app (zs:= [.s (cn l[i].attr)]) (bB _) (bB [cn l[i].attr]) u9 (by rw [u9b]; decide) u9f u9n (fun k hk=>hk) (by rw [u9b]; simp; omega) fun z' h2 hz' => ?_
    simp -implicitDefEqProofs only [go_sem,r3,r18,r19,r20,t1,t2,w1];refine ⟨_, ?_,i+1,z', ?_,by omega,rfl, ?_, ?_, ?_, ?_⟩
    ·omega
    ·rw [(hnext _).2 rfl,Bf.stepT,if_neg (by omega),if_pos k2,List.map_append]
     exact hz'
    all_goals simp -implicitDefEqProofs only [go_sem,r3,r18,r19,r20,w1]
   ·have t1:(l[i].op==1)=false:=by simp; omega
    have t2:(l[i].op==2)=false:=by simp; omega
    have hle:arity l[i].op≤st.length:=by rw [g1]; exact h1
    have w2:IntKind.i64.wrap ((st.length:Int) - ((arity l[i].op:Nat):Int))=((st.length - arity l[i].op:Nat):Int):=by rw [aY _ (by omega)]; omega
    have hft:=vJ st (st.length - arity l[i].op) (fnW l[i].op) (o4 _);have hdl:(Lib.join (st.drop (st.length - arity l[i].op)) [32]).length≤20000:=by
     rw [fo,jU] at hft;simp only [Gu,List.length_cons,List.length_nil] at hft;omega
    have hfl:=o4 l[i].op;simp -implicitDefEqProofs only [go_sem,r3,r18,r19,r20,t1,t2];refine (qq l[i].op k3 k13 _).pthen ?_;simp -implicitDefEqProofs only [go_sem,r3,r18,r19,r20,t1,t2,hyb.len,Gq,w2];refine ⟨by omega,by omega, ?_⟩
    refine hyb.from (x:= .i64) (bB _) (st.length - arity l[i].op) (by simp -implicitDefEqProofs only [go_sem]) rfl (by simp) u9 fun z hz=> ?_
    rw [←List.map_drop] at hz;simp -implicitDefEqProofs only [go_sem,r3,r18,r19,r20,t1,t2];refine (l6 z (st.drop (st.length - arity l[i].op)) [32] _ hz (by omega) (by simp; omega)).pthen ?_
    simp -implicitDefEqProofs only [go_sem,r3,r18,r19,r20,t1,t2];refine ⟨by simp only [Gu,List.length_cons,List.length_nil]; omega,by simp only [Gu,List.length_cons,List.length_nil]; omega, ?_⟩
    refine hyb.cut (x:= .i64) (st.length - arity l[i].op) (by simp -implicitDefEqProofs only [go_sem]) rfl (by simp) u9 fun z2 hz2=> ?_
    rw [←List.map_take] at hz2;simp -implicitDefEqProofs only [go_sem,r3,r18,r19,r20,t1,t2];refine hz2.app (zs:= [.s (40::(fnW l[i].op++ [32]++Lib.join (st.drop (st.length - arity l[i].op)) [32]++ [41]))]) (bB _) (bB [40::(fnW l[i].op++ [32]++Lib.join (st.drop (st.length - arity l[i].op)) [32]++ [41])]) u9 (by rw [u9b]; decide) u9f u9n (fun k hk=>hk) (by rw [u9b]; simp; omega) fun z' h2 hz' => ?_
    simp -implicitDefEqProofs only [go_sem,r3,r18,r19,r20,t1,t2,w1];refine ⟨_, ?_,i+1,z', ?_,by omega,rfl, ?_, ?_, ?_, ?_⟩
    ·omega
    ·rw [(hnext _).2 rfl,Bf.stepT,if_neg (by omega),if_neg (by omega),List.map_append]
     exact hz'
    all_goals simp -implicitDefEqProofs only [go_sem,r3,r18,r19,r20,w1]
  ·have hge:i=l.length:=by have:=Gt e; omega
   subst hge;rw [List.take_length] at hy;have hone:=(dO l [] [false] [] hfin hi rfl).1;obtain ⟨s,es⟩:=List.length_eq_one_iff.1 hone;rw [es] at hy;simp -implicitDefEqProofs only [go_sem,r3,r18,r19,r20];refine hy.idx (bB [s]) 0 rfl (by simp) u9 u9a fun p hp=> ?_
   simp -implicitDefEqProofs only [go_sem,r3,hp _,List.map_cons,List.map_nil,List.getElem_cons_zero];exact .mk _ (.refl _) hy.1 ⟨by simp [gF,e0,e1,gG,es,au],rfl⟩
theorem rD (Q:Quoted) (r:cJ) (he:qX r) (hi:inR r) (h:Heap) (ht:iR h):aj Tryd.prog 44 [aB r] h fun x h' =>x= .s (cZ r)∧h' =h:=by
 refine aj.body hU hm Tryd.func44 rfl (by kernel_rfl) 30 rfl [.tmp 2] rfl (Gp rfl) (fun hwf=> ?_)
 have hlim:lim=9223372036854775808:=rfl;have b1:=cw he.1;have b2:=iC he.2.1 hi.1;have b3:=mJ he.2.2.1 hi.2;have b4:=fS he.2.2.2;simp -implicitDefEqProofs only [go_sem,aB,aC,aH,ay];intro id hid;have ht2:iR (upd h id (some (.obj [.s r.id, .v (.bool r.deny), .sl (r.tgt.map aD) .no, .sl (r.cond.map aW) .no, .sl (r.obls.map aN) .no] 54))):=ht.sub (.ah hid);have f1:=nC Q r.tgt he.2.1 hi.1 _ ht2;have f2:=rf Q r.cond hi.2 _ ht2;have f3:=jm r.obls he.2.2.2 (upd h id (some (.obj [.s r.id, .v (.bool r.deny), .sl (r.tgt.map aD) .no, .sl (r.cond.map aW) .no, .sl (r.obls.map aN) .no] 54)));simp only [aC] at f1;simp only [aH] at f2;simp only [ay] at f3;cases d2:decide (0<(r.cond.length:Int))
 ·have e2:r.cond= []:=by have:=Gt d2; exact List.length_eq_zero_iff.1 (by omega)
  cases d1:r.deny
  all_goals
   rw [d1] at f1 f3;simp -implicitDefEqProofs only [go_sem,d1];refine .quiet (by kernel_rfl) ?_
   simp -implicitDefEqProofs only [go_sem];refine ⟨_,f1, ?_⟩;simp -implicitDefEqProofs only [go_sem,Gq,d2];refine ⟨by omega,by simp only [Gu,List.length_cons,List.length_nil]; omega, ?_⟩
   refine f3.pthen ?_;simp -implicitDefEqProofs only [go_sem];refine ⟨by simp only [Gu,List.length_cons,List.length_nil]; omega,by simp only [Gu,List.length_cons,List.length_nil]; omega, ?_⟩
   exact .mk _ (.refl _) (.ah hid) ⟨by simp [cZ,d1,e2,au],rfl⟩
 ·have e2:r.cond≠ []:=by rintro e; rw [e] at d2; simp at d2
  have f4:gF r.cond=gG r.cond:=by simp [gF,e2,he.2.2.1]
  rw [f4] at f2;cases d1:r.deny
  all_goals
   rw [d1] at f1 f2 f3;simp -implicitDefEqProofs only [go_sem,d1];refine .quiet (by kernel_rfl) ?_
   simp -implicitDefEqProofs only [go_sem];refine ⟨_,f1, ?_⟩;simp -implicitDefEqProofs only [go_sem,Gq,d2];refine ⟨by omega,by simp only [Gu,List.length_cons,List.length_nil]; omega, ?_⟩
   refine f2.pthen ?_;simp -implicitDefEqProofs only [go_sem];refine ⟨by omega,by simp only [Gu,List.length_cons,List.length_nil]; omega, ?_⟩
   refine f3.pthen ?_;simp -implicitDefEqProofs only [go_sem];refine ⟨by simp only [Gu,List.length_cons,List.length_nil]; omega,by simp only [Gu,List.length_cons,List.length_nil]; omega, ?_⟩
   exact .mk _ (.refl _) (.ah hid) ⟨by simp [cZ,d1,e2,au],rfl⟩
def jv:List Txt:= [[100,101,110,121,111,118,101,114],[112,101,114,109,105,116,111,118,101,114],[102,105,114,115,116],[111,110,108,121],[100,101,110,121,117,110,108,101,115,115],[112,101,114,109,105,116,117,110,108,101,115,115]]
theorem uQ (n:Int) (h1:1≤n) (h4:n≤6):∃i:Nat,n=i+1∧∃hi:i<jv.length,jv[i]'hi=lO n:=by
 rcases (by omega:n=1∨n=2∨n=3∨n=4∨n=5∨n=6) with rfl|rfl|rfl|rfl|rfl|rfl
 ·exact ⟨0,rfl,by decide,rfl⟩
 ·exact ⟨1,rfl,by decide,rfl⟩
 ·exact ⟨2,rfl,by decide,rfl⟩
 ·exact ⟨3,rfl,by decide,rfl⟩
 ·exact ⟨4,rfl,by decide,rfl⟩
 ·exact ⟨5,rfl,by decide,rfl⟩
theorem iy {α:Type} (f:α→Txt) (l:List α) (i:Nat) (h:i<l.length):((l.take (i+1)).map f).flatten=((l.take i).map f).flatten++f l[i]:=by
 rw [List.take_succ_eq_append_getElem h,List.map_append,List.flatten_append]; simp
def iJ (k:aR):Txt:= [32]++gI k
theorem ku (l:List aR):qB l=(l.map iJ).flatten:=mP l
def fF (id:Txt) (set:Bool) (alg:Int) (tgt:gH):Txt:=(if set then [115,101,116,32] else [112,111,108,105,99,121,32])++(id++ [32]++lO alg++dH tgt++ [32,123])
theorem qx {id:Txt} {set:Bool} {alg:Int} {tgt:gH} (h1:id.length≤16) (h2:(dH tgt).length≤115006):(fF id set alg tgt).length≤116000:=by
 have:=lV alg;unfold fF;cases set<;>simp only [Gu,List.length_cons,List.length_nil,if_true,Bool.false_eq_true,if_false]<;>omega
theorem rF (Q:Quoted):∀(n d:Nat) (p:aR) (h:Heap),d+n=5→jK d p→inP p→iR h→aj Tryd.prog 24 [aE p] h fun x h' =>x= .s (gI p)∧h' =h
 |0,d, .mk id set alg tgt rules kids obls,h,hd,he,hi,ht=>by simp only [jK] at he; omega
 |n+1,d, .mk id set alg tgt rules kids obls,h,hd,he,hi,ht=>by
  simp only [jK] at he;simp only [inP] at hi;obtain ⟨_,g1,a1,a6,_,_,g2,g3,g4,g5,g6,g7⟩:=he;obtain ⟨i1,i2,i3⟩:=hi;rw [jF] at g7;rw [mO] at i3;have hlim:lim=9223372036854775808:=rfl;have b1:=cw g1;have b2:=iC g2 i1;have b3:=lV alg;have b4:=fS g3;have b5:=qx (set:=set) (alg:=alg) b1 b2;have b8:fN n≤1000000000000:=by
   have hm:∀k,fN k≤fN (k+1):=by
    intro k; induction k with
    |zero=>decide
    |succ k ih=>simp only [fN] at ih⊢; omega
   have:∀j k,fN j≤fN (j+k):=fun j k=>by
    induction k with
    |zero=>exact Nat.le_refl _
    |succ k ih=>exact Nat.le_trans ih (hm _)
   have h4:n≤4:=by omega
   have:=this n (4 - n);rw [show n+(4 - n)=4 by omega] at this
   exact Nat.le_trans this tI
  have hrl:∀i,((rules.take i).map cZ).flatten.length≤1952000:=fun i=>cB _ 16 122000 (by simp; omega) fun x hx=>by
   obtain ⟨r,hr,rfl⟩:=List.mem_map.1 hx;have hr:=List.mem_of_mem_take hr;exact gZ (g6 r hr) (i2 r hr)
  have hkl:∀k∈kids,(gI k).length≤fN n:=fun k hk=>pz n (d+1) k (by omega) (g7 k hk) (i3 k hk)
  have hkf:∀i,((kids.take i).map iJ).flatten.length≤16*(1+fN n):=fun i=>cB _ 16 _ (by simp; omega) fun x hx=>by
   obtain ⟨k,hk,rfl⟩:=List.mem_map.1 hx;have:=hkl k (List.mem_of_mem_take hk);simp only [iJ,Gu,List.length_cons,List.length_nil]; omega
  obtain ⟨j,hn,hj,hw⟩:=uQ alg a1 a6;have rec' :=fun (k:aR) (hk:k∈kids) (h:Heap) (ht:iR h)=>rF Q n (d+1) k h (by omega) (g7 k hk) (i3 k hk) ht
  refine aj.body hU hm Tryd.func24 rfl (by kernel_rfl) 56 rfl [.tmp 2] rfl (Gp rfl) (fun hwf=> ?_)
  simp -implicitDefEqProofs only [go_sem,aE,aC,ay];intro ip hip;have hs0:Ab.Sub h (upd h ip (some (.obj [.s id, .v (.bool set), .v (.int .i64 alg), .sl (tgt.map aD) .no, .sl (rules.map aB) .no, .sl (aZ kids) .no, .sl (obls.map aN) .no] 28))):= .ah hip;obtain ⟨hb,ehb⟩:∃hb,upd h ip (some (.obj [.s id, .v (.bool set), .v (.int .i64 alg), .sl (tgt.map aD) .no, .sl (rules.map aB) .no, .sl (aZ kids) .no, .sl (obls.map aN) .no] 28))=hb:=⟨_,rfl⟩;have hbip:hb ip=some (.obj [.s id, .v (.bool set), .v (.int .i64 alg), .sl (tgt.map aD) .no, .sl (rules.map aB) .no, .sl (aZ kids) .no, .sl (obls.map aN) .no] 28):=by rw [←ehb]; exact ag ..
  rw [ehb] at hs0⊢;have f1:=nC Q tgt g2 i1 hb (ht.sub hs0);simp only [aC] at f1;have hwd:=iE alg j (.sl [.s [100,101,110,121,111,118,101,114], .s [112,101,114,109,105,116,111,118,101,114], .s [102,105,114,115,116], .s [111,110,108,121], .s [100,101,110,121,117,110,108,101,115,115], .s [112,101,114,109,105,116,117,110,108,101,115,115]] .full) jv hb (.sl _ _) hn hj (by simp [jv] at hj; omega)
  rw [hw] at hwd;have loop:∀(ρ:Env),True:=fun _=>trivial
  cases set
  ·simp -implicitDefEqProofs only [go_sem,hbip]
   refine .quiet (by kernel_rfl) ?_
   simp -implicitDefEqProofs only [go_sem,hbip];refine ⟨by omega, ?_⟩
   refine ⟨_,hwd, ?_⟩;simp -implicitDefEqProofs only [go_sem,hbip];refine ⟨by simp only [Gu,List.length_cons,List.length_nil]; omega, ?_⟩
   refine ⟨_,f1, ?_⟩;simp -implicitDefEqProofs only [go_sem,hbip,Gq];refine ⟨by simp only [Gu,List.length_cons,List.length_nil]; omega,by simp only [Gu,List.length_cons,List.length_nil]; omega,by simp only [Gu,List.length_cons,List.length_nil]; omega, ?_⟩
   obtain ⟨H,eH⟩:∃H,fF id false alg tgt=H:=⟨_,rfl⟩;have eH2:fF id false alg tgt=_:=rfl;rw [eH] at b5;refine .intro (fun m ρ h' =>Ab.Sub hb h'∧∃(i:Nat),i≤rules.length∧m=rules.length - i∧lk ρ 1=some (.ptr ip 0)∧lk ρ 3=some (.s (H++((rules.take i).map cZ).flatten))∧lk ρ 26=some (.sl (rules.map aB) .no)∧lk ρ 27=some (.v (.int .i64 rules.length))∧lk ρ 28=some (.v (.int .i64 i))) rules.length ?_ ?_
   ·refine ⟨.refl _,0,by omega,rfl, ?_, ?_, ?_, ?_, ?_⟩
    rotate_left 1
    ·simp -implicitDefEqProofs only [go_sem]
     rw [←eH];simp [fF]
    all_goals simp -implicitDefEqProofs only [go_sem]
   ·rintro m ρ h' ⟨hs,i,hil,rfl,r1,r3,r26,r27,r28⟩
    simp -implicitDefEqProofs only [go_sem,r1,r3,r26,r27,r28];refine .intro (fun e=> ?_) (fun e=> ?_)
    ·have hlt:i<rules.length:=Gx e
     have w1:=Gw i (by omega)
     have hr1:=g6 _ (Gv hlt);have hr2:=gZ hr1 (i2 _ (Gv hlt));have hrl1:=hrl i;simp -implicitDefEqProofs only [go_sem,r1,r3,r26,r27,r28];refine .at i (by simpa using hlt) (by rw [Gr]; rfl) ?_
     simp -implicitDefEqProofs only [go_sem,r1,r3,r26,r27,r28,Gr,aB];intro ir hir;have fr:=fun hh hp=>rD Q rules[i] hr1 (i2 _ (Gv hlt)) hh hp
     simp only [aB] at fr;simp -implicitDefEqProofs only [go_sem,r1,r3,r26,r27,r28];refine (fr _ ((ht.sub (hs0.trans hs)).sub (.ah hir))).pthen ?_;simp -implicitDefEqProofs only [go_sem,r1,r3,r26,r27,r28,w1];refine ⟨by simp only [Gu]; omega, ?_⟩
     refine ⟨_, ?_,hs.new hir _,i+1,by omega,rfl, ?_, ?_, ?_, ?_, ?_⟩
     ·omega
     ·simp -implicitDefEqProofs only [go_sem,r1,r3,r26,r27,r28,w1]
     ·simp -implicitDefEqProofs only [go_sem]
      rw [iy _ _ _ hlt,List.append_assoc]
     all_goals simp -implicitDefEqProofs only [go_sem,r1,r3,r26,r27,r28,w1]
    ·have hge:i=rules.length:=by have:=Gt e; omega
     subst hge;rw [List.take_length] at r3;have hipi:=hs _ _ hbip;have hrl1:=hrl rules.length;rw [List.take_length] at hrl1;simp -implicitDefEqProofs only [go_sem,r1,r3,r26,r27,r28,hipi,aG,Gq];obtain ⟨H2,eH2⟩:∃H2,H++(rules.map cZ).flatten=H2:=⟨_,rfl⟩;have hH2:H2.length≤2068000:=by rw [←eH2]; simp only [Gu]; omega
     rw [eH2] at r3;refine .intro (fun m ρ h'' =>Ab.Sub hb h''∧∃(i:Nat),i≤kids.length∧m=kids.length - i∧lk ρ 1=some (.ptr ip 0)∧lk ρ 3=some (.s (H2++((kids.take i).map iJ).flatten))∧lk ρ 38=some (.sl (kids.map aE) .no)∧lk ρ 39=some (.v (.int .i64 kids.length))∧lk ρ 40=some (.v (.int .i64 i))) kids.length ?_ ?_
     ·refine ⟨hs,0,by omega,rfl, ?_, ?_, ?_, ?_, ?_⟩
      rotate_left 1
      ·simp -implicitDefEqProofs only [go_sem,r3]
       simp
      all_goals simp -implicitDefEqProofs only [go_sem,r1,r3]
     ·rintro m ρ h'' ⟨hs,i,hil,rfl,r1,r3,r38,r39,r40⟩
      simp -implicitDefEqProofs only [go_sem,r1,r3,r38,r39,r40];refine .intro (fun e=> ?_) (fun e=> ?_)
      ·have hlt:i<kids.length:=Gx e
       have w1:=Gw i (by omega)
       have hk1:=hkl _ (Gv hlt);have hk2:=hkf i;have fk:=fun h ht=>rec' kids[i] (Gv hlt) h ht
       cases hki' :kids[i] with
       |mk kid kset kalg ktgt krules kkids kobls=>
       rw [hki'] at fk hk1;simp only [aE,aC,ay] at fk;simp -implicitDefEqProofs only [go_sem,r1,r3,r38,r39,r40];refine .at i (by simpa using hlt) (by rw [Gr]; exact er _) ?_
       simp -implicitDefEqProofs only [go_sem,r1,r3,r38,r39,r40,Gr,hki',aE,aC,ay];intro ir hir;simp -implicitDefEqProofs only [go_sem,r1,r3,r38,r39,r40];refine (fk _ ((ht.sub (hs0.trans hs)).sub (.ah hir))).pthen ?_;simp -implicitDefEqProofs only [go_sem,r1,r3,r38,r39,r40,w1];refine ⟨by omega,by simp only [Gu,List.length_cons,List.length_nil]; omega, ?_⟩
       refine ⟨_, ?_,hs.new hir _,i+1,by omega,rfl, ?_, ?_, ?_, ?_, ?_⟩
       ·omega
       ·simp -implicitDefEqProofs only [go_sem,r1,r3,r38,r39,r40,w1]
       ·simp -implicitDefEqProofs only [go_sem]
        rw [iy _ _ _ hlt,hki'];simp [iJ]
       all_goals simp -implicitDefEqProofs only [go_sem,r1,r3,r38,r39,r40,w1]
      ·have hge:i=kids.length:=by have:=Gt e; omega
       subst hge;rw [List.take_length] at r3;have hipi:=hs _ _ hbip;have hk2:=hkf kids.length;rw [List.take_length] at hk2;have fd:=jm obls g3 h'';simp only [ay] at fd;simp -implicitDefEqProofs only [go_sem,r1,r3,r38,r39,r40,hipi];refine ⟨by simp only [Gu,List.length_cons,List.length_nil]; omega, ?_⟩
       refine fd.pthen ?_;simp -implicitDefEqProofs only [go_sem,r1,r3,r38,r39,r40,hipi];refine ⟨by simp only [Gu,List.length_cons,List.length_nil]; omega, ?_⟩
       refine .mk _ (.refl _) (hs0.trans hs) ⟨?_,rfl⟩;simp only [au,gI,ku];rw [←eH2,←eH];simp [fF]
  ·simp -implicitDefEqProofs only [go_sem,hbip]
   refine .quiet (by kernel_rfl) ?_
   simp -implicitDefEqProofs only [go_sem,hbip];refine ⟨by omega, ?_⟩
   refine ⟨_,hwd, ?_⟩;simp -implicitDefEqProofs only [go_sem,hbip];refine ⟨by simp only [Gu,List.length_cons,List.length_nil]; omega, ?_⟩
   refine ⟨_,f1, ?_⟩;simp -implicitDefEqProofs only [go_sem,hbip,Gq];refine ⟨by simp only [Gu,List.length_cons,List.length_nil]; omega,by simp only [Gu,List.length_cons,List.length_nil]; omega,by simp only [Gu,List.length_cons,List.length_nil]; omega, ?_⟩
   obtain ⟨H,eH⟩:∃H,fF id true alg tgt=H:=⟨_,rfl⟩;have eH2:fF id true alg tgt=_:=rfl;rw [eH] at b5;refine .intro (fun m ρ h' =>Ab.Sub hb h'∧∃(i:Nat),i≤rules.length∧m=rules.length - i∧lk ρ 1=some (.ptr ip 0)∧lk ρ 3=some (.s (H++((rules.take i).map cZ).flatten))∧lk ρ 26=some (.sl (rules.map aB) .no)∧lk ρ 27=some (.v (.int .i64 rules.length))∧lk ρ 28=some (.v (.int .i64 i))) rules.length ?_ ?_
   ·refine ⟨.refl _,0,by omega,rfl, ?_, ?_, ?_, ?_, ?_⟩
    rotate_left 1
    ·simp -implicitDefEqProofs only [go_sem]
     rw [←eH];simp [fF]
    all_goals simp -implicitDefEqProofs only [go_sem]
   ·rintro m ρ h' ⟨hs,i,hil,rfl,r1,r3,r26,r27,r28⟩
    simp -implicitDefEqProofs only [go_sem,r1,r3,r26,r27,r28];refine .intro (fun e=> ?_) (fun e=> ?_)
    ·have hlt:i<rules.length:=Gx e
     have w1:=Gw i (by omega)
     have hr1:=g6 _ (Gv hlt);have hr2:=gZ hr1 (i2 _ (Gv hlt));have hrl1:=hrl i;simp -implicitDefEqProofs only [go_sem,r1,r3,r26,r27,r28];refine .at i (by simpa using hlt) (by rw [Gr]; rfl) ?_
     simp -implicitDefEqProofs only [go_sem,r1,r3,r26,r27,r28,Gr,aB];intro ir hir;have fr:=fun hh hp=>rD Q rules[i] hr1 (i2 _ (Gv hlt)) hh hp
     simp only [aB] at fr;simp -implicitDefEqProofs only [go_sem,r1,r3,r26,r27,r28];refine (fr _ ((ht.sub (hs0.trans hs)).sub (.ah hir))).pthen ?_;simp -implicitDefEqProofs only [go_sem,r1,r3,r26,r27,r28,w1];refine ⟨by simp only [Gu]; omega, ?_⟩
     refine ⟨_, ?_,hs.new hir _,i+1,by omega,rfl, ?_, ?_, ?_, ?_, ?_⟩
     ·omega
     ·simp -implicitDefEqProofs only [go_sem,r1,r3,r26,r27,r28,w1]
     ·simp -implicitDefEqProofs only [go_sem]
      rw [iy _ _ _ hlt,List.append_assoc]
     all_goals simp -implicitDefEqProofs only [go_sem,r1,r3,r26,r27,r28,w1]
    ·have hge:i=rules.length:=by have:=Gt e; omega
     subst hge;rw [List.take_length] at r3;have hipi:=hs _ _ hbip;have hrl1:=hrl rules.length;rw [List.take_length] at hrl1;simp -implicitDefEqProofs only [go_sem,r1,r3,r26,r27,r28,hipi,aG,Gq];obtain ⟨H2,eH2⟩:∃H2,H++(rules.map cZ).flatten=H2:=⟨_,rfl⟩;have hH2:H2.length≤2068000:=by rw [←eH2]; simp only [Gu]; omega
     rw [eH2] at r3;refine .intro (fun m ρ h'' =>Ab.Sub hb h''∧∃(i:Nat),i≤kids.length∧m=kids.length - i∧lk ρ 1=some (.ptr ip 0)∧lk ρ 3=some (.s (H2++((kids.take i).map iJ).flatten))∧lk ρ 38=some (.sl (kids.map aE) .no)∧lk ρ 39=some (.v (.int .i64 kids.length))∧lk ρ 40=some (.v (.int .i64 i))) kids.length ?_ ?_
     ·refine ⟨hs,0,by omega,rfl, ?_, ?_, ?_, ?_, ?_⟩
      rotate_left 1
      ·simp -implicitDefEqProofs only [go_sem,r3]
       simp
      all_goals simp -implicitDefEqProofs only [go_sem,r1,r3]
     ·rintro m ρ h'' ⟨hs,i,hil,rfl,r1,r3,r38,r39,r40⟩
      simp -implicitDefEqProofs only [go_sem,r1,r3,r38,r39,r40];refine .intro (fun e=> ?_) (fun e=> ?_)
      ·have hlt:i<kids.length:=Gx e
       have w1:=Gw i (by omega)
       have hk1:=hkl _ (Gv hlt);have hk2:=hkf i;have fk:=fun h ht=>rec' kids[i] (Gv hlt) h ht
       cases hki' :kids[i] with
       |mk kid kset kalg ktgt krules kkids kobls=>
       rw [hki'] at fk hk1;simp only [aE,aC,ay] at fk;simp -implicitDefEqProofs only [go_sem,r1,r3,r38,r39,r40];refine .at i (by simpa using hlt) (by rw [Gr]; exact er _) ?_
       simp -implicitDefEqProofs only [go_sem,r1,r3,r38,r39,r40,Gr,hki',aE,aC,ay];intro ir hir;simp -implicitDefEqProofs only [go_sem,r1,r3,r38,r39,r40];refine (fk _ ((ht.sub (hs0.trans hs)).sub (.ah hir))).pthen ?_;simp -implicitDefEqProofs only [go_sem,r1,r3,r38,r39,r40,w1];refine ⟨by omega,by simp only [Gu,List.length_cons,List.length_nil]; omega, ?_⟩
       refine ⟨_, ?_,hs.new hir _,i+1,by omega,rfl, ?_, ?_, ?_, ?_, ?_⟩
       ·omega
       ·simp -implicitDefEqProofs only [go_sem,r1,r3,r38,r39,r40,w1]
       ·simp -implicitDefEqProofs only [go_sem]
        rw [iy _ _ _ hlt,hki'];simp [iJ]
       all_goals simp -implicitDefEqProofs only [go_sem,r1,r3,r38,r39,r40,w1]
      ·have hge:i=kids.length:=by have:=Gt e; omega
       subst hge;rw [List.take_length] at r3;have hipi:=hs _ _ hbip;have hk2:=hkf kids.length;rw [List.take_length] at hk2;have fd:=jm obls g3 h'';simp only [ay] at fd;simp -implicitDefEqProofs only [go_sem,r1,r3,r38,r39,r40,hipi];refine ⟨by simp only [Gu,List.length_cons,List.length_nil]; omega, ?_⟩
       refine fd.pthen ?_;simp -implicitDefEqProofs only [go_sem,r1,r3,r38,r39,r40,hipi];refine ⟨by simp only [Gu,List.length_cons,List.length_nil]; omega, ?_⟩
       refine .mk _ (.refl _) (hs0.trans hs) ⟨?_,rfl⟩;simp only [au,gI,ku];rw [←eH2,←eH];simp [fF]
theorem nB (Q:Quoted) (p:aR) (hi:inP p) (h:Heap) (ht:iR h):aj Tryd.prog 11 [aE p] h fun x h' =>x= .s (nu p)∧h' =h:=by
 have hr:=fun h=>wo p h
 have hx:=fun hp h ht=>rF Q 4 1 p h rfl hp hi ht
 cases p with
 |mk id set alg tgt rules kids obls=>
 refine aj.body hU hm Tryd.func11 rfl (by kernel_rfl) 8 rfl [.tmp 2] rfl (Gp rfl) (fun hwf=> ?_)
 simp -implicitDefEqProofs only [go_sem,aE,aC,ay];intro ip hip;simp only [aE,aC,ay] at hr hx;simp -implicitDefEqProofs only [go_sem];refine (hr _).pthen ?_;cases d1:(eC (.mk id set alg tgt rules kids obls) !=0)
 case true=>
  have e1:eC (.mk id set alg tgt rules kids obls)≠0:=by simpa using d1
  simp -implicitDefEqProofs only [go_sem,d1];exact .mk _ (.refl _) (.ah hip) ⟨by simp [nu,e1,au],rfl⟩
 have e1:eC (.mk id set alg tgt rules kids obls)=0:=by simpa using d1
 have hpe:jK 1 (.mk id set alg tgt rules kids obls):=by
  cases hw:cI ⟨[],0⟩ 1 (.mk id set alg tgt rules kids obls) with
  |bad e=>
   have:=jL 4 1 _ _ e rfl hw;rw [eC,hw] at e1;exact (this e1).elim
  |ok m=>exact pE _ _ _ _ hw
 simp -implicitDefEqProofs only [go_sem,d1];refine (hx hpe _ (ht.sub (.ah hip))).pthen ?_;simp -implicitDefEqProofs only [go_sem];exact .mk _ (.refl _) (.ah hip) ⟨by simp [nu,e1,au],rfl⟩
end Go.Proofs.YtfpckjaeeiiipaaDoor
namespace Go.Bf
open Go Go.Ab
structure nI where
 kind:Int
 pos:Int
 n:Int
 s:Txt
inductive Lexed where
 |bad (e:Int) (at_:Int)
 |ok (l:List nI)
structure PS where
 ts:List nI
 pos:Nat
 rules:Nat
 bad:Int
 place:Int
def cp (st:PS):nI:=st.ts.getD st.pos ⟨7,0,0,[]⟩
def pS (st:PS) (e p:Int):PS:=if st.bad=0 then {st with bad:=e,place:=p} else st
def kO (st:PS):PS:=pS st 5 (cp st).pos
def vR (st:PS) (more:Bool):PS:=if more then pS st 6 (cp st).pos else st
def isD (st:PS) (s:Txt):Bool:=st.bad==0 && ((cp st).s==s && ((cp st).kind==1||(cp st).kind==6))
def fH (st:PS):PS:= {st with pos:=st.pos+1}
def yO (st:PS) (s:Txt):Bool×PS:=if isD st s=true then (true,fH st) else (false,st)
def oH (st:PS) (s:Txt):PS:=if isD st s=true then fH st else kO st
def vV (st:PS):Txt×PS:=
 if (cp st).kind=1∧st.bad=0 then ((cp st).s,fH st) else ([],if (cp st).kind=1 then st else kO st)
def B5 (s:Txt):List Txt→Option Nat
 | []=>none
 |w::r=>if w=s then some 0 else (B5 s r).map (· +1)
def gj (st:PS) (ws:List Txt):Int×PS:=match B5 (cp st).s ws with
 |some i=>if (cp st).kind=1∧st.bad=0 then ((i:Int)+1,fH st) else (0,kO st)
 |none=>(0,kO st)
def td:List Txt:= [[115,117,98,106,101,99,116],[97,99,116,105,111,110],[99,97,115,101],[101,110,118]]
def oe (st:PS):eU×PS:=
 (⟨(gj st td).1,(vV (oH (gj st td).2 [46])).1,(yO (vV (oH (gj st td).2 [46])).2 [33]).1⟩,(yO (vV (oH (gj st td).2 [46])).2 [33]).2)
def yP:Txt:= [116,114,117,101]
def vG:Txt:= [102,97,108,115,101]
def pQ (st:PS):iG×PS:=
 if (cp st).kind=2 then (⟨2,(cp st).n,(cp st).s⟩,st)
 else if (cp st).kind=3 then (⟨4,(cp st).n,(cp st).s⟩,st)
 else if (cp st).kind=4 then (⟨5,(cp st).n,(cp st).s⟩,st)
 else if (cp st).kind=5 then (⟨3,(cp st).n,(cp st).s⟩,st)
 else if isD st yP then (⟨1,1,[]⟩,st)
 else if isD st vG then (⟨1,0,[]⟩,st)
 else (⟨0,(cp st).n,(cp st).s⟩,kO st)
def pP (st:PS):iG×PS:=if (pQ st).2.bad=0 then ((pQ st).1,fH (pQ st).2) else (⟨0,0,[]⟩,(pQ st).2)
def opP (st:PS):Int×PS:=
 if isD st [61] then (1,fH st) else if isD st [60] then (2,fH st) else if isD st [62] then (3,fH st) else (0,kO st)
def su (st:PS):bl×PS:=(⟨(oe st).1,(opP (oe st).2).1,(pP (opP (oe st).2).2).1⟩,(pP (opP (oe st).2).2).2)
def vS {α:Type} (one:PS→α×PS) (w:Txt) (most:Nat):Nat→PS→List α→List α×PS
 |0,st,l=>(l,st)
 |f+1,st,l=>if isD st w=true then vS one w most f (vR (one (fH st)).2 (decide (most<l.length+1))) (l++ [(one (fH st)).1]) else (l,st)
def orT:Txt:= [111,114]
def By (st:PS):List bl×PS:=vS su [44] 8 st.ts.length (su st).2 [(su st).1]
def gL (st:PS):List (List bl)×PS:=
 let a:=By (oH st [40])
 let m:=vS By orT 8 st.ts.length a.2 [a.1]
 (m.1,oH m.2 [41])
def vI:List Txt:= [[111,110,101],[115,105,122,101],[104,97,115],[101,113],[108,101,115,115],[97,100,100],[115,117,98],[109,117,108],[110,111,116],[97,110,100],[111,114]]
def opers (op:Int):List Bool:=if op=3∨op=4 then [true] else if op=5 then [true,false] else if op=11 then [false] else [false,false]
abbrev ExF:=PS→List bf→(List bf×Bool)×PS
def v7 (ex:ExF) (st:PS) (l:List bf) (must:Bool):List bf×PS:=
 ((ex st l).1.1,if (ex st l).1.2=must then (ex st l).2 else pS (ex st l).2 5 (cp st).pos)
def sF (ex:ExF):List Bool→PS→List bf→List bf×PS
 | [],st,l=>(l,st)
 |b::bs,st,l=>if st.bad=0 then sF ex bs (v7 ex st l b).2 (v7 ex st l b).1 else (l,st)
def B0 (ex:ExF) (st:PS) (l:List bf):(List bf×bf)×PS:=
 (((sF ex (opers (2+(gj st vI).1)) (gj st vI).2 l).1,⟨2+(gj st vI).1,⟨0,0,[]⟩,⟨0,[],false⟩⟩),oH (sF ex (opers (2+(gj st vI).1)) (gj st vI).2 l).2 [41])
def qw (ex:ExF) (st:PS) (l:List bf):(List bf×bf)×PS:=
 if isD st [40]=true then B0 ex (fH st) l
 else if (cp st).kind=1∧(cp st).s≠yP∧(cp st).s≠vG then ((l,⟨2,⟨0,0,[]⟩,(oe st).1⟩),(oe st).2)
 else ((l,⟨1,(pP st).1,⟨0,[],false⟩⟩),(pP st).2)
def ot:Nat→ExF
 |0,st,l=>((l,false),st)
 |f+1,st,l=>(((qw (ot f) st l).1.1++ [(qw (ot f) st l).1.2],(qw (ot f) st l).1.2.op==2),vR (qw (ot f) st l).2 (decide (32<(qw (ot f) st l).1.1.length+1)))
inductive Rch (a:PS):PS→Prop where
 |refl:Rch a a
 |wrong {b:PS} (e p:Int):Rch a b→(e=5∨e=6)→(∃i,i≤b.pos∧p=(b.ts.getD i ⟨7,0,0,[]⟩).pos)→Rch a (pS b e p)
 |next {b:PS}:Rch a b→b.bad=0→(cp b).kind≠7→Rch a (fH b)
def ifT:Txt:= [105,102]
def gP (st:PS):List bf×PS:=if isD st ifT=true then v7 (ot st.ts.length) (fH st) [] false else ([],st)
inductive u7 (a:PS):PS→Prop where
 |refl:u7 a a
 |small {b c:PS}:u7 a b→Rch b c→u7 a c
 |rule {b:PS}:u7 a b→b.bad=0→b.rules≠64→(cp b).kind≠7→u7 a {fH b with rules:=b.rules+1}
def wdK (s:Txt):nI:=⟨1,0,0,s⟩
def mkK (c:UInt8):nI:=⟨6,0,0,[c]⟩
def Ec (v:iG):nI:=
 if v.kind=1 then wdK (Lib.formatBool (v.n==1)) else if v.kind=4 then ⟨3,0,v.n,[]⟩ else if v.kind=5 then ⟨4,0,0,v.s⟩ else if v.kind=3 then ⟨5,0,0,v.s⟩ else ⟨2,0,v.n,[]⟩
def Bz (a:eU):List nI:= [wdK (j4 a.cat),mkK 46,wdK a.name]++(if a.must then [mkK 33] else [])
def zV:iG:=⟨0,0,[]⟩
def zA:eU:=⟨0,[],false⟩
inductive Tree:List bf→Bool→Txt→List nI→Prop
 |lit (v:iG) (h:bD v=true) (hi:inV v):Tree [⟨1,v,zA⟩] false (ck v) [Ec v]
 |attr (a:eU) (h:bM a=true):Tree [⟨2,zV,a⟩] true (cn a) (Bz a)
 |one {op:Int} {w:Bool} {l:List bf} {t:Txt} {k:List nI} (ho:op=3∧w=true∨op=4∧w=true∨op=11∧w=false) (h:Tree l w t k):
   Tree (l++ [⟨op,zV,zA⟩]) false ([40]++fnW op++ [32]++t++ [41]) ([mkK 40,wdK (fnW op)]++k++ [mkK 41])
 |two {op:Int} {w1 w2:Bool} {l1 l2:List bf} {t1 t2:Txt} {k1 k2:List nI} (ho:op=5∧w1=true∧w2=false∨6≤op∧op≤13∧op≠11∧w1=false∧w2=false) (h1:Tree l1 w1 t1 k1) (h2:Tree l2 w2 t2 k2):
   Tree (l1++l2++ [⟨op,zV,zA⟩]) false ([40]++fnW op++ [32]++(t1++ [32]++t2)++ [41]) ([mkK 40,wdK (fnW op)]++(k1++k2)++ [mkK 41])
def St (a b:PS):Prop:=b.rules=a.rules∧b.ts=a.ts
mutual
def nR:aR→Nat
 | .mk id set alg tgt rules kids obls=>rules.length+nRK kids
def nRK:List aR→Nat
 | []=>0
 |k::r=>nR k+nRK r
end
theorem lC {m m' :cH} {s:Txt} (h:cX m s=some m'):m'.rules=m.rules:=by
 unfold cX at h;split at h
 ·cases h; rfl
 ·cases h
theorem qY {m m' :cH} {r:cJ} (h:bG m r= .ok m'):m'.rules=m.rules+1∧m'.rules≤64:=by
 unfold bG at h;split at h
 ·cases h
 ·rename_i m1 hm
  have:=lC hm;split at h
  ·cases h
  ·obtain ⟨h1,h⟩:=cF h
   obtain ⟨h2,h⟩:=cF h;obtain ⟨h3,h⟩:=cF h;cases h;simp only;omega
theorem jQ:∀(l:List cJ) (m m' :cH),bA m l= .ok m'→m.rules≤64→m'.rules=m.rules+l.length∧m'.rules≤64
 | [],m,m',h,h0=>by simp only [bA] at h; cases h; exact ⟨rfl,h0⟩
 |x::l,m,m',h,h0=>by
  simp only [bA] at h;cases hx:bG m x with
  |bad e=>rw [hx] at h; cases h
  |ok m1=>
   rw [hx] at h;obtain ⟨a1,a2⟩:=qY hx;obtain ⟨b1,b2⟩:=jQ l m1 m' h a2;exact ⟨by rw [b1,a1,List.length_cons]; omega,b2⟩
mutual
theorem qQ:∀(p:aR) (d:Nat) (m m' :cH),cI m d p= .ok m'→m.rules≤64→m'.rules=m.rules+nR p∧m'.rules≤64
 | .mk id set alg tgt rules kids obls,d,m,m',h,h0=>by
  simp only [cI] at h;split at h
  ·cases h
  split at h
  ·cases h
  rename_i m1 h1
  split at h
  ·cases h
  rename_i m2 h2
  have e1:=lC (oC h1).1;obtain ⟨a1,a2⟩:=jQ _ _ _ h2 (by omega)
  obtain ⟨b1,b2⟩:=oE kids (d+1) m2 m' h a2;simp only [nR];exact ⟨by omega,b2⟩
theorem oE:∀(l:List aR) (d:Nat) (m m' :cH),cK m d l= .ok m'→m.rules≤64→m'.rules=m.rules+nRK l∧m'.rules≤64
 | [],d,m,m',h,h0=>by simp only [cK] at h; cases h; exact ⟨rfl,h0⟩
 |k::r,d,m,m',h,h0=>by
  simp only [cK] at h;split at h
  ·cases h
  rename_i m1 h1
  obtain ⟨a1,a2⟩:=qQ k d m m1 h1 h0;obtain ⟨b1,b2⟩:=oE r d m1 m' h a2;simp only [nRK];exact ⟨by omega,b2⟩
end
theorem oM:∀(l:List cJ) (m:cH) (e:Int),bA m l= .bad e→e≠0
 | [],_,_,h=>by cases h
 |x::l,m,e,h=>by
  simp only [bA] at h;cases hx:bG m x with
  |bad e' =>rw [hx] at h; cases h; exact kM hx
  |ok m1=>rw [hx] at h; exact oM l m1 e h
mutual
theorem tJ:∀(p:aR) (d:Nat) (m:cH) (e:Int),cI m d p= .bad e→e≠0
 | .mk id set alg tgt rules kids obls,d,m,e,h=>by
  simp only [cI] at h;split at h
  ·cases h; decide
  split at h
  ·rename_i h1; cases h; exact kj h1
  split at h
  ·rename_i h1; cases h; exact oM _ _ _ h1
  ·exact qC _ _ _ _ h
theorem qC:∀(l:List aR) (d:Nat) (m:cH) (e:Int),cK m d l= .bad e→e≠0
 | [],_,_,_,h=>by simp only [cK] at h; cases h
 |k::r,d,m,e,h=>by
  simp only [cK] at h;split at h
  ·rename_i h1; cases h; exact tJ k d m _ h1
  ·exact qC _ _ _ _ h
end
theorem sK {p:aR} (h:eC p=0):jK 1 p∧nR p≤64:=by
 unfold eC at h;cases hw:cI ⟨[],0⟩ 1 p with
 |bad e=>rw [hw] at h; exact absurd h (tJ p 1 _ _ hw)
 |ok m=>
  refine ⟨pE p 1 _ m hw, ?_⟩;have:=qQ p 1 _ m hw (by decide)
  simp only [Nat.zero_add] at this;omega
def dD (a b:bl):Bool:=a.attr.cat==b.attr.cat && (a.attr.name==b.attr.name && (a.attr.must==b.attr.must && (a.op==b.op && (a.val.kind==b.val.kind && (a.val.n==b.val.n && a.val.s==b.val.s)))))
def gl (a b:bf):Bool:=a.op==b.op && (a.val.kind==b.val.kind && (a.val.n==b.val.n && (a.val.s==b.val.s && (a.attr.cat==b.attr.cat && (a.attr.name==b.attr.name && a.attr.must==b.attr.must)))))
def gR (a b:iF):Bool:=a.on==b.on && (a.kind==b.kind && a.arg==b.arg)
def eqL {α:Type} (f:α→α→Bool):List α→List α→Bool
 | [],[]=>true
 |x::a,y::b=>f x y && eqL f a b
 |_,_=>false
theorem ef {α:Type} {f:α→α→Bool}:∀ {a b:List α},a.length=b.length→(∀j (h1:j<a.length) (h2:j<b.length),f a[j] b[j]=true)→eqL f a b=true
 | [],[],_,_=>rfl
 |x::a,y::b,hl,h=>by
  simp only [eqL,Bool.and_eq_true];exact ⟨h 0 (by simp) (by simp),ef (by grind) fun j h1 h2=>h (j+1) (by grind) (by grind)⟩
theorem fD {α:Type} {f:α→α→Bool}:∀ {a b:List α},a.length≠b.length→eqL f a b=false
 | [],[],h=>by omega
 | [],_::_,_=>rfl
 |_::_,[],_=>rfl
 |x::a,y::b,h=>by
  simp only [eqL];rw [fD (by grind),Bool.and_false]
theorem gk {α:Type} {f:α→α→Bool}:∀ {a b:List α} (j:Nat) (h1:j<a.length) (h2:j<b.length),f a[j] b[j]=false→eqL f a b=false
 |x::a,y::b,0,_,_,h=>by grind [eqL]
 |x::a,y::b,j+1,h1,h2,h=>by
  simp only [eqL];rw [gk j (by grind) (by grind) (by grind),Bool.and_false]
theorem iZ {α:Type} {f:α→α→Bool} (hf:∀x y,f x y=true↔x=y):∀ {a b:List α},eqL f a b=true↔a=b
 | [],[]=>by simp [eqL]
 | [],_::_=>by simp [eqL]
 |_::_,[]=>by simp [eqL]
 |x::a,y::b=>by simp [eqL,hf,iZ hf]
theorem rZ (a b):dD a b=true↔a=b:=by
 obtain ⟨⟨a1,a2,a3⟩,a4,a5,a6,a7⟩:=a;obtain ⟨⟨b1,b2,b3⟩,b4,b5,b6,b7⟩:=b;simp [dD,and_assoc]
theorem uc (a b):gl a b=true↔a=b:=by
 obtain ⟨a4,⟨a5,a6,a7⟩,⟨a1,a2,a3⟩⟩:=a;obtain ⟨b4,⟨b5,b6,b7⟩,⟨b1,b2,b3⟩⟩:=b;simp [gl,and_assoc]
theorem qg (a b):gR a b=true↔a=b:=by cases a; cases b; simp [gR]
end Go.Bf
namespace Go.Proofs.YtfpckjaeeiiipaaDoor
open Go Go.Ab Go.Bf
theorem pI (a b) (h):aj Tryd.prog 59 [bR a,bR b] h fun r h' =>r= .v (.bool (eqL dD a b))∧h' =h:=by
 refine aj.body hU hm Tryd.func59 rfl (by kernel_rfl) 26 rfl [.tmp 4] rfl (Gp rfl) (fun hwf=> ?_)
 cases d1:((a.length:Int) !=(b.length:Int))
 case true=>
  have e1:a.length≠b.length:=by
   grind
  simp only [go_sem,bR,Gq,d1];exact .same (.refl _) ⟨by rw [fD e1]; rfl,rfl⟩
 have e1:a.length=b.length:=by grind
 simp only [go_sem,bR,Gq,d1];refine .intro (fun m ρ h' =>Ab.Sub h h'∧∃i:Nat,i≤a.length∧m=a.length - i∧(∀j (h1:j<a.length) (h2:j<b.length),j<i→dD a[j] b[j]=true)∧lk ρ 0=some (.sl (a.map cE) .no)∧lk ρ 1=some (.sl (b.map cE) .no)∧lk ρ 5=some (.v (.int .i64 i))) a.length ?_ ?_
 ·refine ⟨.refl _,0,by omega,rfl,fun j _ _ hj=>(by omega), ?_, ?_, ?_⟩<;>simp only [go_sem]
 ·rintro m ρ h' ⟨hs,i,hi,rfl,hc,r0,r1,r5⟩
  simp only [go_sem,r0,r1,r5,Gq];refine .intro (fun e=> ?_) (fun e=> ?_)
  ·have hlt:i<a.length:=Gx e
   have hlt2:i<b.length:=by omega
   have w1:IntKind.i64.wrap ((i:Int)+1)=((i+1:Nat):Int):=by
    have:=hwf (bR a) (by simp)
    simp only [bR,wfA,wf1,lim,Gq] at this;rw [aY _ (by omega)]; omega
   simp only [go_sem,r0,r1,r5,Gq];refine ⟨.of (by kernel_rfl), ?_⟩
   refine .at i (by grind) (by rw [Gr]; rfl) ?_
   simp only [go_sem,r0,r1,r5,Gr,cE];refine .at i (by grind) (by rw [Gr]; rfl) ?_
   simp only [go_sem,r0,r1,r5,Gr,cE];cases d3:dD a[i] b[i]
   ·have d4:=d3
    simp only [dD] at d4;simp only [go_sem,r0,r1,r5,d4];exact .mk _ (.refl _) hs ⟨by rw [gk i hlt hlt2 d3]; rfl,rfl⟩
   ·have d4:=d3
    simp only [dD] at d4;simp only [go_sem,r0,r1,r5,d4,w1];refine ⟨_, ?_,hs,i+1,by omega,rfl,fun j h1 h2 hj=> ?_, ?_, ?_, ?_⟩
    ·omega
    ·grind
    all_goals simp only [go_sem,r0,r1,r5,w1]
  ·have hge:i=a.length:=by grind
   subst hge;simp only [go_sem,r0,r1,r5];exact .mk _ (.refl _) hs ⟨by rw [ef e1 fun j h1 h2=>hc j h1 h2 h1]; rfl,rfl⟩
theorem nq (a b) (h):aj Tryd.prog 34 [ay a,ay b] h fun r h' =>r= .v (.bool (eqL gR a b))∧h' =h:=by
 refine aj.body hU hm Tryd.func34 rfl (by kernel_rfl) 26 rfl [.tmp 4] rfl (Gp rfl) (fun hwf=> ?_)
 cases d1:((a.length:Int) !=(b.length:Int))
 case true=>
  have e1:a.length≠b.length:=by
   grind
  simp only [go_sem,ay,Gq,d1];exact .same (.refl _) ⟨by rw [fD e1]; rfl,rfl⟩
 have e1:a.length=b.length:=by grind
 simp only [go_sem,ay,Gq,d1];refine .intro (fun m ρ h' =>Ab.Sub h h'∧∃i:Nat,i≤a.length∧m=a.length - i∧(∀j (h1:j<a.length) (h2:j<b.length),j<i→gR a[j] b[j]=true)∧lk ρ 0=some (.sl (a.map aN) .no)∧lk ρ 1=some (.sl (b.map aN) .no)∧lk ρ 5=some (.v (.int .i64 i))) a.length ?_ ?_
 ·refine ⟨.refl _,0,by omega,rfl,fun j _ _ hj=>(by omega), ?_, ?_, ?_⟩<;>simp only [go_sem]
 ·rintro m ρ h' ⟨hs,i,hi,rfl,hc,r0,r1,r5⟩
  simp only [go_sem,r0,r5,Gq];refine .intro (fun e=> ?_) (fun e=> ?_)
  ·have hlt:i<a.length:=Gx e
   have hlt2:i<b.length:=by omega
   have w1:IntKind.i64.wrap ((i:Int)+1)=((i+1:Nat):Int):=by
    have:=hwf (ay a) (by simp)
    simp only [ay,wfA,wf1,lim,Gq] at this;rw [aY _ (by omega)]; omega
   simp only [go_sem,r0,r5];refine ⟨.of (by kernel_rfl), ?_⟩
   refine .at i (by grind) (by rw [Gr]; rfl) ?_
   simp only [go_sem,r1,r5,Gr,aN];refine .at i (by grind) (by rw [Gr]; rfl) ?_
   simp only [go_sem,Gr,aN];cases d3:gR a[i] b[i]
   ·have d4:=d3
    simp only [gR] at d4;simp only [go_sem,d4];exact .mk _ (.refl _) hs ⟨by rw [gk i hlt hlt2 d3]; rfl,rfl⟩
   ·have d4:=d3
    simp only [gR] at d4;simp only [go_sem,r5,d4,w1];refine ⟨_, ?_,hs,i+1,by omega,rfl,fun j h1 h2 hj=> ?_, ?_, ?_, ?_⟩
    ·omega
    ·grind
    all_goals simp only [go_sem,r0,r1]
  ·have hge:i=a.length:=by grind
   subst hge;simp only [go_sem];exact .mk _ (.refl _) hs ⟨by rw [ef e1 fun j h1 h2=>hc j h1 h2 h1]; rfl,rfl⟩
theorem q4 (a b) (h):aj Tryd.prog 35 [aH a,aH b] h fun r h' =>r= .v (.bool (eqL gl a b))∧h' =h:=by
 refine aj.body hU hm Tryd.func35 rfl (by kernel_rfl) 26 rfl [.tmp 4] rfl (Gp rfl) (fun hwf=> ?_)
 cases d1:((a.length:Int) !=(b.length:Int))
 case true=>
  have e1:a.length≠b.length:=by
   grind
  simp only [go_sem,aH,Gq,d1];exact .same (.refl _) ⟨by rw [fD e1]; rfl,rfl⟩
 have e1:a.length=b.length:=by grind
 simp only [go_sem,aH,Gq,d1];refine .intro (fun m ρ h' =>Ab.Sub h h'∧∃i:Nat,i≤a.length∧m=a.length - i∧(∀j (h1:j<a.length) (h2:j<b.length),j<i→gl a[j] b[j]=true)∧lk ρ 0=some (.sl (a.map aW) .no)∧lk ρ 1=some (.sl (b.map aW) .no)∧lk ρ 5=some (.v (.int .i64 i))) a.length ?_ ?_
 ·refine ⟨.refl _,0,by omega,rfl,fun j _ _ hj=>(by omega), ?_, ?_, ?_⟩<;>simp only [go_sem]
 ·rintro m ρ h' ⟨hs,i,hi,rfl,hc,r0,r1,r5⟩
  simp only [go_sem,r0,r1,r5,Gq];refine .intro (fun e=> ?_) (fun e=> ?_)
  ·have hlt:i<a.length:=Gx e
   have hlt2:i<b.length:=by omega
   have w1:IntKind.i64.wrap ((i:Int)+1)=((i+1:Nat):Int):=by
    have:=hwf (aH a) (by simp)
    simp only [aH,wfA,wf1,lim,Gq] at this;rw [aY _ (by omega)]; omega
   simp only [go_sem,r0,r1,r5,Gq];refine ⟨.of (by kernel_rfl), ?_⟩
   refine .at i (by grind) (by rw [Gr]; rfl) ?_
   simp only [go_sem,r0,r1,r5,Gr,aW];refine .at i (by grind) (by rw [Gr]; rfl) ?_
   simp only [go_sem,r0,r1,r5,Gr,aW];cases d3:gl a[i] b[i]
   ·have d4:=d3
    simp only [gl] at d4;simp only [go_sem,r0,r1,r5,d4];exact .mk _ (.refl _) hs ⟨by rw [gk i hlt hlt2 d3]; rfl,rfl⟩
   ·have d4:=d3
    simp only [gl] at d4;simp only [go_sem,r0,r1,r5,d4,w1];refine ⟨_, ?_,hs,i+1,by omega,rfl,fun j h1 h2 hj=> ?_, ?_, ?_, ?_⟩
    ·omega
    ·grind
    all_goals simp only [go_sem,r0,r1,r5,w1]
  ·have hge:i=a.length:=by grind
   subst hge;simp only [go_sem,r0,r1,r5];exact .mk _ (.refl _) hs ⟨by rw [ef e1 fun j h1 h2=>hc j h1 h2 h1]; rfl,rfl⟩
end Go.Proofs.YtfpckjaeeiiipaaDoor
namespace Go.Bf
open Go Go.Ab
def eqT (a b:gH):Bool:=eqL (eqL (eqL dD)) a b
def eqR (r s:cJ):Bool:=r.id==s.id && (r.deny==s.deny && (eqT r.tgt s.tgt && (eqL gl r.cond s.cond && eqL gR r.obls s.obls)))
mutual
def eqP:aR→aR→Bool
 | .mk i1 s1 a1 t1 r1 k1 o1, .mk i2 s2 a2 t2 r2 k2 o2=>i1==i2 && (s1==s2 && (a1==a2 && (eqT t1 t2 && (eqL gR o1 o2 && (eqL eqR r1 r2 && eqK k1 k2)))))
def eqK:List aR→List aR→Bool
 | [],[]=>true
 |x::a,y::b=>eqP x y && eqK a b
 |_,_=>false
end
theorem lX:∀a b:List aR,eqK a b=eqL eqP a b
 | [],[]=>rfl
 | [],_::_=>rfl
 |_::_,[]=>rfl
 |x::a,y::b=>by simp only [eqK,eqL,lX a b]
theorem vF (a b):eqT a b=true↔a=b:=iZ fun x y=>iZ fun x y=>iZ rZ
theorem zM (a b):eqR a b=true↔a=b:=by
 obtain ⟨a1,a2,a3,a4,a5⟩:=a;obtain ⟨b1,b2,b3,b4,b5⟩:=b
 grind [eqR,vF,iZ,uc,qg]
mutual
theorem vE:∀a b:aR,eqP a b=true↔a=b
 | .mk i1 s1 a1 t1 r1 k1 o1, .mk i2 s2 a2 t2 r2 k2 o2=>by
  simp only [eqP,Bool.and_eq_true,beq_iff_eq,vF,iZ qg,iZ zM,vD k1 k2,aR.mk.injEq];constructor
  ·rintro ⟨h1,h2,h3,h4,h5,h6,h7⟩; exact ⟨h1,h2,h3,h4,h6,h7,h5⟩
  ·rintro ⟨h1,h2,h3,h4,h5,h6,h7⟩; exact ⟨h1,h2,h3,h4,h7,h5,h6⟩
theorem vD:∀a b:List aR,eqK a b=true↔a=b
 | [],[]=>by simp [eqK]
 | [],_::_=>by simp [eqK]
 |_::_,[]=>by simp [eqK]
 |x::a,y::b=>by simp [eqK,vE x y,vD a b]
end
end Go.Bf
namespace Go.Proofs.YtfpckjaeeiiipaaDoor
open Go Go.Ab Go.Bf
theorem nD (a b) (h):aj Tryd.prog 33 [aC a,aC b] h fun r h' =>r= .v (.bool (eqT a b))∧h' =h:=by
 refine aj.body hU hm Tryd.func33 rfl (by kernel_rfl) 54 rfl [.tmp 4] rfl (Gp rfl) (fun hwf=> ?_)
 cases d1:((a.length:Int) !=(b.length:Int))
 case true=>
  have e1:a.length≠b.length:=by
   grind
  simp only [go_sem,aC,Gq,d1];exact .same (.refl _) ⟨by rw [eqT,fD e1]; rfl,rfl⟩
 have e1:a.length=b.length:=by grind
 have hwa:=hwf (aC a) (by simp)
 simp only [aC,wfA,wf1,lim,Gq] at hwa;simp only [go_sem,aC,Gq,d1];refine .intro (fun m ρ h' =>Ab.Sub h h'∧∃i:Nat,i≤a.length∧m=a.length - i∧(∀j (h1:j<a.length) (h2:j<b.length),j<i→eqL (eqL dD) a[j] b[j]=true)∧lk ρ 0=some (.sl (a.map aD) .no)∧lk ρ 1=some (.sl (b.map aD) .no)∧lk ρ 13=some (.v (.int .i64 a.length))∧lk ρ 14=some (.v (.int .i64 i))) a.length ?_ ?_
 ·refine ⟨.refl _,0,by omega,rfl,fun j _ _ hj=>(by omega), ?_, ?_, ?_, ?_⟩<;>simp only [go_sem]
 ·rintro m ρ h' ⟨hs,i,hi,rfl,hc,r0,r1,r13,r14⟩
  simp only [go_sem,r0,r1,r13,r14,Gq];refine .intro (fun e=> ?_) (fun e=> ?_)
  ·have hlt:i<a.length:=Gx e
   have hlt2:i<b.length:=by omega
   have w1:IntKind.i64.wrap ((i:Int)+1)=((i+1:Nat):Int):=by grind [aY]
   simp only [go_sem,r0,r1,r13,r14,Gq];refine ⟨.of (by kernel_rfl), ?_⟩
   refine .at i (by grind) (by rw [Gr]; rfl) ?_
   simp only [go_sem,r0,r1,r13,r14,Gr,aD];refine .at i (by grind) (by rw [Gr]; rfl) ?_
   cases d2:((a[i].length:Int) !=(b[i].length:Int))
   case true=>
    have e2:a[i].length≠b[i].length:=by
     grind
    simp only [go_sem,r0,r1,r13,r14,Gr,aD,Gq,d2];exact .mk _ (.refl _) hs ⟨by rw [eqT,gk i hlt hlt2 (fD e2)]; rfl,rfl⟩
   have e2:a[i].length=b[i].length:=by grind
   simp only [go_sem,r0,r1,r13,r14,Gr,aD,Gq,d2];refine .at i (by grind) (by rw [Gr]; rfl) ?_
   simp only [go_sem,r0,r1,r13,r14,Gr,aD,Gq];refine gD.wf fun hwi=> ?_
   have hwk:=hwi 31 (.sl (a[i].map bR) .no) (by simp only [go_sem])
   simp only [wfA,wf1,lim,Gq] at hwk;refine .intro (fun m ρ h' =>Ab.Sub h h'∧∃k:Nat,k≤a[i].length∧m=a[i].length - k∧(∀j (h1:j<a[i].length) (h2:j<b[i].length),j<k→eqL dD a[i][j] b[i][j]=true)∧lk ρ 5=some (.v (.int .i64 i))∧lk ρ 0=some (.sl (a.map aD) .no)∧lk ρ 1=some (.sl (b.map aD) .no)∧lk ρ 13=some (.v (.int .i64 a.length))∧lk ρ 14=some (.v (.int .i64 i))∧lk ρ 32=some (.v (.int .i64 a[i].length))∧lk ρ 33=some (.v (.int .i64 k))) a[i].length ?_ ?_
   ·refine ⟨hs,0,by omega,rfl,fun j _ _ hj=>(by omega), ?_, ?_, ?_, ?_, ?_, ?_, ?_⟩<;>simp only [go_sem,r0,r1,r13,r14]
   ·rintro m ρ h' ⟨hs,k,hk,rfl,hck,r5,r0,r1,r13,r14,r32,r33⟩
    simp only [go_sem,r0,r1,r5,r13,r14,r32,r33];refine .intro (fun e3=> ?_) (fun e3=> ?_)
    ·have hkt:k<a[i].length:=Gx e3
     have hkt2:k<b[i].length:=by omega
     simp only [go_sem,r0,r1,r5,r13,r14,r32,r33];refine .quiet (by kernel_rfl) ?_
     simp only [go_sem,r0,r1,r5,r13,r14,r32,r33];refine .at i (by grind) (by rw [Gr]; rfl) ?_
     simp only [go_sem,r0,r1,r5,r13,r14,r32,r33,Gr,aD];have w2:IntKind.i64.wrap ((k:Int)+1)=((k+1:Nat):Int):=by grind [aY]
     refine .at k (by grind) (by rw [Gr]; rfl) ?_
     simp only [go_sem,r0,r1,r5,r13,r14,r32,r33,Gr,bR];refine .at i (by grind) (by rw [Gr]; rfl) ?_
     simp only [go_sem,r0,r1,r5,r13,r14,r32,r33,Gr,aD];refine .at k (by grind) (by rw [Gr]; rfl) ?_
     simp only [go_sem,r0,r1,r5,r13,r14,r32,r33,Gr,bR];have hsm:=fun h=>pI a[i][k] b[i][k] h
     simp only [bR] at hsm;refine ⟨_,hsm _, ?_⟩;cases d3:eqL dD a[i][k] b[i][k]
     ·simp only [go_sem,r0,r1,r5,r13,r14,r32,r33,d3]
      exact .mk _ (.refl _) hs ⟨by rw [eqT,gk i hlt hlt2 (gk k hkt hkt2 d3)]; rfl,rfl⟩
     ·simp only [go_sem,r0,r1,r5,r13,r14,r32,r33,d3,w2]
      refine ⟨_, ?_,hs,k+1,by omega,rfl,fun j h1 h2 hj=> ?_, ?_, ?_, ?_, ?_, ?_, ?_, ?_⟩
      ·omega
      ·grind
      all_goals simp only [go_sem,r0,r1,r5,r13,r14,r32,r33,w2]
    ·have hge:k=a[i].length:=by grind
     subst hge;simp only [go_sem,r0,r1,r5,r13,r14,r32,r33,w1];refine ⟨_, ?_,hs,i+1,by omega,rfl,fun j h1 h2 hj=> ?_, ?_, ?_, ?_, ?_⟩
     ·omega
     ·grind [ef]
     all_goals simp only [go_sem,r0,r1,r13,r14,w1]
  ·have hge:i=a.length:=by grind
   subst hge;simp only [go_sem,r0,r1,r13,r14];exact .mk _ (.refl _) hs ⟨by rw [eqT,ef e1 fun j h1 h2=>hc j h1 h2 h1]; rfl,rfl⟩
set_option maxRecDepth 100000 in
theorem lD:∀(p q:aR) (h:Heap),aj Tryd.prog 15 [aE p,aE q] h fun r h' =>r= .v (.bool (eqP p q))∧h' =h
 | .mk i1 s1 a1 t1 r1 k1 o1, .mk i2 s2 a2 t2 r2 k2 o2,h=>by
  have ihk:∀(j:Nat) (hj:j<k1.length) (q:aR) (h:Heap),aj Tryd.prog 15 [aE k1[j],aE q] h fun r h' =>r= .v (.bool (eqP k1[j] q))∧h' =h:=
   fun j hj q h=>lD k1[j] q h
  refine aj.body hU hm Tryd.func15 rfl (by kernel_rfl) 134 rfl [.tmp 4] rfl (Gp rfl) (fun hwf=> ?_)
  have hlen:k1.length<9223372036854775808∧r1.length<9223372036854775808:=by
   have:=hwf (aE (.mk i1 s1 a1 t1 r1 k1 o1)) (by simp)
   simp only [aE,wfA] at this;have g1:=this (.sl (aZ k1) .no) (by simp)
   have g2:=this (.sl (r1.map aB) .no) (by simp)
   simp only [wf1,Gq,aG] at g1 g2;exact ⟨g1,g2⟩
  simp -implicitDefEqProofs only [go_sem,aE,aC,ay];intro ia hia;simp -implicitDefEqProofs only [go_sem];intro ib hib;have nab:=kE hib;have hs0:=fun b=>(Sub.ah hia).trans (.ah (k:=b) hib)
  generalize hH:upd (upd h ia _) ib _=hb;have hs0:Ab.Sub h hb:=by rw [←hH]; exact hs0 _
  have ga:hb ia=some (.obj [.s i1, .v (.bool s1), .v (.int .i64 a1), .sl (t1.map aD) .no, .sl (r1.map aB) .no, .sl (aZ k1) .no, .sl (o1.map aN) .no] 28):=by rw [←hH,af _ _ nab.symm,ag]
  have gb:hb ib=some (.obj [.s i2, .v (.bool s2), .v (.int .i64 a2), .sl (t2.map aD) .no, .sl (r2.map aB) .no, .sl (aZ k2) .no, .sl (o2.map aN) .no] 28):=by rw [←hH,ag]
  clear hH;have bad:eqP (.mk i1 s1 a1 t1 r1 k1 o1) (.mk i2 s2 a2 t2 r2 k2 o2)=false→(.v (.bool false):AV)= .v (.bool (eqP (.mk i1 s1 a1 t1 r1 k1 o1) (.mk i2 s2 a2 t2 r2 k2 o2)))∧h=h:=fun e=>⟨by rw [e],rfl⟩
  cases d1:(i1==i2)
  case false=>
   simp -implicitDefEqProofs only [go_sem,ga,gb,d1];exact .mk _ (.refl _) hs0 (bad (by simp [eqP,d1]))
  cases d2:(s1==s2)
  case false=>
   simp -implicitDefEqProofs only [go_sem,ga,gb,d1,d2];exact .mk _ (.refl _) hs0 (bad (by simp only [eqP,d2,Bool.false_and,Bool.and_false]))
  cases d3:(a1==a2)
  case false=>
   have d3' :(a1 !=a2)=true:=by simp only [bne,d3,Bool.not_false]
   simp -implicitDefEqProofs only [go_sem,ga,gb,d1,d2,d3'];exact .mk _ (.refl _) hs0 (bad (by simp only [eqP,d3,Bool.false_and,Bool.and_false]))
  have d3' :(a1 !=a2)=false:=by simp only [bne,d3,Bool.not_true]
  have f1:=nD t1 t2 hb;have f2:=nq o1 o2 hb;simp only [aC] at f1;simp only [ay] at f2;simp -implicitDefEqProofs only [go_sem,ga,gb,d1,d2,d3'];refine f1.pthen ?_;cases d4:eqT t1 t2
  case false=>
   simp -implicitDefEqProofs only [go_sem,ga,gb,d4];exact .mk _ (.refl _) hs0 (bad (by simp only [eqP,d4,Bool.false_and,Bool.and_false]))
  simp -implicitDefEqProofs only [go_sem,ga,gb,d4];refine f2.pthen ?_;cases d5:eqL gR o1 o2
  case false=>
   simp -implicitDefEqProofs only [go_sem,ga,gb,d5];exact .mk _ (.refl _) hs0 (bad (by simp only [eqP,d5,Bool.false_and,Bool.and_false]))
  cases d6:((r1.length:Int) !=(r2.length:Int))
  case true=>
   have e6:r1.length≠r2.length:=by intro e; rw [e] at d6; simp at d6
   simp -implicitDefEqProofs only [go_sem,ga,gb,d5,Gq,d6];exact .mk _ (.refl _) hs0 (bad (by simp only [eqP,fD e6,Bool.false_and,Bool.and_false]))
  have e6:r1.length=r2.length:=by have:(r1.length:Int)=r2.length:=(by simpa using d6); omega
  cases d7:((k1.length:Int) !=(k2.length:Int))
  case true=>
   have e7:k1.length≠k2.length:=by intro e; rw [e] at d7; simp at d7
   simp -implicitDefEqProofs only [go_sem,ga,gb,d5,Gq,d6,aG,d7];exact .mk _ (.refl _) hs0 (bad (by simp only [eqP,lX,fD e7,Bool.false_and,Bool.and_false]))
  have e7:k1.length=k2.length:=by have:(k1.length:Int)=k2.length:=(by simpa using d7); omega
  simp -implicitDefEqProofs only [go_sem,ga,gb,d5,Gq,d6,aG,d7];refine .intro (fun m ρ h' =>Ab.Sub hb h'∧∃i:Nat,i≤r1.length∧m=r1.length - i∧(∀j (h1:j<r1.length) (h2:j<r2.length),j<i→eqR r1[j] r2[j]=true)∧lk ρ 2=some (.ptr ia 0)∧lk ρ 3=some (.ptr ib 0)∧lk ρ 64=some (.v (.int .i64 r1.length))∧lk ρ 65=some (.v (.int .i64 i))) r1.length ?_ ?_
  ·refine ⟨.refl _,0,by omega,rfl,fun j _ _ hj=>(by omega), ?_, ?_, ?_, ?_⟩<;>simp -implicitDefEqProofs only [go_sem]
  ·rintro m ρ h' ⟨hs,i,hi,rfl,hc,q2,q3,q64,q65⟩
   have ga1:=hs _ _ ga;have gb1:=hs _ _ gb;simp -implicitDefEqProofs only [go_sem,q2,q3,q64,q65];refine .intro (fun e=> ?_) (fun e=> ?_)
   ·have hlt:i<r1.length:=Gx e
    have hlt2:i<r2.length:=by omega
    have w1:=Gw i (by omega)
    simp -implicitDefEqProofs only [go_sem,q2,q3,q64,q65];refine .tree h' (.news [0,1,2,3,4,5,6,7,8,9] [10,11] (.seq [12,13])) (.refl _) (by kernel_rfl) rfl ?_
    simp -implicitDefEqProofs only [go_sem,q2,q3,q64,q65,ga1,gb1];refine .at i (by simpa using hlt) (by rw [Gr]; rfl) ?_
    simp -implicitDefEqProofs only [go_sem,q2,q3,q64,q65,ga1,gb1,Gr,aB];refine .at i (by simpa using hlt2) (by rw [Gr]; rfl) ?_
    simp -implicitDefEqProofs only [go_sem,q2,q3,q64,q65,ga1,gb1,Gr,aB];refine ⟨.refl _,by simp, ?_⟩
    intro j6 h6 j7 h7;have n76:=kE h7;have h7a:=h7;rw [af _ _ n76] at h7a;have sb:=fun a b=>((Sub.refl h').put h6 a).put h7a b
    simp -implicitDefEqProofs only [go_sem,pO,n76,n76.symm];refine ⟨(sb _ _).put h6 _,((sb _ _).put h6 _).put h7a _, ?_⟩;generalize hH:upd (upd (upd (upd h' j6 _) j7 _) j6 _) j7 _=h2;have hs2:Ab.Sub h' h2:=by rw [←hH]; exact ((sb _ _).put h6 _).put h7a _
    have g6:h2 j6=some (.obj [.s r1[i].id, .v (.bool r1[i].deny), .sl (r1[i].tgt.map aD) .no, .sl (r1[i].cond.map aW) .no, .sl (r1[i].obls.map aN) .no] 54):=by rw [←hH,af _ _ n76.symm,ag]; rfl
    have g7:h2 j7=some (.obj [.s r2[i].id, .v (.bool r2[i].deny), .sl (r2[i].tgt.map aD) .no, .sl (r2[i].cond.map aW) .no, .sl (r2[i].obls.map aN) .no] 54):=by rw [←hH,ag]; rfl
    clear hH;have hs3:=hs.trans hs2;have f1:=nD r1[i].tgt r2[i].tgt h2;have f2:=q4 r1[i].cond r2[i].cond h2;have f3:=nq r1[i].obls r2[i].obls h2;have bad2:eqR r1[i] r2[i]=false→(.v (.bool false):AV)= .v (.bool (eqP (.mk i1 s1 a1 t1 r1 k1 o1) (.mk i2 s2 a2 t2 r2 k2 o2)))∧h=h:=fun e=>bad (by
     simp only [eqP,gk i hlt hlt2 e,Bool.false_and,Bool.and_false])
    cases c1:(r1[i].id==r2[i].id)
    case false=>
     simp -implicitDefEqProofs only [go_sem,q2,q3,q64,q65,g6,g7,c1];exact .mk _ (.refl _) (hs0.trans hs3) (bad2 (by simp only [eqR,c1,Bool.false_and,Bool.and_false]))
    cases c2:(r1[i].deny==r2[i].deny)
    case false=>
     simp -implicitDefEqProofs only [go_sem,q2,q3,q64,q65,g6,g7,c1,c2];exact .mk _ (.refl _) (hs0.trans hs3) (bad2 (by simp only [eqR,c2,Bool.false_and,Bool.and_false]))
    simp -implicitDefEqProofs only [go_sem,q2,q3,q64,q65,g6,g7,c1,c2];refine f1.pthen ?_;cases c3:eqT r1[i].tgt r2[i].tgt
    case false=>
     simp -implicitDefEqProofs only [go_sem,q2,q3,q64,q65,g6,g7,c3];exact .mk _ (.refl _) (hs0.trans hs3) (bad2 (by simp only [eqR,c3,Bool.false_and,Bool.and_false]))
    simp -implicitDefEqProofs only [go_sem,q2,q3,q64,q65,g6,g7,c3];refine f2.pthen ?_;cases c4:eqL gl r1[i].cond r2[i].cond
    case false=>
     simp -implicitDefEqProofs only [go_sem,q2,q3,q64,q65,g6,g7,c4];exact .mk _ (.refl _) (hs0.trans hs3) (bad2 (by simp only [eqR,c4,Bool.false_and,Bool.and_false]))
    simp -implicitDefEqProofs only [go_sem,q2,q3,q64,q65,g6,g7,c4];refine f3.pthen ?_;cases c5:eqL gR r1[i].obls r2[i].obls
    case false=>
     simp -implicitDefEqProofs only [go_sem,q2,q3,q64,q65,g6,g7,c5];exact .mk _ (.refl _) (hs0.trans hs3) (bad2 (by simp only [eqR,c5,Bool.false_and,Bool.and_false]))
    simp -implicitDefEqProofs only [go_sem,q2,q3,q64,q65,g6,g7,c5,w1];refine ⟨_, ?_,hs3,i+1,by omega,rfl,fun j h1 h2 hj=> ?_, ?_, ?_, ?_, ?_⟩
    ·omega
    ·by_cases hji:j=i
     ·subst hji; simp only [eqR,c1,c2,c3,c4,c5,Bool.and_self]
     ·exact hc j h1 h2 (by omega)
    all_goals simp -implicitDefEqProofs only [go_sem,q2,q3,q64,q65,w1]
   ·have hge:i=r1.length:=by have:=Gt e; omega
    subst hge;have hrr:eqL eqR r1 r2=true:=ef e6 fun j h1 h2=>hc j h1 h2 h1
    simp -implicitDefEqProofs only [go_sem,q2,q3,q64,q65,ga1,gb1,aG,Gq];refine .intro (fun m ρ h' =>Ab.Sub hb h'∧∃i:Nat,i≤k1.length∧m=k1.length - i∧(∀j (h1:j<k1.length) (h2:j<k2.length),j<i→eqP k1[j] k2[j]=true)∧lk ρ 2=some (.ptr ia 0)∧lk ρ 3=some (.ptr ib 0)∧lk ρ 117=some (.v (.int .i64 k1.length))∧lk ρ 118=some (.v (.int .i64 i))) k1.length ?_ ?_
    ·refine ⟨hs,0,by omega,rfl,fun j _ _ hj=>(by omega), ?_, ?_, ?_, ?_⟩<;>simp -implicitDefEqProofs only [go_sem,q2,q3]
    ·rintro m ρ h' ⟨hs,i,hi,rfl,hc,q2,q3,q117,q118⟩
     have ga1:=hs _ _ ga;have gb1:=hs _ _ gb;simp -implicitDefEqProofs only [go_sem,q2,q3,q117,q118];refine .intro (fun e=> ?_) (fun e=> ?_)
     ·have hlt:i<k1.length:=Gx e
      have hlt2:i<k2.length:=by omega
      have w1:=Gw i (by omega)
      have ihi:=ihk i hlt k2[i] h';simp -implicitDefEqProofs only [go_sem,q2,q3,q117,q118,ga1,gb1];refine .quiet (by kernel_rfl) ?_
      simp -implicitDefEqProofs only [go_sem,q2,q3,q117,q118,ga1,gb1,aG];cases ek1:k1[i] with
      |mk x1 x2 x3 x4 x5 x6 x7=>
      cases ek2:k2[i] with
      |mk y1 y2 y3 y4 y5 y6 y7=>
      have ihi2:=ihi;rw [ek1,ek2] at ihi;simp only [aE,aC,ay] at ihi;refine .at i (by simpa using hlt) (by rw [Gr]; exact er _) ?_
      simp -implicitDefEqProofs only [go_sem,q2,q3,q117,q118,ga1,gb1,Gr,ek1,aE,aC,ay,aG];refine .at i (by simpa using hlt2) (by rw [Gr]; exact er _) ?_
      simp -implicitDefEqProofs only [go_sem,q2,q3,q117,q118,ga1,gb1,Gr,ek2,aE,aC,ay,aG];simp only [aG] at ihi;refine ⟨_,ihi, ?_⟩;rw [←ek1,←ek2];cases c6:eqP k1[i] k2[i]
      ·simp -implicitDefEqProofs only [go_sem,q2,q3,q117,q118]
       exact .mk _ (.refl _) (hs0.trans hs) (bad (by simp only [eqP,lX,gk i hlt hlt2 c6,Bool.and_false]))
      ·simp -implicitDefEqProofs only [go_sem,q2,q3,q117,q118,w1]
       refine ⟨_, ?_,hs,i+1,by omega,rfl,fun j h1 h2 hj=> ?_, ?_, ?_, ?_, ?_⟩
       ·omega
       ·by_cases hji:j=i
        ·subst hji; exact c6
        ·exact hc j h1 h2 (by omega)
       all_goals simp -implicitDefEqProofs only [go_sem,q2,q3,q117,q118,w1]
     ·have hge:i=k1.length:=by have:=Gt e; omega
      subst hge;have hkk:eqL eqP k1 k2=true:=ef e7 fun j h1 h2=>hc j h1 h2 h1
      simp -implicitDefEqProofs only [go_sem,q2,q3,q117,q118];exact .mk _ (.refl _) (hs0.trans hs) ⟨by simp only [eqP,d1,d2,d3,d4,d5,hrr,lX,hkk,Bool.and_self]; rfl,rfl⟩
termination_by p=>SizeOf.sizeOf p
decreasing_by
 have:=List.sizeOf_lt_of_mem (Gv hj);simp only [aR.mk.sizeOf_spec];omega
end Go.Proofs.YtfpckjaeeiiipaaDoor
