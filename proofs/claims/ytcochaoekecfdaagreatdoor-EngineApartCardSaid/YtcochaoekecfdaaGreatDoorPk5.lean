/- The law EngineApart: pack 5 of its texts. -/
import Derived.WalkKit
import Derived.Lib.Walk
import Derived.Lib.SliceRun
import Derived.Lib.AppendZerosOnto
import Derived.Test.YtcochaoekecfdaaGreatDoorPk1
import Derived.Test.YtcochaoekecfdaaGreatDoorPk2
import Derived.Test.YtcochaoekecfdaaGreatDoorPk3
import Derived.Test.YtcochaoekecfdaaGreatDoorPk4
set_option linter.unusedSimpArgs false
set_option linter.unusedVariables false
set_option maxRecDepth 100000
namespace Go.Bf
open Go Go.Ab
def IC(o:OpD):OpD:={o with subj:=o.subj.take 20,case:=o.case.take 20,field:=o.field.take 20,to:=o.to.take 20,val:={o.val with s:=o.val.s.take 70},reason:=o.reason.take 70,text:=if o.text.length≤4096 then o.text.take 1000 else o.text}
def tT(m:Int)(b:Nat):Nat:=(if m.tmod (b+1)<0 then m.tmod (b+1)+(b+1)else m.tmod (b+1)).toNat
theorem FJ(m:Int)(b:Nat):tT m b≤b:=by
 have t1:=Int.tmod_lt_of_pos m (show(0:Int)<b+1 by omega)
 unfold tT;split<;>omega
end Go.Bf
namespace Go.Proofs.YtcochaoekecfdaaGreatDoor
open Go Go.Ab Go.Bf
theorem mg(s:Txt)(n:Nat)(hn:n≤1000000)(h:Heap):ai Tryz.prog 50 [.s s,.i n] h fun r h' =>r= .s (s.take n)∧h' =h:=by
 refine abg Tryz.func50 11 [.tmp 4] fun hwf=>?_
 have e:(if(n:Int)<(s.length:Int)then(n:Int)else(s.length:Int))=((min n s.length:Nat):Int):=abh
 simp only[go_sem,e];refine⟨abh,abh,abh,?_⟩;simp only[go_sem,Option.isSome_none,Option.isSome_some,sw,Int.toNat_natCast];exact .same (.refl _) ⟨by rw[List.take_eq_take_min (i:=n) (l:=s)];rfl,rfl⟩
theorem Ji(m:Int)(b:Nat)(h:Heap)(hm' : -9223372036854775808≤m∧m≤9223372036854775807)(hb:b≤1099511627776):
  ai Tryz.prog 25 [.i m,.i 0,.i b] h fun r h' =>r= .i (tT m b)∧h' =h:=by
 have w0:IntKind.i64.wrap ((b:Int) - 0)=b:=IntWalk.i64_in _ abh;have w1:IntKind.i64.wrap (b:Int)=b:=IntWalk.i64_in _ abh;have w2:IntKind.i64.wrap ((b:Int)+1)=(b:Int)+1:=IntWalk.i64_in _ abh;have t1:=Int.tmod_lt_of_pos m (show 0<(b:Int)+1 by omega)
 have t2:=Int.lt_tmod_of_pos m (show 0<(b:Int)+1 by omega)
 have hd:(tT m b:Int)=if m.tmod (b+1)<0 then m.tmod (b+1)+(b+1)else m.tmod (b+1):=by
  grind [tT]
 generalize hq:m.tmod ((b:Int)+1)=q at t1 t2 hd;have w3:IntKind.i64.wrap (q+b)=q+b:=IntWalk.i64_in _ abh;have w4:IntKind.i64.wrap (q+b - 0)=q+b:=abi;have w5:IntKind.i64.wrap (q+b+1)=q+b+1:=IntWalk.i64_in _ abh;refine abg Tryz.func25 24 [.tmp 6] fun hwf=>?_
 simp only[go_sem,w1,w2,hq,Int.sub_zero];refine⟨abh,.intro (fun e=>?_) (fun e=>?_)⟩
 ·have e:=aa9 e
  rw[if_pos e]at hd;simp only[go_sem,w3,w5,Int.sub_zero];have w6:IntKind.i64.wrap (0+(q+b+1))=q+b+1:=abi;have w7:IntKind.i64.wrap (q+b+1)=q+b+1:=IntWalk.i64_in _ abh;simp only[go_sem,w7,Int.zero_add];exact .same (.refl _) ⟨by grind [au,Int.add_assoc],rfl⟩
 ·have e:=aba e
  rw[if_neg e]at hd;have w7:IntKind.i64.wrap q=q:=IntWalk.i64_in q abh;have w6:IntKind.i64.wrap (0+q)=q:=abi;simp only[go_sem,w7,Int.zero_add];exact .same (.refl _) ⟨by rw[hd];rfl,rfl⟩
theorem KX(o:OpD)(h:Heap):ai Tryz.prog 21 [opA o] h fun r h' =>r=opA (IC o)∧h' =h:=by
 refine abg Tryz.func21 38 [.cell 2 32] fun hwf=>?_
 simp only[go_sem,opA,opC];intro i1 h1;simp only[go_sem];intro i2 h2;have n21:=aH h2;have n2:=aB h2;simp only[go_sem];have hns:∀G,Ab.Sub cF G:=fun G _ _ e=>abI
 have hs:∀a b,Ab.Sub h (upd (upd h i1 a) i2 b):=fun a b=>((Sub.refl h).put h1 a).put n2 b
 refine .stage (pick (upd (upd h i1 (some (.obj [.i o.kind,.s o.subj,.s o.case,.s o.field,.s o.to,.i o.val.kind,.i o.val.n,.s o.val.s,.i o.review,.s o.text,.s o.reason,.b o.glass] 32))) i2 _) [i1]) [0,1,3,4,6,7,9,10,2,12,5,8,11] [13,14,15,16,17,18,19] bw abl ?_;simp only[go_sem,bz (show i1∈ [i1] by simp),aj,n21.symm]
 refine(show ai Tryz.prog 50 [_,.i ((20:Nat):Int)] _ _ from(mg _ 20 abk _).mono fun r h' ⟨e1,e2⟩=>?_)
 subst e1;subst e2
 refine⟨bw,?_⟩;simp only[go_sem];refine(show ai Tryz.prog 50 [_,.i ((20:Nat):Int)] _ _ from(mg _ 20 abk _).mono fun r h' ⟨e1,e2⟩=>?_)
 subst e1;subst e2
 refine⟨bw,?_⟩;simp only[go_sem];refine(show ai Tryz.prog 50 [_,.i ((20:Nat):Int)] _ _ from(mg _ 20 abk _).mono fun r h' ⟨e1,e2⟩=>?_)
 subst e1;subst e2
 refine⟨bw,?_⟩;simp only[go_sem];refine(show ai Tryz.prog 50 [_,.i ((20:Nat):Int)] _ _ from(mg _ 20 abk _).mono fun r h' ⟨e1,e2⟩=>?_)
 subst e1;subst e2
 refine⟨bw,?_⟩;simp only[go_sem];refine⟨cF,hns _,?_⟩;simp only[go_sem,aj,n21.symm];refine⟨hns _,hns _,hns _,hns _,?_⟩;refine .stage (pick _ [i1]) [0,1,2,4,5,3,7,8,6] [9,10,11] bw abl ?_;simp only[go_sem,bz (show i1∈ [i1] by simp)]
 refine(show ai Tryz.prog 50 [_,.i ((70:Nat):Int)] _ _ from(mg _ 70 abk _).mono fun r h' ⟨e1,e2⟩=>?_)
 subst e1;subst e2
 refine⟨bw,?_⟩;simp only[go_sem];refine(show ai Tryz.prog 50 [_,.i ((70:Nat):Int)] _ _ from(mg _ 70 abk _).mono fun r h' ⟨e1,e2⟩=>?_)
 subst e1;subst e2
 refine⟨bw,?_⟩;simp only[go_sem];refine⟨cF,hns _,?_⟩;simp only[go_sem];refine⟨hns _,hns _,?_⟩;cases d1:decide ((o.text.length:Int)≤4096)
 ·have p1:¬o.text.length≤4096:=by grind
  exact agz
 ·have p1:o.text.length≤4096:=by grind
  simp only[go_sem];refine(show ai Tryz.prog 50 [_,.i ((1000:Nat):Int)] _ _ from(mg _ 1000 abk _).mono fun r h' ⟨e1,e2⟩=>?_)
  subst e1;subst e2
  exact agz
end Go.Proofs.YtcochaoekecfdaaGreatDoor
namespace Go.Bf
open Go Go.Ab
def iB(cat:Int)(name:Txt)(g:bk):Bool:=g.cat==cat && g.name==name
def getD(l:List bk)(cat:Int)(name:Txt):List bA:=match l.find? (iB cat name)with
 |some g=>g.bag
 |none=>[]
end Go.Bf
namespace Go.Proofs.YtcochaoekecfdaaGreatDoor
open Go Go.Ab Go.Bf
theorem Ko{α:Type}(y:AV)(xs:List AV)(ds:List α)(q:α→Bool)(g:FuncId)(cap:List AV)(h:Heap)(hb:Rd h 3 y xs)(hn:xs.length=ds.length)(hl:xs.length≤1000000000)(hx:∀x∈xs,bx x=true)
  (hp:∀i (h1:i<xs.length) (h2:i<ds.length),ai Tryz.prog g (xs[i]::cap) h fun r h' =>r= .b (q ds[i])∧h' =h):
  ai Tryz.prog 310 [y,.fn g cap] h fun r h' =>r= .i (ixD q ds)∧h' =h:=by
 refine abg Tryz.func310 19 [.tmp 4] fun hwf=>?_
 simp only[go_sem,hb.len];refine .intro (fun m ρ h' =>h' =h∧∃i:Nat,i≤xs.length∧m=xs.length - i∧(∀j (hj:j<i) (h2:j<ds.length),q ds[j]=false)∧lk ρ 0=some y∧lk ρ 1=some (.fn g cap)∧lk ρ 7=some (.i xs.length)∧lk ρ 8=some (.i i)) xs.length ?_ ?_
 ·refine⟨rfl,0,abh,rfl,fun j hj=>abh,?_,?_,?_,?_⟩<;>simp only[go_sem]
 ·rintro m ρ h' ⟨rfl,i,hi,rfl,hc,r0,r1,r7,r8⟩
  simp only[go_sem,r7,r8];refine .intro (fun e=>?_) (fun e=>?_)
  ·have hlt:i<xs.length:=abe e
   have hlt2:i<ds.length:=abh;have w1:IntKind.i64.wrap ((i:Int)+1)=((i+1:Nat):Int):=abv;simp only[go_sem,r0,r1,r8];refine hb.idx (e:=196) i rfl hlt abx abk fun p hp1=>?_
   have hld:=hp1.all (U:=U) (ty:=196) abk ab8 ac4;simp only[go_sem,hld];refine(show ai Tryz.prog g (xs[i]::cap) _ _ from hp i hlt hlt2).pthen ?_
   cases d1:q ds[i]
   ·simp only[go_sem,r8,w1]
    refine⟨_,?_,rfl,i+1,abh,rfl,fun j hj h2=>?_,?_,?_,?_,?_⟩
    ·omega
    ·grind
    all_goals simp only[go_sem,r0,r1,r7]
   ·simp only[go_sem]
    exact .same (.refl _) ⟨abW,rfl⟩
  ·have hge:i=xs.length:=by grind
   simp only[go_sem];exact .same (.refl _) ⟨abK,rfl⟩
theorem IJ{h:Heap}(g:bk){k1 k2:Nat}{cat:Int}{name:Txt}(h1:h k1=some (.obj [.i cat] 3))(h2:h k2=some (.obj [.s name] 9)):ai Tryz.prog 311 [kG g,.ptr k1 0,.ptr k2 0] h fun r h' =>r= .b (iB cat name g)∧h' =h:=by
 refine abg Tryz.func311 15 [.tmp 4] fun hwf=>?_
 simp only[go_sem,kG];intro i1 hi1;have n1:k1≠i1:=fun e=>abi
 have n2:k2≠i1:=fun e=>abi
 simp only[go_sem,aj,n1,h1];cases d1:(g.cat==cat)
 ·simp only[go_sem]
  exact .mk _ (.refl _) (.ak hi1) ⟨by simp only[iB,d1];rfl,rfl⟩
 ·simp only[go_sem,aj,n2,h2]
  exact .mk _ (.refl _) (.ak hi1) ⟨by simp only[iB,d1];rfl,rfl⟩
theorem Lb(gs:List bk)(cat:Int)(name:Txt)(hl:gs.length≤1000000000)(h:Heap):ai Tryz.prog 282 [bH gs,.i cat,.s name] h fun r h' =>r= .i (ixD (iB cat name) gs)∧h' =h:=by
 refine abg Tryz.func282 10 [.tmp 6] fun hwf=>?_
 simp only[go_sem,bH];intro i1 h1;simp only[go_sem];intro i2 h2;have n2:=aB h2;have hs:∀a b,Ab.Sub h (upd (upd h i1 a) i2 b):=fun a b=>((Sub.refl h).put h1 a).put n2 b
 simp only[go_sem];refine(Ko _ _ gs (iB cat name) _ [.ptr i1 0,.ptr i2 0] _ (eJ kG 3 (fun _=>rfl) _ gs) abp abi (nU (fun _=>rfl) _) fun i a b=>by
  rw[aa8];exact IJ _ (by grind [ag,ah]) (ah ..)).pthen ?_
 simp only[go_sem];exact acR
theorem get_at{gs:List bk}{cat:Int}{name:Txt}(h:gs.findIdx (iB cat name)<gs.length):getD gs cat name=gs[gs.findIdx (iB cat name)].bag:=by
 unfold getD;rw[show gs.find? (iB cat name)=some gs[gs.findIdx (iB cat name)]from List.find?_eq_some_iff_getElem.2 ⟨List.findIdx_getElem (w:=h),_,h,rfl,fun j hj=>abi⟩]
theorem PW{gs:List bk}{cat:Int}{name:Txt}(h:¬gs.findIdx (iB cat name)<gs.length):getD gs cat name= []:=by
 grind [getD,iB,List.findIdx_le_length,List.find?_eq_none,List.findIdx_eq_length]
end Go.Proofs.YtcochaoekecfdaaGreatDoor
namespace Go.Bf
open Go Go.Ab
def cT:Txt:=[99]
def stC(st:Txt)(log:List wO):aK:=⟨cT,St,st,[],log⟩
def oR:List Txt:=[jj,vS,zU,gH]
abbrev lt(a b:Txt):Prop:=Op.bytesLess a b=true
theorem lt_irrefl:∀a:Txt,¬lt a a
 | []=>abk
 |a::x=>by
  have:=lt_irrefl x;simp only[lt,Op.bytesLess,Bool.or_eq_true,Bool.and_eq_true,decide_eq_true_eq,beq_self_eq_true,true_and,not_or];exact⟨UInt8.lt_irrefl a,this⟩
theorem lt_trans:∀ {a b c:Txt},lt a b→lt b c→lt a c
 |_,[],_,h,_=>by simp_all [Txt,lt,Op.bytesLess]
 | [],b::y,c,_,h=>by cases c<;>simp[lt,Op.bytesLess]at h⊢
 |a::x,b::y,[],_,h=>by simp[lt,Op.bytesLess]at h
 |a::x,b::y,c::z,h1,h2=>by
  simp only[lt,Op.bytesLess,Bool.or_eq_true,Bool.and_eq_true,decide_eq_true_eq,beq_iff_eq]at h1 h2⊢;rcases h1 with h1|⟨rfl,h1⟩
  ·grind
  ·rcases h2 with h2|⟨rfl,h2⟩
   ·grind
   ·exact .inr ⟨rfl,lt_trans h1 h2⟩
theorem Al:∀a b:Txt,lt a b∨a=b∨lt b a
 | [],[]=>abp
 | [],b::y=> .inl rfl
 |a::x,[]=> .inr (.inr rfl)
 |a::x,b::y=>by
  simp only[lt,Op.bytesLess,Bool.or_eq_true,Bool.and_eq_true,decide_eq_true_eq,beq_iff_eq];rcases UInt8.lt_or_lt_of_ne (a:=a) (b:=b)with h
  by_cases e:a=b
  ·subst e
   rcases Al x y with h|rfl|h
   ·grind
   ·simp
   grind
  grind
def Asc(cs:List aK):Prop:=cs.Pairwise fun a b=>lt a.id b.id
theorem F4{c:aK}{cs:List aK}{id:Txt}(h:¬lt c.id id):findD (c::cs) id=0:=by
 simp_all [Op.bytesLess,false,findD,List.findIdx_cons,geB]
theorem F5{c:aK}{cs:List aK}{id:Txt}(h:lt c.id id):findD (c::cs) id=findD cs id+1:=by
 simp_all [Op.bytesLess,true,findD,List.findIdx_cons,geB]
theorem uU:∀ {cs:List aK},Asc cs→∀id,bX cs id=cs.any fun c=>c.id==id
 | [],_,id=>rfl
 |c::cs,h,id=>by
  obtain⟨h1,h2⟩:=List.pairwise_cons.1 h
  by_cases hl:lt c.id id
  ·have hne:(c.id==id)=false:=by
    grind [beq_eq_false_iff_ne,lt_irrefl]
   have e:bX (c::cs) id=bX cs id:=by
    grind [bX,F5]
   rw[e,uU h2 id,List.any_cons,hne,Bool.false_or]
  ·have e:bX (c::cs) id=(c.id==id):=by
    grind [bX,F4]
   rw[e,List.any_cons];cases hc:(c.id==id)
   ·have hlt:lt id c.id:=by
     rcases Al c.id id with h|h|h
     ·grind
     ·grind
     omega
    grind
   ·simp
theorem FU:∀ {cs:List aK},Asc cs→∀c:aK,(cs.any fun d=>d.id==c.id)=false→Asc (cs.take (findD cs c.id)++ [c]++cs.drop (findD cs c.id))
 | [],_,c,_=>by simp[Asc,findD]
 |d::cs,h,c,hn=>by
  obtain⟨h1,h2⟩:=List.pairwise_cons.1 h;simp only[List.any_cons,Bool.or_eq_false_iff]at hn
  by_cases hl:lt d.id c.id
  ·rw[F5 hl]
   simp only[List.take_succ_cons,List.drop_succ_cons,List.cons_append];refine List.pairwise_cons.2 ⟨fun e he=>?_,FU h2 c hn.2⟩
   grind
  ·rw[F4 hl]
   have hlt:lt c.id d.id:=by
    rcases Al d.id c.id with h|h|h
    ·grind
    ·grind
    omega
   refine List.pairwise_cons.2 ⟨fun e he=>?_,h⟩
   rcases List.mem_cons.1 he with rfl|he
   ·omega
   grind [lt_trans]
def D5(fs:List cV):Prop:=fs.Pairwise fun a b=>lt a.name b.name
theorem AW(name:Txt)(v:bA):eT [] name v= [⟨name,v⟩]:=rfl
theorem yZ{f:cV}{fs:List cV}{name:Txt}{v:bA}(h:lt f.name name):eT (f::fs) name v=f::eT fs name v:=by
 have hb:Op.bytesLess f.name name=true:=h;unfold eT;simp only[List.findIdx_cons,geB,hb,Bool.not_true,cond_false,List.getElem?_cons_succ];generalize hi:fs.findIdx (fun f=> !Op.bytesLess f.name name)=i
 cases e:fs[i]? with
 |none=>simp
 |some g=>
  by_cases hg:g.name=name
  ·simp[hg]
  ·simp[hg]
theorem yX{f:cV}{fs:List cV}{name:Txt}{v:bA}(h:f.name=name):eT (f::fs) name v=⟨f.name,v⟩::fs:=by
 subst h;have hb:Op.bytesLess f.name f.name=false:=by
  grind [Op.bytesLess,lt_irrefl]
 unfold eT;simp[List.findIdx_cons,geB,hb]
theorem yY{f:cV}{fs:List cV}{name:Txt}{v:bA}(h:lt name f.name):eT (f::fs) name v=⟨name,v⟩::f::fs:=by
 have hb:Op.bytesLess f.name name=false:=by
  grind [Op.bytesLess,lt_irrefl,lt_trans]
 have hne:f.name≠name:=fun e=>by rw[e]at h;exact lt_irrefl _ h
 unfold eT;simp[List.findIdx_cons,geB,hb,hne]
theorem u0:∀ {fs:List cV} {name:Txt} {v:bA} {g:cV},g∈eT fs name v→g=⟨name,v⟩∨g∈fs
 | [],name,v,g,h=>by grind [AW,List.mem_singleton]
 |f::fs,name,v,g,h=>by
  rcases Al f.name name with hl|hl|hl
  ·rw[yZ hl]at h
   rcases List.mem_cons.1 h with rfl|h
   ·simp
   ·rcases u0 h with h|h
    ·grind
    grind
  ·rw[yX hl]at h
   grind
  ·rw[yY hl]at h
   grind
theorem AT:∀ {fs:List cV} {name:Txt} {v:bA},D5 fs→D5 (eT fs name v)
 | [],name,v,_=>by grind [AW,D5]
 |f::fs,name,v,h=>by
  obtain⟨h1,h2⟩:=List.pairwise_cons.1 h;rcases Al f.name name with hl|hl|hl
  ·rw[yZ hl]
   refine List.pairwise_cons.2 ⟨fun g hg=>?_,AT h2⟩
   rcases u0 hg with rfl|hg
   ·omega
   grind
  ·rw[yX hl]
   exact List.pairwise_cons.2 ⟨h1,h2⟩
  ·rw[yY hl]
   refine List.pairwise_cons.2 ⟨fun g hg=>?_,h⟩
   rcases List.mem_cons.1 hg with rfl|hg
   ·omega
   grind [lt_trans]
theorem AU:∀ {fs:List cV} {name:Txt} {v:bA},D5 fs→(eT fs name v).length=if fs.any (fun f=>f.name==name)then fs.length else fs.length+1
 | [],name,v,_=>rfl
 |f::fs,name,v,h=>by
  obtain⟨h1,h2⟩:=List.pairwise_cons.1 h;rcases Al f.name name with hl|hl|hl
  ·have hne:(f.name==name)=false:=by grind [beq_eq_false_iff_ne,lt_irrefl]
   rw[yZ hl,List.length_cons,AU h2,List.any_cons,hne,Bool.false_or];split<;>simp
  ·grind [yX]
  ·have hne:(f.name==name)=false:=by grind [beq_eq_false_iff_ne,lt_irrefl]
   have hno:(fs.any fun f=>f.name==name)=false:=List.any_eq_false.2 fun g hg he=>by
    have:=lt_trans hl (h1 g hg);rw[beq_iff_eq.1 he]at this;exact lt_irrefl _ this
   rw[yY hl,List.any_cons,hne,hno];simp
theorem EA(f:cV)(fs:List cV)(n:Txt):eC (f::fs) n=if f.name=n then f.val else eC fs n:=by
 grind [eC]
def mkC(who id:Txt):aK:=⟨id,who,jj,[],[⟨0,who,[110,101,119]⟩]⟩
def VL(cs:List aK)(id:Txt):Bool:=cs.any fun c=>c.id==id
end Go.Bf
namespace Go.Ab
open Go
section
variable {α : Type}
def dget(l:List (List UInt8×α))(k:List UInt8):Option α:=(l.find? fun p=>p.1==k).map (·.2)
def dset(l:List (List UInt8×α))(k:List UInt8)(v:α):List (List UInt8×α):=if(dget l k).isSome then l.map (fun p=>if p.1==k then(p.1,v)else p)else l++ [(k,v)]
end
end Go.Ab
namespace Go.Bf
open Go Go.Ab Go.Proofs.YtcochaoekecfdaaGreatDoor
structure Own (cs:List aK) (own:List (Txt×Txt)):Prop where
 asc:Asc cs
 len:cs.length=own.length
 small:cs.length≤64
 mem:∀c∈cs,c=mkC c.owner c.id∧dget own c.id=some c.owner
 has:∀id,VL cs id=(dget own id).isSome
 who:∀id w,dget own id=some w→w≠ []
 keys:∀p∈own,p.1.length≤3
theorem pP:∀ {cs:List aK},Asc cs→∀ {id:Txt},bX cs id=true→bt cs id∈cs∧(bt cs id).id=id:=by
 unfold bt
 grind [bX,List.getElem?_eq_getElem]
end Go.Bf
namespace Go.Proofs.YtcochaoekecfdaaGreatDoor
open Go Go.Ab Go.Bf
def nw(o:OpD):Prop:=i64 o.kind∧i64 o.val.kind∧i64 o.val.n∧i64 o.review
theorem JZ{x:AV}(h:Dat U 30 x):∃v,x=aR v∧i64 v.kind∧i64 v.n:=by
 obtain⟨ys,rfl,hys⟩:=h.AI (show(U 30).k= .strct [(0,3),(1,3),(2,9)] by rfl)
 obtain⟨y0,_,rfl,d0,y1,_,rfl,d1,y2,_,rfl,d2,rfl⟩:=hys;obtain⟨n,rfl,hn⟩:=d0.i64 abx;obtain⟨m,rfl,hm⟩:=d1.i64 abx;obtain⟨s,rfl,_⟩:=d2.oT abx;exact⟨⟨n,m,s⟩,abx,hn,hm⟩
theorem JY{x:AV}(h:Dat U 32 x):∃o,x=opA o∧nw o:=by
 obtain⟨ys,rfl,hys⟩:=h.AI (show(U 32).k= .strct [(0,3),(1,9),(2,9),(3,9),(4,9),(5,30),(8,3),(9,9),(10,9),(11,4)] by rfl)
 obtain⟨y0,_,rfl,d0,y1,_,rfl,d1,y2,_,rfl,d2,y3,_,rfl,d3,y4,_,rfl,d4,y5,_,rfl,d5,y6,_,rfl,d6,y7,_,rfl,d7,y8,_,rfl,d8,y9,_,rfl,d9,rfl⟩:=hys;obtain⟨a,rfl,ha⟩:=d0.i64 abx;obtain⟨b,rfl,_⟩:=d1.oT abx;obtain⟨c,rfl,_⟩:=d2.oT abx;obtain⟨d,rfl,_⟩:=d3.oT abx;obtain⟨e,rfl,_⟩:=d4.oT abx;obtain⟨v,rfl,hv1,hv2⟩:=JZ d5;obtain⟨r,rfl,hr⟩:=d6.i64 abx;obtain⟨t,rfl,_⟩:=d7.oT abx;obtain⟨s,rfl,_⟩:=d8.oT abx;obtain⟨g,rfl⟩:=d9.JM abx;exact⟨⟨a,b,c,d,e,v,r,t,s,g⟩,abx,ha,hv1,hv2,hr⟩
theorem KW{o:OpD}(h:nw o):nw (IC o):=h
theorem inH{P:Program}{f:FuncId}{args:List AV}{h:Heap}{Q:AV→Heap→Prop}(hh:∀H2,H2=h→ai P f args H2 Q):ai P f args h Q:=hh h rfl
end Go.Proofs.YtcochaoekecfdaaGreatDoor
namespace Go.Bf
open Go Go.Ab Go.Proofs.YtcochaoekecfdaaGreatDoor
def VM(v:Int):bA:=⟨2,v,[]⟩
structure Last (fs:List cV) (last:List (Txt×Int)):Prop where
 asc:D5 fs
 len:fs.length=last.length
 small:fs.length≤16
 kind:∀f∈fs,f.val.kind=2
 get:∀n,eC fs n=((dget last n).map VM).getD ax
 keys:∀p∈last,p.1.length=2
end Go.Bf
namespace Go.Bf
open Go Go.Ab
def Fine(n:Nat)(st:PS):Prop:=(st.bad=0∨st.bad=5∨st.bad=6)∧0≤st.place∧st.place≤n
def AY(n:Nat)(ts:List qZ):Prop:=∀i,0≤(ts.getD i ⟨7,0,0,[]⟩).pos∧(ts.getD i ⟨7,0,0,[]⟩).pos≤n
theorem xC{n:Nat}{st:PS}{e p:Int}(h:Fine n st)(he:e=5∨e=6)(h0:0≤p)(h1:p≤n):Fine n (bG st e p):=by
 unfold bG;split
 ·exact⟨.inr he,h0,h1⟩
 omega
theorem Cz{n:Nat}{a b:PS}(h:Rch a b)(ht:AY n a.ts)(hf:Fine n a):Fine n b:=by
 induction h with
 |refl=>omega
 |wrong e p h1 he hp ih=>
  obtain⟨i,_,rfl⟩:=hp;rw[(qT h1).1];exact xC ih he (ht i).1 (ht i).2
 |next _ _ _ ih=>exact ih
theorem GG{a b:PS}(h:mZ a b):b.ts=a.ts:=by
 induction h with
 |refl=>rfl
 |small _ h1 ih=>grind [qT,trans]
 |rule _ _ _ _ ih=>exact ih
theorem HM{n:Nat}{a b:PS}(h:mZ a b)(ht:AY n a.ts)(hf:Fine n a):Fine n b:=by
 induction h with
 |refl=>omega
 |small h1 h2 ih=>grind [Cz,GG]
 |rule _ _ _ _ ih=>exact ih
theorem xO{s:Txt}{ts:List qZ}(h:rR s= .ok ts):AY s.length ts:=by
 obtain⟨pre,rfl,_,h3,_⟩:=Aj h;intro i
 grind
theorem Kc{s:Txt}{ts:List qZ}(h:rR s= .ok ts):Fine s.length (pz s (gr 4 ⟨ts,0,0,0,0⟩)):=by
 have h0:Fine s.length ⟨ts,0,0,0,0⟩:=⟨.inl rfl,Int.le_refl _,abp⟩;have hr:=BJ 4 ⟨ts,0,0,0,0⟩;have h1:=HM hr (xO h) h0;have ht:AY s.length (gr 4 ⟨ts,0,0,0,0⟩).2.ts:=by rw[GG hr];exact xO h
 have h2:Fine s.length (if(aJ (gr 4 ⟨ts,0,0,0,0⟩).2).kind=7 then(gr 4 ⟨ts,0,0,0,0⟩).2 else bg (gr 4 ⟨ts,0,0,0,0⟩).2):=by
  grind [Cz,jZ]
 unfold pz;generalize (if(aJ (gr 4 ⟨ts,0,0,0,0⟩).2).kind=7 then(gr 4 ⟨ts,0,0,0,0⟩).2 else bg (gr 4 ⟨ts,0,0,0,0⟩).2)=st1 at h2⊢
 split
 ·exact xC h2 (.inl rfl) abh (Int.le_refl _)
 ·exact afl
theorem Dj(s:Txt):(aP s).2.1=0∧(aP s).2.2=0∧gh (aP s).1=0∨
  ((aP s).2.1=5∨(aP s).2.1=6)∧0≤(aP s).2.2∧(aP s).2.2≤s.length∧(aP s).1=nQ:=by
 unfold aP;cases h:rR s with
 |bad e a=>
  have:=xV h;exact .inr ⟨this.1,this.2.1,this.2.2,rfl⟩
 |ok ts=>
  have hf:=Kc h;simp only[yj];split
  ·rename_i hb
   refine .inl ⟨rfl,rfl,?_⟩;simp only;unfold pz at hb;generalize (if(aJ (gr 4 ⟨ts,0,0,0,0⟩).2).kind=7 then(gr 4 ⟨ts,0,0,0,0⟩).2 else bg (gr 4 ⟨ts,0,0,0,0⟩).2)=st1 at hb
   split at hb
   ·simp_all [bG,if_pos,absurd,Int]
   omega
  ·rename_i hb
   exact .inr ⟨hf.1.resolve_left hb,hf.2.1,hf.2.2,rfl⟩
end Go.Bf
namespace Go.Bf
open Go Go.Ab Go.Proofs.YtcochaoekecfdaaGreatDoor
theorem qC{p:bI}(h:gh p=0):mc 1 p:=by
 cases hw:jY ⟨[],0⟩ 1 p with
 |bad e=>
  have:=tD 4 1 _ _ e rfl hw;rw[gh,hw]at h;exact(this h).elim
 |ok m=>grind [Gx]
theorem Pj{fs:List cV}(h:∀f∈fs,eqV f.val ax=false)(n:Txt):(fs.any fun f=>f.name==n)= !(eqV (eC fs n) ax):=by
 induction fs with
 |nil=>rfl
 |cons f fs ih=>
  rw[EA,List.any_cons]
  grind
structure tW (c:aK):Prop where
 id:bl c.id=true
 owner:bl c.owner=true
 state:c.state∈oR
 asc:D5 c.fields
 nfields:c.fields.length≤16
 field:∀f∈c.fields,bl f.name=true∧bE f.val=true∧eqV f.val ax=false
 log1:1≤c.log.length
 log2:c.log.length≤256
 actor:∀x∈c.log,bl x.actor=true∧i64 x.tick
structure cX (k:Nat) (s:an):Prop where
 tick:0≤s.tick∧s.tick≤1099511627776
 asc:Asc s.cases
 ncases:s.cases.length≤64
 case:∀c∈s.cases,tW c
 nrev:s.reviews.length≤1000
 nnot:s.notices.length≤1000
 roles:s.roles.length≤64
 role:∀r∈s.roles,bl r.subj=true∧bl r.role=true
 pol:gh s.policy=0
 ver:0≤s.version∧s.version≤k
theorem cX.few{k:Nat}{s:an}(h:cX k s):Few s:=by
 have h1:=h.ncases;have h2:=h.nrev;have h3:=h.nnot;have h4:=h.roles;refine⟨abh,fun c hc=>?_,fun c hc=>?_,abh,abh,abh⟩
 ·have:=(h.case c hc).nfields;omega
 ·have:=(h.case c hc).log2;omega
theorem cX.mc{k:Nat}{s:an}(h:cX k s):mc 1 s.policy:=qC h.pol
theorem cX.FC{k:Nat}{s:an}(h:cX k s):i64 s.tick:=by
 have:=h.tick;constructor<;>omega
theorem I4:cX 0 we:=by
 refine⟨abk,.nil,abk,fun c h=>ab6,abk,abk,abk,fun r h=>ab6,abx,abk⟩
theorem jT{s:Txt}(h:iH s=true)(hn:s≠ []):bl s=true:=by
 simp_all [iH,Bool.or_eq_true,beq_iff_eq]
structure OY (o:OpD):Prop where
 subj:bl o.subj=true
 kind:1≤o.kind∧o.kind≤8
 case:iH o.case=true
 field:iH o.field=true
 to:iH o.to=true
 val:eqV o.val ax=true∨bE o.val=true
 text:o.text.length≤4096
 ok:okD o=true
theorem sN{o:OpD}(h:dj o=true):OY o:=by
 simp only[dj,Bool.and_eq_true,decide_eq_true_eq,Bool.or_eq_true,dI]at h;obtain⟨⟨⟨⟨⟨⟨⟨h1,h2⟩,h3⟩,h4⟩,h5⟩,h6⟩,h7⟩,⟨⟨h8,h9⟩,h10⟩,h11⟩:=h;exact⟨h1,⟨h8,h9⟩,h4,h5,h6,h7,h3,h10⟩
theorem xE{a b:Txt}(h:lW a b=true):b∈oR:=by
 unfold lW at h;simp only[oR,List.mem_cons,List.not_mem_nil,or_false]
 grind
theorem mem_modify{α:Type}{l:List α}{i:Nat}{f:α→α}{x:α}(h:x∈l.modify i f):x∈l∨∃hi:i<l.length,x=f l[i]:=by
 obtain⟨j,hj,rfl⟩:=List.mem_iff_getElem.1 h
 grind
theorem jW{α β:Type}{l:List α}{i:Nat}{f:α→α}{g:α→β}(h:∀x,g (f x)=g x):(l.modify i f).map g=l.map g:=by
 refine List.ext_getElem abp fun j h1 h2=>?_
 grind
theorem Ba{cs cs' :List aK}(h:cs'.map (·.id)=cs.map (·.id))(ha:Asc cs):Asc cs' :=by
 unfold Asc at*;have h1:(cs.map (·.id)).Pairwise lt:=abi
 rw[←h,List.pairwise_map]at h1;exact h1
theorem Nd{cs:List aK}{i:Nat}{c d:aK}(h:d∈cs.take i++ [c]++cs.drop i):d=c∨d∈cs:=by
 grind
theorem LD{k:Nat}{s:an}{o:OpD}(hs:cX k s)(hr:bL s o=0):cX (k+1) (doD aP s o):=by
 have hf:dj o=true:=by
  unfold bL at hr
  grind
 have F:=sN hf;have vk:0≤s.version∧s.version≤((k+1:Nat):Int):=⟨hs.ver.1,by have:=hs.ver.2;omega⟩
 unfold bL at hr;rw[hf]at hr;simp only[Bool.true_eq_false,if_false]at hr;have hok:=F.ok;unfold okD at hok;have t64:=hs.FC;unfold doD
 by_cases k1:o.kind=1
 ·simp only[k1,if_true]at hr hok⊢
  have hno:bX s.cases o.case=false:=by
   grind
  rw[hno]at hr;simp only[Bool.false_eq_true,if_false]at hr;have hlt:¬64≤s.cases.length:=fun h=>ae6
  have hc:bl o.case=true:=jT F.case abi;rw[uU hs.asc]at hno;refine {hs with asc:= ?_,ncases:= ?_,case:= ?_,ver:=vk}
  ·exact FU hs.asc (iU s ⟨o.case,o.subj,jj,[],[]⟩ o.subj [110,101,119]) hno
  ·grind
  ·intro c h
   rcases Nd h with rfl|h
   ·exact⟨hc,F.subj,by simp[iU,oR],.nil,afm,fun f h=>ab6,afm,afm,fun x h=>by
     simp only[iU,List.nil_append,List.mem_singleton]at h;subst h;exact⟨F.subj,t64⟩⟩
   ·exact hs.case c h
 ·simp only[k1,if_false]at hr hok⊢
  by_cases k3:o.kind=3
  ·have hk:2≤o.kind∧o.kind≤4:=by omega
   simp only[hk,and_self,if_true]at hr;simp only[k3,if_true];have e2:¬(o.kind=2∨o.kind=6):=abh;simp only[k3,if_true,show¬((3:Int)=2∨(3:Int)=6) by decide,if_false,Bool.and_eq_true,Bool.not_eq_true']at hok
   have hth:bX s.cases o.case=true:=by
    unfold bW at hr
    grind
   unfold bW at hr;rw[hth]at hr;simp only[Bool.true_eq_false,if_false,k3,true_and]at hr;obtain⟨hm,hid⟩:=pP hs.asc hth;have hlt:=jk hth;have hce:bt s.cases o.case=s.cases[findD s.cases o.case]:=by
    simp_all [bt,if_pos]
   rw[hce]at hr hm;generalize hcc:s.cases[findD s.cases o.case]=c at hr hm;have hc:=hs.case c hm;have h16:¬(c.fields.length≥16∧eqV (eC c.fields o.field) ax=true):=fun h=>by simp[h.1,h.2]at hr
   rw[if_neg h16]at hr;have hlg:¬c.log.length≥256:=fun h=>ae6
   have hnf:bl o.field=true:=jT F.field abi;have hvz:eqV o.val ax=false:=hok.2;have hv:bE o.val=true:=F.val.resolve_left abi;refine {hs with asc:= ?_,ncases:= ?_,case:= ?_,ver:=vk}
   ·exact Ba (jW fun x=>rfl) hs.asc
   ·simpa using hs.ncases
   ·intro d hd
    rcases mem_modify hd with hd|⟨hi,rfl⟩
    ·exact hs.case d hd
    ·rw[hcc]
     have hany:=Pj (fun f hf=>(hc.field f hf).2.2) o.field
     have hlen:=AU (v:=o.val) (name:=o.field) hc.asc;refine⟨hc.id,hc.owner,hc.state,AT hc.asc,?_,?_,afm,?_,?_⟩
     ·simp only[iU]
      rw[hlen,hany];have:=hc.nfields;cases he:eqV (eC c.fields o.field) ax
      ·simp;omega
      ·rw[he]at h16;simp at h16⊢;omega
     ·intro f hf
      rcases u0 hf with rfl|hf
      ·grind
      ·exact hc.field f hf
     ·grind [iU,abb,List.length_singleton]
     ·intro x hx
      exact agr
  ·simp only[k3,if_false]at hok⊢
   by_cases k4:o.kind=4
   ·have hk:2≤o.kind∧o.kind≤4:=by omega
    simp only[hk,and_self,if_true]at hr;simp only[k4,if_true];have hth:bX s.cases o.case=true:=by
     unfold bW at hr
     grind
    unfold bW at hr;rw[hth]at hr;simp only[Bool.true_eq_false,if_false,k4]at hr;obtain⟨hm,hid⟩:=pP hs.asc hth;have hlt:=jk hth;have hce:bt s.cases o.case=s.cases[findD s.cases o.case]:=by
     simp_all [bt,if_pos]
    rw[hce]at hr hm;generalize hcc:s.cases[findD s.cases o.case]=c at hr hm;have hc:=hs.case c hm;simp only[show¬((4:Int)=3) by decide,false_and,if_false,show((4:Int)≠2) by decide,ne_eq,not_false_eq_true,true_and,false_or]at hr
    have hlg:¬c.log.length≥256:=fun h=>ae6
    rw[if_neg hlg]at hr;have hfo:lW c.state o.to=true:=by
     grind
    refine {hs with asc:= ?_,ncases:= ?_,case:= ?_,ver:=vk}
    ·exact Ba (jW fun x=>rfl) hs.asc
    ·simpa using hs.ncases
    ·intro d hd
     rcases mem_modify hd with hd|⟨hi,rfl⟩
     ·exact hs.case d hd
     ·rw[hcc]
      refine⟨hc.id,hc.owner,xE hfo,hc.asc,hc.nfields,hc.field,afm,?_,?_⟩
      ·grind [iU,abb,List.length_singleton]
      ·intro x hx
       exact agr
   ·simp only[k4,if_false]at hok⊢
    by_cases k5:o.kind=5
    ·simp only[k5,if_true]
     refine {hs with nrev:= ?_,ver:=vk}
     simpa using hs.nrev
    ·simp only[k5,if_false]at hok⊢
     by_cases k6:o.kind=6
     ·have hk:¬(2≤o.kind∧o.kind≤4):=by omega
      simp only[k6,if_true]at hr;simp only[k6,if_true];simp only[k6,or_true,if_true,Bool.and_eq_true]at hok;have hc:bl o.case=true:=jT F.case abi;have hfd:bl o.field=true:=jT F.field abi;cases hh:xL s.roles ⟨o.case,o.field⟩with
      |true=>simp only[if_true];exact {hs with ver:=vk}
      |false=>
       rw[hh]at hr;have hlt:¬s.roles.length≥64:=fun h=>ae6
       simp only[Bool.false_eq_true,if_false];refine {hs with roles:= ?_,role:= ?_,ver:=vk}
       ·grind
       ·intro r h
        rcases List.mem_append.1 h with h|h
        ·exact hs.role r h
        grind
     ·simp only[k6,if_false]
      by_cases k7:o.kind=7
      ·simp only[k7,if_true]
       by_cases hp:(aP o.text).2.1=0
       ·simp only[hp,if_true]
        have hr0:gh (aP o.text).1=0:=by
         grind [Dj,absurd]
        refine {hs with pol:=hr0,ver:= ?_}
        have:=hs.ver;constructor
        ·grind
        grind
       ·simp only[hp,if_false]
        exact {hs with ver:=vk}
      ·simp only[k7,if_false]
       by_cases k8:o.kind=8
       ·simp only[k8,if_true]
        have hk:¬(2≤o.kind∧o.kind≤4):=abh;simp only[k8,if_true]at hr;have hlt:¬s.tick>1099511627776 - o.review:=fun h=>ae6
        simp only[k8,show¬((8:Int)=2∨(8:Int)=6) by decide,if_false,if_true,Bool.and_eq_true,decide_eq_true_eq]at hok
        refine {hs with tick:= ?_,ver:=vk}
        have:=hs.tick;constructor
        ·grind
        grind
       ·simp only[k8,if_false]
        exact {hs with ver:=vk}
theorem oS{k:Nat}{s:an}(o:OpD)(hs:cX k s):cX (k+1) (dN aP s o):=by
 unfold dN
 by_cases h:bL s o=0
 ·simp_all [if_pos,LD]
 ·rw[if_neg h]
  exact {hs with ver:=⟨hs.ver.1,by have:=hs.ver.2;omega⟩}
theorem fD.eq{xs:List AV}{sz:Nat}(j:Nat)(hj:j<xs.length)(hz:xs[j].cells.length=sz)(k:AV→Prop):fD xs (j:Int) sz k=k (.pe xs[j] 0):=propext ⟨fun h=>by
 obtain⟨_,b,hb,_,hk⟩:=h;have:xs[j]? =some xs[j]:=abp;rw[show((j:Int).toNat)=j by simp,this]at hb
 cases hb;exact hk,fun h=>fD.at j hj hz h⟩
def zE(l:List bA):Prop:=l.length≤16∧∀v∈l,bE v=true∧∀w∈l.head?,v.kind=w.kind
structure N0 (gs:List bk):Prop where
 len:gs.length≤64
 each:∀g∈gs,1≤g.cat∧g.cat≤4∧bl g.name=true∧zE g.bag
 dist:gs.Pairwise fun a b=>iB b.cat b.name a=false
def vY(g:bk):Int×Txt:=(g.cat,g.name)
theorem J2(gs:List bk):(gs.Pairwise fun a b=>iB b.cat b.name a=false)↔(gs.map vY).Nodup:=by
 simp[List.Nodup,List.pairwise_map,bk,iB,false,vY]
theorem iS{v:bA}(h:bE v=true):zE [v]:=⟨abp,fun w hw=>abi⟩
theorem ov{s:Txt}(h:bl s=true):bE (idV s)=true:=by grind [bE,idV]
theorem Ho{l:List gM}(h:∀r∈l,bl r.role=true)(s:Txt):zE (cU l s):=by
 have hv:∀v∈cU l s,bE v=true∧v.kind=5:=fun v hv=>by
  have:=List.mem_of_mem_take hv;obtain⟨r,hr,rfl⟩:=List.mem_map.1 this;exact⟨ov abi,rfl⟩
 refine⟨by grind [cU,List.length_take],fun v hm=>⟨(hv v hm).1,fun w hw=>?_⟩⟩
 grind
theorem JR{c:UInt8}{i j:Nat}(h:sv c j=true)(hi:i≠0):sv c i=true:=by
 simp only[sv,Bool.or_eq_true,Bool.and_eq_true,decide_eq_true_eq]at h⊢
 grind
theorem EB{n:Txt}(h:bl n=true)(hl:n.length≤14):bl ([102,95]++n)=true:=by
 simp only[bl,Bool.and_eq_true,decide_eq_true_eq]at h⊢;obtain⟨⟨h1,h2⟩,h3⟩:=h;refine⟨⟨?_,abp⟩,abi⟩;unfold vi at h1⊢;rw[List.all_eq_true]at h1⊢
 rintro⟨c,i⟩ hp
 rw[List.mk_mem_zipIdx_iff_getElem?]at hp
 match i,hp with
 |0,hp=>cases hp;rfl
 |1,hp=>cases hp;rfl
 |i+2,hp=>
  exact JR (h1 (c,i) (List.mk_mem_zipIdx_iff_getElem?.2 hp)) abh
theorem Fy{s:Txt}(h:s∈oR):bl s=true:=by
 simp only[oR,List.mem_cons,List.not_mem_nil,or_false]at h;rcases h with rfl|rfl|rfl|rfl<;>kernel_rfl
theorem B0(k:Int)(h:1≤k∧k≤8):bl (js k)=true:=by
 have:(List.range 9).all (fun n=>bl (js n))=true:=abx
 have h2:=List.all_eq_true.1 this k.toNat abi
 rwa [show((k.toNat:Nat):Int)=k by omega]at h2
theorem LM(l:List wO)(s:Txt):bE (tN l s)=true:=by
 unfold tN;cases l.any fun x=>x.actor==s<;>rfl
theorem Ht{c:aK}(hc:tW c)(s:Txt):∀g∈cB c s,g.cat=3∧bl g.name=true∧zE g.bag:=by
 intro g hg;simp only[cB,List.mem_append,List.mem_cons,List.not_mem_nil,or_false]at hg;rcases hg with((rfl|rfl|rfl|rfl|rfl)|hg)|hg
 ·exact⟨rfl,abx,iS (ov hc.id)⟩
 ·exact⟨rfl,abx,iS (ov hc.owner)⟩
 ·exact⟨rfl,abx,iS (ov (Fy hc.state))⟩
 ·exact⟨rfl,abx,iS abx⟩
 ·exact⟨rfl,abx,iS (LM _ _)⟩
 ·cases hl:c.log.getLast? with
  |none=>grind
  |some x=>
   rw[hl]at hg;rw[List.mem_singleton.1 hg];exact⟨rfl,abx,iS (ov (hc.actor x (List.mem_of_getLast? hl)).1)⟩
 ·obtain⟨f,hf,rfl⟩:=List.mem_map.1 hg
  obtain⟨hf1,hf2⟩:=List.mem_filter.1 hf;have hf2:f.name.length≤14:=abi;obtain⟨h1,h2,_⟩:=hc.field f hf1;exact⟨rfl,EB h1 hf2,iS h2⟩
theorem Hs{c:aK}(hc:tW c)(s:Txt):((cB c s).map vY).Nodup:=by
 have hfn:(((c.fields.filter fun f=>decide (f.name.length≤14)).map fun f=>(⟨3,[102,95]++f.name,[f.val]⟩:bk)).map vY).Nodup:=by
  rw[List.map_map,List.Nodup,List.pairwise_map];refine((List.Pairwise.filter _ hc.asc).imp fun {a b} hab he=>?_)
  simp_all [Function.comp,vY,Prod.mk.injEq,true_and,List.append_cancel_left_eq,lt_irrefl]
 have hff:∀x∈((c.fields.filter fun f=>decide (f.name.length≤14)).map fun f=>(⟨3,[102,95]++f.name,[f.val]⟩:bk)).map vY,∃t,x=(3,102::t):=by
  intro x hx;obtain⟨g,hg,rfl⟩:=List.mem_map.1 hx;obtain⟨f,hf,rfl⟩:=List.mem_map.1 hg;exact⟨_,rfl⟩
 unfold cB;rw[List.map_append,List.nodup_append];refine⟨?_,hfn,?_⟩
 ·cases c.log.getLast? with
  |none=>simp[vY,idT]
  |some x=>simp[vY,idT]
 ·intro a ha b hb
  obtain⟨t,rfl⟩:=hff b hb;intro e;cases hl:c.log.getLast? with
  |none=>
   simp_all [vY,idT]
  |some x=>
   simp_all [vY,idT]
theorem Hl{k:Nat}{s:an}{o:OpD}(hs:cX k s)(hf:dj o=true):N0 (fy s o):=by
 have F:=sN hf;have hcs:∀g∈(if bX s.cases o.case=true∧o.kind≠6 then cB (bt s.cases o.case) o.subj else []),g.cat=3∧bl g.name=true∧zE g.bag:=by
  intro g hg;split at hg
  ·rename_i ht
   exact Ht (hs.case _ (pP hs.asc ht.1).1) _ g hg
  ·cases hg
 have hcd:((if bX s.cases o.case=true∧o.kind≠6 then cB (bt s.cases o.case) o.subj else []).map vY).Nodup:=by
  split
  ·rename_i ht
   exact Hs (hs.case _ (pP hs.asc ht.1).1) _
  ·exact .nil
 have hcl:(if bX s.cases o.case=true∧o.kind≠6 then cB (bt s.cases o.case) o.subj else []).length≤22:=by
  split
  ·rename_i ht
   have hc:=hs.case _ (pP hs.asc ht.1).1;have h16:=hc.nfields;have:((bt s.cases o.case).fields.filter fun f=>decide (f.name.length≤14)).length≤(bt s.cases o.case).fields.length:=List.length_filter_le _ _
   simp only[cB,abb,aa7,List.length_cons,List.length_nil];cases (bt s.cases o.case).log.getLast? <;>simp<;>omega
  ·simp
 unfold fy;generalize (if bX s.cases o.case=true∧o.kind≠6 then cB (bt s.cases o.case) o.subj else [])=C at hcs hcd hcl⊢
 have e1:(if o.field= []then []else [(⟨2,[102,105,101,108,100],[idV o.field]⟩:bk)])=if o.field= []then []else [(⟨2,[102,105,101,108,100],[idV o.field]⟩:bk)]:=rfl
 have hro:zE (cU s.roles o.subj):=Ho (fun r hr=>(hs.role r hr).2) _
 have htk:bE ⟨4,s.tick,[]⟩=true:=by
  have:=hs.tick;simp[bE,this]
 have hac:=ov (B0 o.kind F.kind);have hsu:=ov F.subj;refine⟨?_,?_,?_⟩
 ·by_cases p1:o.field= []<;>by_cases p2:o.to= []<;>simp[p1,p2]<;>omega
 ·intro g hg
  simp only[List.mem_append,List.mem_cons,List.not_mem_nil,or_false]at hg;rcases hg with((((rfl|rfl|rfl)|hg)|hg)|rfl)|hg
  ·exact⟨abp,abp,abl,iS hsu⟩
  ·exact⟨abp,abp,abl,hro⟩
  ·exact⟨abp,abp,abl,iS hac⟩
  ·split at hg
   ·cases hg
   ·rename_i hne
    rw[List.mem_singleton.1 hg];exact⟨abp,abp,abl,iS (ov (jT F.field hne))⟩
  ·split at hg
   ·cases hg
   ·rename_i hne
    rw[List.mem_singleton.1 hg];exact⟨abp,abp,abl,iS (ov (jT F.to hne))⟩
  ·exact⟨abp,abp,abl,iS htk⟩
  ·obtain⟨h1,h2,h3⟩:=hcs g hg
   exact⟨abh,abh,h2,h3⟩
 ·rw[J2,List.map_append,List.nodup_append]
  refine⟨?_,hcd,?_⟩
  ·by_cases p1:o.field= []<;>by_cases p2:o.to= []<;>simp[p1,p2,vY,idT]
  ·intro a ha b hb e
   subst e;obtain⟨g,hg,rfl⟩:=List.mem_map.1 hb;have h3:=(hcs g hg).1;have hne:∀x∈([⟨1,idT,[idV o.subj]⟩,⟨1,[114,111,108,101],cU s.roles o.subj⟩,⟨2,[110,97,109,101],[idV (js o.kind)]⟩]++(if o.field= []then []else [⟨2,[102,105,101,108,100],[idV o.field]⟩])++(if o.to= []then []else [⟨2,[116,111],[idV o.to]⟩])++ [⟨4,[110,111,119],[⟨4,s.tick,[]⟩]⟩]:List bk),x.cat≠3:=by
    intro x hx;simp only[List.mem_append,List.mem_cons,List.not_mem_nil,or_false]at hx;rcases hx with(((rfl|rfl|rfl)|hx)|hx)|rfl
    ·simp
    ·simp
    ·simp
    ·split at hx
     ·cases hx
     ·rw[List.mem_singleton.1 hx];simp
    ·split at hx
     ·cases hx
     ·rw[List.mem_singleton.1 hx];simp
    ·simp
   obtain⟨x,hx,he⟩:=List.mem_map.1 ha;have:x.cat=g.cat:=congrArg Prod.fst he;exact hne x hx (by rw[this,h3])
def sL:an→List AV
 |⟨tick,cs,rv,nt,ro,.mk pid set alg tgt rules kids obls,ver⟩=>[.i tick,fQ cs,jP rv,kM nt,dR ro,.s pid,.b set,.i alg,aU tgt,.sl (rules.map aC) .no,.sl (fu kids) .no,aA obls,.i ver]
theorem uS(s:an):cJ s= .agg (sL s):=by
 obtain⟨tick,cs,rv,nt,ro,⟨pid,set,alg,tgt,rules,kids,obls⟩,ver⟩:=s;rfl
structure Stays (cs cs' :List aK) (id:Txt):Prop where
 len:cs'.length≤cs.length+1
 ids:∀c∈cs,∃d∈cs',d.id=c.id
 rest:∀c∈cs,c.id≠id→c∈cs'
abbrev aS:=Nat×Nat
def naM:aS:=(0,0)
def bf:aS:=(2,0)
def cD:aS:=(0,2)
def Ag:aS:=(1,0)
def Af:aS:=(0,1)
def oA:aS:=(1,1)
def uw:List aS:=[naM,bf,cD,Ag,Af,oA]
abbrev jr:=aS×List cC
def gA(m:aS):aS:=if m=bf then Ag else if m=cD then Af else m
def nH(a b:aS):aS:=(max a.1 b.1,max a.2 b.2)
def DU(m:aS):aS:=(m.2,m.1)
def qv(j:aS):aS:=
 if j.2=2 then cD else if j.2=1∧1≤j.1 then oA else if j.2=1 then Af else if j.1=2 then bf else if j.1=1 then Ag else naM
def wE(l:List aS):aS:=l.foldl nH naM
def firstM(l:List aS):aS:=(l.find? fun m=>decide (m≠naM)).getD naM
def yP(m:aS):Bool:=decide (m=naM∨m=bf∨m=cD)
def nM:List aS→aS→aS
 | [],j=>j
 |m::r,j=>if yP m=false then oA else nM r (if j=naM then m else if m≠naM then oA else j)
def gI(alg:Int)(l:List aS):aS:=
 if alg=1 then qv (wE l)
 else if alg=2 then DU (qv (DU (wE l)))
 else if alg=3 then firstM l
 else if alg=4 then nM l naM
 else if alg=5 then(if bf∈l then bf else cD)
 else if alg=6 then(if cD∈l then cD else bf)
 else naM
def xb(gs:List bk)(a:pF):List bA:=getD gs a.cat a.name
def mJ(a b:bA):Option Bool:=
 if bE a=false∨bE b=false∨a.kind≠b.kind∨a.kind=1 then none
 else if a.kind=3∨a.kind=5 then some (Op.bytesLess a.s b.s)else some (decide (a.n<b.n))
def cN(m:bO)(v:bA):Option Bool:=
 if m.op=1 then(if v.kind=m.val.kind then some (eqV v m.val)else none)
 else if m.op=2 then mJ v m.val else mJ m.val v
def jA(gs:List bk)(m:bO):Nat:=
 if xb gs m.attr= []∧m.attr.must=true then 1
 else if(xb gs m.attr).any fun v=>cN m v==some true then 2
 else if(xb gs m.attr).any fun v=>cN m v==none then 1 else 0
def B2(gs:List bk)(l:List bO):Nat:=l.foldl (fun a m=>min a (jA gs m)) 2
def ze(gs:List bk)(l:List (List bO)):Nat:=l.foldl (fun a x=>max a (B2 gs x)) 0
def mb(gs:List bk)(t:fU):Nat:=t.foldl (fun a x=>min a (ze gs x)) 2
structure jc where
 bag:List bA
 v:bA
 e:Int
def dJ(b:Bool):bA:=⟨1,if b then 1 else 0,[]⟩
def iJ(b:Bool):jc:=⟨[],dJ b,0⟩
def isI(x:jc)(n:Int):Bool:=x.e==0 && eqV x.v ⟨1,n,[]⟩
abbrev w64(n:Int):Int:=IntKind.i64.wrap n
def Jw(a b:Int):Bool:=decide (0<b) && decide (w64 (9223372036854775807 - b)<a)||decide (b<0) && decide (a<w64 (-9223372036854775808 - b))
def LF(a b:Int):Bool:=decide (0<b) && decide (a<w64 (-9223372036854775808+b))||decide (b<0) && decide (w64 (9223372036854775807+b)<a)
def Ix(a b:Int):Bool:=a== -1 && b== -9223372036854775808||b== -1 && a== -9223372036854775808||a !=0 && w64 ((w64 (a*b)).tdiv a) !=b
def nc(e:Int):bA×Int:=(ax,e)
def zn(o:Bool)(n:Int):bA×Int:=if o then nc 3 else(⟨2,w64 n,[]⟩,0)
def gG(op:Int)(l:List bA):bA×Int:=
 if¬(6≤op∧op≤13)∨l.length≠(if op=11 then 1 else 2)∨(l.all bE)=false then nc 1
 else
  let a:=l.getD 0 ax;let b:=l.getD 1 ax
  if op=6 then(if a.kind=b.kind then(dJ (eqV a b),0)else nc 2)
  else if op=7 then(match mJ a b with
   |some x=>(dJ x,0)
   |none=>nc 2)
  else if op=8∨op=9∨op=10 then
   (if l.all fun v=>v.kind==2 then(if op=8 then zn (Jw a.n b.n) (a.n+b.n)else if op=9 then zn (LF a.n b.n) (a.n - b.n)else zn (Ix a.n b.n) (a.n*b.n))else nc 2)
  else if(l.all fun v=>v.kind==1)=false then nc 2
  else if op=11 then(dJ (a.n==0),0)
  else if op=12 then(dJ (a.n==1 && b.n==1),0)
  else(dJ (a.n==1||b.n==1),0)
def opsOf(op:Int):Nat:=if op=1∨op=2 then 0 else if op=3∨op=4∨op=11 then 1 else 2
def zC(r:bA×Int):jc:=⟨[],r.1,r.2⟩
def kL(gs:List bk)(n:aO)(l:List jc):jc:=
 if n.op=1 then⟨[],n.val,0⟩
 else if n.op=2 then(if xb gs n.attr= []∧n.attr.must=true then⟨[],ax,4⟩else⟨xb gs n.attr,ax,0⟩)
 else if(n.op=12∨n.op=13)∧(l.any fun x=>isI x (n.op - 12))=true then iJ (n.op==13)
 else match l.find? fun x=>x.e !=0 with
  |some x=>⟨[],ax,x.e⟩
  |none=>
   if n.op=3 then(match (l.headD ⟨[],ax,0⟩).bag with
    | [v]=>⟨[],v,0⟩
    |_=>⟨[],ax,4⟩)
   else if n.op=4 then⟨[],⟨2,(l.headD ⟨[],ax,0⟩).bag.length,[]⟩,0⟩
   else if n.op=5 then iJ ((l.headD ⟨[],ax,0⟩).bag.any fun v=>eqV v (l.getD 1 ⟨[],ax,0⟩).v)
   else zC (gG n.op (l.map (·.v)))
def yO(gs:List bk)(st:List jc)(n:aO):List jc:=st.take (st.length - opsOf n.op)++ [kL gs n (st.drop (st.length - opsOf n.op))]
def vC(gs:List bk)(l:List aO):jc:=if l= []then zC (nc 1)else(l.foldl (yO gs) []).headD (zC (nc 1))
def pT(gs:List bk)(l:List aO):Nat:=if l.isEmpty then 2 else if isI (vC gs l) 1 then 2 else if isI (vC gs l) 0 then 0 else 1
def ew(l:List cC)(m:aS):List cC:=l.filter fun o=>o.on==1 && m==bf||o.on==2 && m==cD
def mH(r:cM)(t c:Nat):jr:=
 let m:=if r.deny then cD else bf
 if t=0∨t=2∧c=0 then(naM,[])else if t=1∨c=1 then(gA m,[])else(m,ew r.obls m)
def gQ(gs:List bk)(r:cM):jr:=mH r (mb gs r.tgt) (pT gs r.cond)
def eD(alg:Int)(m:aS)(parts:List jr):List cC:=
 if alg=3 then((parts.find? fun x=>x.1==m).map (·.2)).getD []else((parts.filter fun x=>x.1==m).map (·.2)).flatten
def o7(alg:Int)(obls:List cC)(t:Nat)(parts:List jr):jr:=
 let m:=gI alg (parts.map (·.1))
 if t=0 then(naM,[])else if t=1 then(gA m,[])else if m≠bf∧m≠cD then(m,[])
 else(m,eD alg m parts++ew obls m)
mutual
def fq(gs:List bk):bI→jr
 |.mk id set alg tgt rules kids obls=>if mb gs tgt=0 then(naM,[])else o7 alg obls (mb gs tgt) (rules.map (gQ gs)++lV gs kids)
def lV(gs:List bk):List bI→List jr
 | []=>[]
 |k::r=>fq gs k::lV gs r
end
theorem sH(gs:List bk):∀l:List bI,lV gs l=l.map (fq gs)
 | []=>abx
 |k::r=>by simp[lV,sH gs r]
def rX:bI→fU
 |.mk _ _ _ t _ _ _=>t
def nI:fU→Option bO
 | []=>none
 | [l]::r=>match l.find? fun m=>m.op==1 && !m.attr.must with
  |some m=>some m
  |none=>nI r
 |_::r=>nI r
def rT(gs:List bk)(p:bI):Bool:=match nI (rX p)with
 |none=>true
 |some m=>decide (jA gs m≠0)
mutual
def kN(gs:List bk):bI→bI
 |.mk id set alg tgt rules kids obls=> .mk id set alg tgt rules (jO gs kids) obls
def jO(gs:List bk):List bI→List bI
 | []=>[]
 |k::r=>if rT gs k then kN gs k::jO gs r else jO gs r
end
end Go.Bf
namespace Go.Bf
open Go Go.Ab
def rq:Nat→Nat→Txt
 |0,_=>[]
 |f+1,u=>if u<128 then [UInt8.ofNat u]else UInt8.ofNat (u % 128+128)::rq f (u / 128)
def zig(n:Int):Nat:=if 0≤n then 2*n.toNat else 2*(-n).toNat - 1
def ni(n:Int):Txt:=rq 10 (zig n)
def eL(s:Txt):Txt:=ni s.length++s
def tO(v:bA):Txt:=ni v.kind++(if v.kind=3∨v.kind=5 then eL v.s else ni v.n)
def fJ(o:OpD):Txt:=ni o.kind++(eL o.subj++(eL o.case++(eL o.field++(eL o.to++(tO o.val++(ni o.review++(eL o.text++(eL o.reason++tO (dJ o.glass)))))))))
theorem BQ{a b:Nat}(ha:a<256)(hb:b<256)(h:UInt8.ofNat a=UInt8.ofNat b):a=b:=by
 have:=congrArg UInt8.toNat h;simp only[UInt8.toNat_ofNat']at this;omega
theorem GZ:∀(f u v:Nat) (x y:Txt),u<128 ^ f→v<128 ^ f→rq f u++x=rq f v++y→u=v∧x=y
 |0,u,v,x,y,hu,hv,h=>by
  simp_all
 |f+1,u,v,x,y,hu,hv,h=>by
  simp only[rq]at h
  by_cases a:u<128
  ·by_cases b:v<128
   ·rw[if_pos a,if_pos b]at h
    simp only[List.singleton_append,List.cons.injEq]at h;exact⟨BQ abh abh h.1,h.2⟩
   ·rw[if_pos a,if_neg b]at h
    exact agK
  ·by_cases b:v<128
   ·rw[if_neg a,if_pos b]at h
    exact agK
   ·rw[if_neg a,if_neg b]at h
    simp only[List.cons_append,List.cons.injEq]at h;have h1:=BQ abh abh h.1;obtain⟨h2,h3⟩:=GZ f (u / 128) (v / 128) x y abh abh h.2;exact⟨abh,h3⟩
theorem FM{n:Int}(h:i64 n):zig n<128 ^ 10:=by
 grind [i64,zig,Nat]
theorem NX{a b:Int}(h:zig a=zig b):a=b:=by
 grind [zig]
theorem tc{a b:Int}{x y:Txt}(ha:i64 a)(hb:i64 b)(h:ni a++x=ni b++y):a=b∧x=y:=by
 obtain⟨h1,h2⟩:=GZ 10 _ _ _ _ (FM ha) (FM hb) h
 grind [NX]
theorem Th{s:Txt}(h:s.length≤1000000):i64 (s.length:Int):=by constructor<;>omega
theorem mh{s t:Txt}{x y:Txt}(hs:s.length≤1000000)(ht:t.length≤1000000)(h:eL s++x=eL t++y):s=t∧x=y:=by
 grind [eL,List.append_assoc,tc,Th,List.append_inj]
structure Mm (v:bA):Prop where
 kind:i64 v.kind
 n:i64 v.n
 s:v.s.length≤1000000
 one:(v.kind=3∨v.kind=5→v.n=0)∧(¬(v.kind=3∨v.kind=5)→v.s= [])
theorem val_inj{v w:bA}{x y:Txt}(hv:Mm v)(hw:Mm w)(h:tO v++x=tO w++y):v=w∧x=y:=by
 unfold tO at h;rw[List.append_assoc,List.append_assoc]at h;obtain⟨h1,h2⟩:=tc hv.kind hw.kind h;obtain⟨k,n,s⟩:=v;obtain⟨k',n',s'⟩:=w;subst h1;obtain⟨_,_,a1,a2,a3⟩:=hv;obtain⟨_,_,b1,b2,b3⟩:=hw
 by_cases e:k=3∨k=5
 ·rw[if_pos e,if_pos e]at h2
  grind [mh]
 ·rw[if_neg e,if_neg e]at h2
  grind [tc]
structure OpC (o:OpD):Prop where
 kind:i64 o.kind
 subj:o.subj.length≤1000000
 case:o.case.length≤1000000
 field:o.field.length≤1000000
 to:o.to.length≤1000000
 val:Mm o.val
 review:i64 o.review
 text:o.text.length≤1000000
 reason:o.reason.length≤1000000
theorem GW(b:Bool):Mm (dJ b):=by
 cases b<;>exact⟨⟨abk,abk⟩,⟨abk,abk⟩,abk,abk⟩
theorem Jb{a b:Bool}(h:dJ a=dJ b):a=b:=by
 grind [dJ]
theorem BF{a b:OpD}{x y:Txt}(ha:OpC a)(hb:OpC b)(h:fJ a++x=fJ b++y):a=b∧x=y:=by
 unfold fJ at h;simp only[List.append_assoc]at h;obtain⟨e1,h⟩:=tc ha.kind hb.kind h;obtain⟨e2,h⟩:=mh ha.subj hb.subj h;obtain⟨e3,h⟩:=mh ha.case hb.case h;obtain⟨e4,h⟩:=mh ha.field hb.field h;obtain⟨e5,h⟩:=mh ha.to hb.to h;obtain⟨e6,h⟩:=val_inj ha.val hb.val h;obtain⟨e7,h⟩:=tc ha.review hb.review h;obtain⟨e8,h⟩:=mh ha.text hb.text h;obtain⟨e9,h⟩:=mh ha.reason hb.reason h;obtain⟨e10,hxy⟩:=val_inj (GW _) (GW _) h;have e10:=Jb e10;obtain⟨a1,a2,a3,a4,a5,a6,a7,a8,a9,a10⟩:=a;simp only at e1 e2 e3 e4 e5 e6 e7 e8 e9 e10;exact⟨by rw[e1,e2,e3,e4,e5,e6,e7,e8,e9,e10],hxy⟩
theorem Nr{a b:OpD}(ha:OpC a)(hb:OpC b){c:Nat}(hc:c<(fJ a).length):fJ b≠(fJ a).take c:=fun h=>by
 have h1:fJ a++ []=fJ b++(fJ a).drop c:=afh;have:=(BF ha hb h1).2;have h2:=congrArg List.length this;rw[List.length_drop,List.length_nil]at h2;omega
theorem Lh{a b:OpD}(ha:OpC a)(hb:OpC b)(m:UInt8):fJ b≠fJ a++ [m]:=fun h=>by
 have h1:fJ b++ []=fJ a++ [m]:=abi;cases (BF hb ha h1).2
structure RS where
 b:Txt
 at_:Nat
 bad:Bool
def unzig(u:Nat):Int:=if u % 2=1 then -((u / 2:Nat):Int) - 1 else((u / 2:Nat):Int)
def uK:Nat→Nat→Nat→Txt→Int×Nat
 |0,_,_,_=>(0,0)
 |_+1,_,_,[]=>(0,0)
 |f+1,i,u,c::r=>
  if(i=9∧1<c.toNat)∨(0<i∧c.toNat=0)then(0,0)
  else if c.toNat<128 then(unzig (u+c.toNat*128 ^ i),i+1)
  else uK f (i+1) (u+c.toNat % 128*128 ^ i) r
def lp(s:RS)(a:Nat):RS:=if s.bad=false∧a≤s.at_ then {s with at_:=a,bad:=true} else s
def rIn(s:RS)(lo hi:Int):Int×RS:=
 if s.bad then(0,s)else
 let x:=uK 10 0 0 (s.b.drop s.at_)
 if x.2=0∨x.1<lo∨hi<x.1 then(0,lp s s.at_)else(x.1,{s with at_:=s.at_+x.2})
def gb(s:RS):Int×RS:=rIn s (-9223372036854775808) 9223372036854775807
def bV(s:RS)(most:Int):Txt×RS:=
 let x:=rIn s 0 most
 if x.2.bad∨(x.2.b.length:Int) - x.2.at_<x.1 then([],lp x.2 s.at_)else((x.2.b.drop x.2.at_).take x.1.toNat,{x.2 with at_:=x.2.at_+x.1.toNat})
def sV(k:Int):Bool:=k==3||k==5
def rj(s:RS):bA×RS:=
 let x:=rIn s 1 5
 let y:bA×RS:=if sV x.1 then(let t:=bV x.2 64;(⟨x.1,0,t.1⟩,t.2))else(let t:=gb x.2;(⟨x.1,t.1,[]⟩,t.2))
 if y.2.bad then(ax,y.2)else if bE y.1=false then(ax,lp y.2 s.at_)else y
def ri(s:RS):bA×RS:=
 if s.at_<s.b.length∧s.b.getD s.at_ 0=0 then(ax,(rIn (rIn s 0 0).2 0 0).2)else rj s
def rOp(b:Txt):OpD×RS:=
 let k:=gb ⟨b,0,false⟩
 let s1:=bV k.2 16
 let s2:=bV s1.2 16
 let s3:=bV s2.2 16
 let s4:=bV s3.2 16
 let v:=ri s4.2
 let r:=gb v.2
 let t:=bV r.2 4096
 let w:=bV t.2 64
 let g:=rj w.2
 (⟨k.1,s1.1,s2.1,s3.1,s4.1,v.1,r.1,t.1,w.1,eqV g.1 (dJ true)⟩,g.2)
def Li(s:RS):Bool:=decide (s.b.length≤s.at_) && !s.bad
def mq(b:Txt):Option OpD:=if Li (rOp b).2 && dj (rOp b).1 && decide (fJ (rOp b).1=b)then some (rOp b).1 else none
theorem L6{n:Int}(h:i64 n):zig n<18446744073709551616:=by
 grind [i64,zig]
theorem NT:∀(f v:Nat),0<f→rq f v≠ []
 |0,_,h=>abh
 |f+1,v,_=>by grind [rq]
theorem FF{v:bA}(h:bE v=true):1≤v.kind∧v.kind≤5:=by
 grind [bE]
end Go.Bf
namespace Go.Bf
open Go Go.Ab Go.Proofs.YtcochaoekecfdaaGreatDoor
theorem Bq{n:Int}(h1: -1000000≤n)(h2:n≤1000000):i64 n:=⟨abh,abh⟩
theorem qX{v:bA}(h:bE v=true)(hk:v.kind=3∨v.kind=5):v.n=0∧v.s.length≤64:=by
 unfold bE at h;rcases hk with e|e
 ·grind
 ·rw[if_neg abh,if_neg abh,if_neg abh,if_neg abh,if_pos e]at h
  simp only[bl,Bool.and_eq_true,beq_iff_eq,decide_eq_true_eq]at h;omega
theorem uZ{v:bA}(h:bE v=true)(hk:¬(v.kind=3∨v.kind=5)):v.s= []:=by
 unfold bE at h
 grind
theorem ud{t:Txt}(h:iH t=true):t.length≤16:=by
 unfold iH at h;simp only[Bool.or_eq_true,beq_iff_eq]at h;rcases h with rfl|h
 ·simp
 simp_all [bl,Bool.and_eq_true,decide_eq_true_eq]
structure OpF (o:OpD):Prop where
 subj:o.subj.length≤16
 case:o.case.length≤16
 field:o.field.length≤16
 to:o.to.length≤16
 val:o.val=ax∨bE o.val=true
 text:o.text.length≤4096
 reason:o.reason.length≤64
theorem jV{o:OpD}(h:dj o=true):OpF o:=by
 simp only[dj,Bool.and_eq_true,decide_eq_true_eq]at h;obtain⟨⟨⟨⟨⟨⟨⟨h1,h2⟩,h3⟩,h4⟩,h5⟩,h6⟩,h7⟩,h8⟩:=h;simp only[bl,Bool.and_eq_true,decide_eq_true_eq]at h1;refine⟨h1.2,ud h4,ud h5,ud h6,?_,h3,?_⟩
 ·simp only[Bool.or_eq_true]at h7
  rcases h7 with h7|h7
  ·left
   generalize o.val=v at h7;obtain⟨k,n,s⟩:=v;simp only[eqV,ax,Bool.and_eq_true,beq_iff_eq]at h7;obtain⟨rfl,rfl,rfl⟩:=h7;rfl
  grind
 ·unfold lF at h2
  grind
theorem LN(b:Bool):bE (dJ b)=true:=by cases b<;>rfl
theorem get_some{b:Txt}{o:OpD}(h:mq b=some o):dj o=true∧fJ o=b:=by
 unfold mq at h
 grind
theorem sJ{α:Type}(f:α→Nat):∀(l:List α) (a:Nat),l.foldl (fun a x=>min a (f x)) a≤a∧∀x∈l,l.foldl (fun a x=>min a (f x)) a≤f x
 | [],a=>abp
 |y::l,a=>by
  obtain⟨h1,h2⟩:=sJ f l (min a (f y))
  grind
theorem MY{gs:List bk}:∀ {t:fU} {m:bO},nI t=some m→jA gs m=0→mb gs t=0:=by
 intro t;have main:∀(t:fU) (m:bO),nI t=some m→jA gs m=0→∃x∈t,ze gs x=0:=by
  intro t
  induction t with
  |nil=>intro m h;cases h
  |cons x r ih=>
   intro m h h0
   match x,h with
   | [],h=>obtain⟨y,hy,e⟩:=ih m h h0;exact⟨y,List.mem_cons_of_mem _ hy,e⟩
   | [l],h=>
    simp only[nI]at h;cases hf:l.find? fun m=>m.op==1 && !m.attr.must with
    |none=>rw[hf]at h;obtain⟨y,hy,e⟩:=ih m h h0;exact⟨y,List.mem_cons_of_mem _ hy,e⟩
    |some k=>
     rw[hf]at h;cases h;have hm:=List.mem_of_find?_eq_some hf;have hall:B2 gs l=0:=by
      have:=(sJ (jA gs) l 2).2 _ hm;rw[h0]at this;exact Nat.le_zero.1 this
     exact⟨[l],List.mem_cons_self ..,by grind [ze]⟩
   |a::b::c,h=>obtain⟨y,hy,e⟩:=ih m h h0;exact⟨y,List.mem_cons_of_mem _ hy,e⟩
 intro m h h0;obtain⟨x,hx,e⟩:=main t m h h0;have:=(sJ (ze gs) t 2).2 x hx;rw[e]at this;exact Nat.le_zero.1 this
theorem Nh{gs:List bk}{p:bI}(h:rT gs p=false):fq gs p=(naM,[]):=by
 obtain⟨id,set,alg,tgt,rules,kids,obls⟩:=p;unfold rT at h;simp only[rX]at h;cases hk:nI tgt with
 |none=>grind
 |some m=>
  simp_all [jA,fq,MY,if_true]
theorem MV(j:aS):nH j naM=j:=by simp[nH,naM]
inductive Drop:List jr→List jr→Prop
 |nil:Drop [] []
 |keep (x:jr) {a b:List jr} (h:Drop a b):Drop (x::a) (x::b)
 |skip {a b:List jr} (h:Drop a b):Drop a ((naM,[])::b)
theorem Drop.app{a b c:List jr}(h:Drop a b):Drop (c++a) (c++b):=by
 induction c with
 |nil=>exact h
 |cons x c ih=>grind [keep]
theorem Drop.join{a b:List jr}(h:Drop a b):∀j,(a.map (·.1)).foldl nH j=(b.map (·.1)).foldl nH j:=by
 induction h with
 |nil=>simp
 |keep x h ih=>grind
 |skip h ih=>grind [MV]
theorem Drop.first{a b:List jr}(h:Drop a b):firstM (a.map (·.1))=firstM (b.map (·.1)):=by
 unfold firstM
 congr 1
 induction h with
 |nil=>rfl
 |keep x h ih=>grind
 |skip h ih=>simpa using ih
theorem Drop.only{a b:List jr}(h:Drop a b):∀j,nM (a.map (·.1)) j=nM (b.map (·.1)) j:=by
 induction h with
 |nil=>simp
 |keep x h ih=>grind [nM]
 |skip h ih=>
  intro j;have hs:yP naM=true:=abk;simp only[List.map_cons,nM,hs,Bool.true_eq_false,if_false];rw[←ih]
  congr 1
  simp
theorem Drop.mem{a b:List jr}(h:Drop a b){m:aS}(hm:m≠naM):m∈a.map (·.1)↔m∈b.map (·.1):=by
 exact agm
theorem Drop.comb{a b:List jr}(h:Drop a b)(alg:Int):gI alg (a.map (·.1))=gI alg (b.map (·.1)):=by
 unfold gI wE;rw[h.join,h.first,h.only];simp only[h.mem (show bf≠naM by decide),h.mem (show cD≠naM by decide)]
theorem Drop.parts{a b:List jr}(h:Drop a b)(alg:Int){m:aS}(hm:m≠naM):eD alg m a=eD alg m b:=by
 have h1:(a.find? fun x=>x.1==m)=b.find? fun x=>x.1==m:=by
  exact agm
 have h2:(a.filter fun x=>x.1==m)=b.filter fun x=>x.1==m:=by
  clear h1;exact agm
 simp only[eD,h1,h2]
theorem Drop.o7{a b:List jr}(h:Drop a b)(alg:Int)(obls:List cC)(t:Nat):o7 alg obls t a=o7 alg obls t b:=by
 unfold Go.Bf.o7;simp only[h.comb alg]
 by_cases hp:gI alg (b.map (·.1))=bf
 ·rw[hp,h.parts alg abk]
 ·by_cases hd:gI alg (b.map (·.1))=cD
  ·rw[hd,h.parts alg abk]
  grind
mutual
theorem Aq(gs:List bk):∀p:bI,fq gs (kN gs p)=fq gs p
 |.mk id set alg tgt rules kids obls=>by
  simp only[kN,fq]
  by_cases h:mb gs tgt=0
  ·simp only[h,if_true]
  ·simp only[h,if_false]
   exact(Ar gs kids).app.o7 alg obls _
theorem Ar(gs:List bk):∀l:List bI,Drop (lV gs (jO gs l)) (lV gs l)
 | []=>by simp only[jO,lV];exact .nil
 |k::r=>by
  have ih1:=Aq gs k;have ih2:=Ar gs r;simp only[jO,lV]
  by_cases h:rT gs k=true
  ·simp only[h,if_true,lV,ih1]
   exact .keep _ ih2
  ·have h:rT gs k=false:=by simpa using h
   simp only[h,Bool.false_eq_true,if_false,Nh h];exact .skip ih2
end
structure kV where
 err:Int
 mark:aS
 glass:Bool
 val:bA
 hidden:Bool
 at_:Int
structure pG where
 op:OpD
 version:Int
 mark:aS
 glass:Bool
 obls:List cC
def NW:OpD:=⟨0,[],[],[],[],ax,0,[],[],false⟩
def wN:pG:=⟨NW,0,naM,false,[]⟩
def Bo:Txt:=[103,108,97,115,115]
def qw(s:an)(r:pH):Bool:=r.isOpen && decide (100≤s.tick - r.tick)
def KA(s:an)(subj:Txt):Bool:=s.reviews.any fun r=>r.subj==subj && qw s r
def su(s:an)(o:OpD)(m:aS):Bool:=o.glass && (m==cD||m==naM) && xL s.roles ⟨o.subj,Bo⟩ && !KA s o.subj
def AE(s:an)(o:OpD)(reason:Txt):pH:=⟨(s.reviews.length:Int)+1,s.tick,o.subj,o.case,js o.kind,reason,true⟩
def cc(s:an)(o:OpD)(reason:Txt):an:={s with reviews:=s.reviews++ [AE s o reason]}
def jw(l:List cC)(field:Txt):Bool:=l.any fun x=>x.kind==2 && x.arg==field
def ij(cs:List aK)(id:Txt):Nat:=cs.findIdx fun c=>c.id==id
def iD(s:an)(o:OpD)(what:Txt):an:=
 if ij s.cases o.case<s.cases.length∧o.kind≠6 then {s with cases:=s.cases.modify (ij s.cases o.case) fun c=>iU s c o.subj what} else s
def fo(o:OpD)(done:Bool)(s:an)(x:cC):an:=
 if x.kind=1∧done=true then iD s o x.arg
 else if x.kind=3 then cc s o x.arg
 else if x.kind=4 then {s with notices:=s.notices++ [⟨s.tick,o.case,x.arg⟩]}
 else s
def cZ(s:an)(o:OpD)(l:List cC)(done:Bool):an:=l.foldl (fo o done) s
def rC(s:an):Bool:=decide (256<s.reviews.length)||decide (256<s.notices.length)||s.cases.any fun c=>decide (256<c.log.length)
def gC(s:an)(o:OpD):jr:=fq (fy s o) s.policy
def jK(s:an)(o:OpD):Int×Int:=if bL s o=0∧o.kind=7 then((aP o.text).2.1,(aP o.text).2.2)else(bL s o,0)
def fz(s:an)(o:OpD):Bool:=su s o (gC s o).1
def sA(s:an)(o:OpD):Bool:=decide ((gC s o).1=bf)||fz s o
def cS(s:an)(o:OpD):an:=
 let s1:=if fz s o then cc s o o.reason else s
 cZ (if sA s o then dN aP s1 o else s1) o (gC s o).2 (sA s o)
def oO(s:an)(o:OpD):kV:=
 ⟨if sA s o then 0 else 12,(gC s o).1,fz s o,if sA s o && o.kind==2 && !jw (gC s o).2 o.field then eC (bt s.cases o.case).fields o.field else ax,sA s o && o.kind==2 && jw (gC s o).2 o.field,0⟩
def bu(s:an)(o:OpD):an×kV×pG×Int:=
 if(jK s o).1≠0 then(s,⟨(jK s o).1,naM,false,ax,false,(jK s o).2⟩,wN,(jK s o).1)
 else if rC (cS s o)then(s,⟨6,naM,false,ax,false,0⟩,wN,6)
 else(cS s o,oO s o,⟨o,s.version,(gC s o).1,fz s o,(gC s o).2⟩,0)
theorem xZ(s:an)(o:OpD)(w:Txt):(iD s o w).tick=s.tick∧(iD s o w).roles=s.roles∧(iD s o w).policy=s.policy∧(iD s o w).version=s.version∧(iD s o w).reviews=s.reviews∧(iD s o w).notices=s.notices:=by
 grind [iD]
theorem Co(o:OpD)(done:Bool)(s:an)(x:cC):(fo o done s x).tick=s.tick∧(fo o done s x).roles=s.roles∧(fo o done s x).policy=s.policy∧(fo o done s x).version=s.version:=by
 unfold fo;split
 ·grind [xZ]
 ·split
  ·exact⟨rfl,rfl,rfl,rfl⟩
  grind
theorem Eu(o:OpD)(done:Bool):∀(l:List cC) (s:an),(cZ s o l done).tick=s.tick∧(cZ s o l done).roles=s.roles∧(cZ s o l done).policy=s.policy∧(cZ s o l done).version=s.version
 | [],s=>⟨rfl,rfl,rfl,rfl⟩
 |x::l,s=>by
  obtain⟨a1,a2,a3,a4⟩:=Co o done s x;obtain⟨b1,b2,b3,b4⟩:=Eu o done l (fo o done s x);exact⟨b1.trans a1,b2.trans a2,b3.trans a3,b4.trans a4⟩
def gz(o:OpD)(a b:List pH):Prop:=∃c,b=a++c∧∀i (h:i<c.length),c[i].id=((a.length+i+1:Nat):Int)∧c[i].isOpen=true∧c[i].subj=o.subj
theorem gz.refl(o:OpD)(a:List pH):gz o a a:=⟨[],abp,fun i h=>ab6⟩
theorem gz.trans{o:OpD}{a b c:List pH}(h1:gz o a b)(h2:gz o b c):gz o a c:=by
 obtain⟨x,rfl,hx⟩:=h1;obtain⟨y,rfl,hy⟩:=h2;refine⟨x++y,abp,fun i h=>?_⟩
 grind
theorem gz.open(s:an)(o:OpD)(w:Txt):gz o s.reviews (cc s o w).reviews:=⟨[AE s o w],rfl,fun i h=>by
 have:i=0:=abi;subst this;exact⟨abx,rfl,rfl⟩⟩
theorem gz.duties(o:OpD)(done:Bool):∀(l:List cC) (s:an),gz o s.reviews (cZ s o l done).reviews
 | [],s=> .refl o _
 |x::l,s=>by
  have:gz o s.reviews (fo o done s x).reviews:=by
   unfold fo;split
   ·grind [xZ,refl]
   ·split
    ·exact .open s o _
    grind [refl]
  exact this.trans (gz.duties o done l _)
structure FN (c:aK):Prop where
 id:bl c.id=true
 owner:bl c.owner=true
 state:c.state∈oR
 asc:D5 c.fields
 nfields:c.fields.length≤16
 field:∀f∈c.fields,bl f.name=true∧bE f.val=true∧eqV f.val ax=false
 log1:1≤c.log.length
 actor:∀x∈c.log,bl x.actor=true∧i64 x.tick
theorem tW.w{c:aK}(h:tW c):FN c:=⟨h.id,h.owner,h.state,h.asc,h.nfields,h.field,h.log1,h.actor⟩
theorem FN.ok{c:aK}(h:FN c)(hl:c.log.length≤256):tW c:=⟨h.id,h.owner,h.state,h.asc,h.nfields,h.field,h.log1,hl,h.actor⟩
structure kW (k:Nat) (s:an):Prop where
 tick:0≤s.tick∧s.tick≤1099511627776
 asc:Asc s.cases
 ncases:s.cases.length≤64
 case:∀c∈s.cases,FN c
 roles:s.roles.length≤64
 role:∀r∈s.roles,bl r.subj=true∧bl r.role=true
 pol:gh s.policy=0
 ver:0≤s.version∧s.version≤k
theorem cX.w{k:Nat}{s:an}(h:cX k s):kW k s:=⟨h.tick,h.asc,h.ncases,fun c hc=>(h.case c hc).w,h.roles,h.role,h.pol,h.ver⟩
theorem kW.ok{k:Nat}{s:an}(h:kW k s)(ho:rC s=false):cX k s:=by
 unfold rC at ho;simp only[Bool.or_eq_false_iff,decide_eq_false_iff_not]at ho;refine⟨h.tick,h.asc,h.ncases,fun c hc=>(h.case c hc).ok ?_,abh,abh,h.roles,h.role,h.pol,h.ver⟩
 grind
theorem FB{k:Nat}{s:an}(o:OpD)(w:Txt)(h:kW k s):kW k (cc s o w):={h with}
theorem FA{k:Nat}{s:an}{o:OpD}(hn:bl o.subj=true)(w:Txt)(h:kW k s):kW k (iD s o w):=by
 unfold iD;split
 ·refine {h with asc:=Ba (jW fun x=>rfl) h.asc,ncases:=by simpa using h.ncases,case:= ?_}
  intro d hd;rcases mem_modify hd with hd|⟨hi,rfl⟩
  ·exact h.case d hd
  ·have hc:=h.case _ (abc hi)
   refine⟨hc.id,hc.owner,hc.state,hc.asc,hc.nfields,hc.field,afm,?_⟩;intro x hx;simp only[iU,List.mem_append,List.mem_singleton]at hx;rcases hx with hx|rfl
   ·exact hc.actor x hx
   ·exact⟨hn,by have:=h.tick;constructor<;>simp only<;>omega⟩
 omega
theorem Fz{k:Nat}{o:OpD}(hn:bl o.subj=true)(done:Bool){s:an}(x:cC)(h:kW k s):kW k (fo o done s x):=by
 unfold fo;split
 ·grind [FA]
 ·split
  ·grind [FB]
  ·split
   ·exact {h with}
   omega
theorem tJ{k:Nat}{o:OpD}(hn:bl o.subj=true)(done:Bool):∀(l:List cC) {s:an},kW k s→kW k (cZ s o l done)
 | [],s,h=>h
 |x::l,s,h=>tJ hn done l (Fz hn done x h)
theorem BC{k:Nat}{s:an}(o:OpD)(w:Txt)(h:cX k s)(hr:s.reviews.length≤999):cX k (cc s o w):={h with nrev:=by grind [cc]}
structure j4 (k:Nat) (s:an):Prop extends cX k s where
 ids:∀i (h:i<s.reviews.length),s.reviews[i].id=((i+1:Nat):Int)
 nr:s.reviews.length≤256
 nn:s.notices.length≤256
theorem Ib:j4 0 we:={I4 with ids:=fun i h=>ab6,nr:=abk,nn:=abk}
theorem tE{s:an}{o:OpD}(h:(jK s o).1=0):bL s o=0∧dj o=true∧(o.kind=7→(aP o.text).2.1=0):=by
 unfold jK at h;have hr:bL s o=0:=by
  grind
 have hf:dj o=true:=by
  unfold bL at hr
  grind
 exact⟨hr,hf,fun hk=>abi⟩
theorem JJ{k:Nat}{s:an}{o:OpD}(h:j4 k s)(hp:(jK s o).1=0):kW (k+1) (cS s o):=by
 have hn:=(sN (tE hp).2.1).subj;have h1:cX k (if fz s o then cc s o o.reason else s):=by
  split
  ·exact BC o _ h.tocX (by have:=h.nr;omega)
  ·exact h.tocX
 refine tJ hn _ _ ?_;split
 ·exact(oS o h1).w
 ·have:=h1.w
  exact {this with ver:=⟨this.ver.1,by have:=this.ver.2;omega⟩}
def shut(r:pH):pH:={r with isOpen:=false}
theorem uc(par:Txt→bI×Int×Int)(s:an)(o:OpD):(dN par s o).reviews=if bL s o=0∧o.kind=5 then s.reviews.modify (o.review - 1).toNat shut else s.reviews:=by
 unfold dN
 by_cases hr:bL s o=0
 ·rw[if_pos hr]
  unfold doD
  by_cases k1:o.kind=1
  ·grind
  ·by_cases k3:o.kind=3
   ·grind
   ·by_cases k4:o.kind=4
    ·grind
    ·by_cases k5:o.kind=5
     ·simp[k5,hr];rfl
     grind
 grind
theorem xF{o:OpD}(h:dj o=true)(hg:o.glass=true):1≤o.kind∧o.kind≤4:=by
 simp_all [dj,Bool.and_eq_true,lF,if_true,uA,decide_eq_true_eq]
theorem CF{s:an}{o:OpD}(h:fz s o=true):o.glass=true:=by
 simp_all [fz,su,Bool.and_eq_true]
structure D8 (s:an) (o:OpD) (t:an) (r:kV) (e:Int):Prop where
 len:s.reviews.length≤t.reviews.length
 old:∀i (h:i<s.reviews.length) (h' :i<t.reviews.length),(e=0∧r.err=0∧o.kind=5∧o.review=((i+1:Nat):Int)→o.subj≠s.reviews[i].subj∧s.reviews[i].isOpen=true∧t.reviews[i].isOpen=false∧t.reviews[i].id=s.reviews[i].id)∧
  (¬(e=0∧r.err=0∧o.kind=5∧o.review=((i+1:Nat):Int))→t.reviews[i]=s.reviews[i])
 new:∀i (h:i<t.reviews.length),s.reviews.length≤i→t.reviews[i].id=((i+1:Nat):Int)∧t.reviews[i].isOpen=true∧t.reviews[i].subj=o.subj
 glass:r.glass=true→∃h:s.reviews.length<t.reviews.length,t.reviews[s.reviews.length].reason=o.reason
theorem D8.same(s:an)(o:OpD)(e:Int)(r:kV)(he:e≠0)(hg:r.glass=false):D8 s o s r e:=
 ⟨Nat.le_refl _,fun i h h' =>⟨fun hc=>(he hc.1).elim,fun _=>rfl⟩,fun i h h' =>abh,fun h=>abi⟩
theorem Gt{o:OpD}{a b:List pH}(h:gz o a b):a.length≤b.length∧(∀i (h1:i<a.length) (h2:i<b.length),b[i]=a[i])∧∀i (h1:i<b.length),a.length≤i→b[i].id=((i+1:Nat):Int)∧b[i].isOpen=true∧b[i].subj=o.subj:=by
 obtain⟨c,rfl,hc⟩:=h;refine⟨abp,fun i h1 h2=>abi,fun i h1 h2=>?_⟩
 grind
theorem Cf{s:an}{o:OpD}(hr:bL s o=0)(hf:dj o=true)(hk:o.kind=5):1≤o.review∧∃h:(o.review - 1).toNat<s.reviews.length,s.reviews[(o.review - 1).toNat].isOpen=true∧s.reviews[(o.review - 1).toNat].subj≠o.subj:=by
 have F:=sN hf;have hok:=F.ok;unfold okD at hok;simp only[hk,show¬(5:Int)=1 by decide,show¬((5:Int)=2∨(5:Int)=6) by decide,show¬(5:Int)=3 by decide,show¬(5:Int)=4 by decide,if_false,if_true,decide_eq_true_eq]at hok
 unfold bL at hr;simp only[hk,Bool.true_eq_false,show¬(5:Int)=1 by decide,show¬(2≤(5:Int)∧(5:Int)≤4) by decide,if_false,if_true]at hr
 unfold fH vJ at hr;rw[if_pos (by omega:1≤o.review)]at hr
 refine⟨abh,?_⟩;cases hx:s.reviews[(o.review - 1).toNat]? with
 |none=>simp_all
 |some r=>
  rw[hx]at hr;obtain⟨h,rfl⟩:=List.getElem?_eq_some_iff.1 hx;refine⟨h,?_,?_⟩
  ·grind
  ·intro e
   simp only[e,if_true]at hr;omega
theorem Fh{k:Nat}{s:an}{o:OpD}(h:j4 k s):D8 s o (bu s o).1 (bu s o).2.1 (bu s o).2.2.2:=by
 unfold bu
 by_cases hp:(jK s o).1=0
 ·rw[if_neg abh]
  by_cases ho:rC (cS s o)=true
  ·rw[if_pos ho];exact .same _ _ _ _ abp rfl
  ·rw[if_neg ho]
   obtain⟨hr,hf,_⟩:=tE hp;simp only
   by_cases hk:o.kind=5
   ·have hg:fz s o=false:=by
     cases hg:fz s o with
     |false=>rfl
     |true=>have:=xF hf (CF hg);omega
    obtain⟨hv1,hlt,hop,hsu⟩:=Cf hr hf hk
    by_cases hd:sA s o=true
    ·have hb:cS s o=cZ (dN aP s o) o (gC s o).2 true:=by
      grind [cS]
     have hrev:(dN aP s o).reviews=s.reviews.modify (o.review - 1).toNat shut:=by
      simp_all [uc,if_pos]
     have hon:=gz.duties o true (gC s o).2 (dN aP s o);rw[←hb,hrev]at hon;obtain⟨a1,a2,a3⟩:=Gt hon;have hlm:(s.reviews.modify (o.review - 1).toNat shut).length=s.reviews.length:=abp;rw[hlm]at a1;refine⟨a1,fun i h1 h2=>⟨fun hc=>?_,fun hc=>?_⟩,fun i h1 h2=>a3 i h1 abh,fun hgl=>?_⟩
     ·have hi:(o.review - 1).toNat=i:=by omega
      subst hi;rw[a2 _ abh h2,List.getElem_modify,if_pos rfl];exact⟨fun e=>hsu e.symm,hop,rfl,rfl⟩
     ·have hi:(o.review - 1).toNat≠i:=fun e=>hc ⟨rfl,by simp[oO,hd],hk,abh⟩
      rw[a2 _ abh h2,List.getElem_modify,if_neg hi]
     simp_all [oO]
    ·have hd:sA s o=false:=by grind
     have hb:cS s o=cZ s o (gC s o).2 false:=by
      grind [cS]
     have hon:=gz.duties o false (gC s o).2 s;rw[←hb]at hon;obtain⟨a1,a2,a3⟩:=Gt hon;refine⟨a1,fun i h1 h2=>⟨fun hc=>?_,fun hc=>a2 i h1 h2⟩,a3,fun hgl=>?_⟩
     ·simp_all [oO]
     simp_all [oO]
   ·have hs1:gz o s.reviews (if fz s o then cc s o o.reason else s).reviews:=by
     split
     ·exact .open s o _
     ·exact .refl o _
    have hs2:(if sA s o then dN aP (if fz s o then cc s o o.reason else s) o else(if fz s o then cc s o o.reason else s)).reviews=(if fz s o then cc s o o.reason else s).reviews:=by
     split
     ·simp_all [uc,if_neg]
     ·rfl
    have hd:=gz.duties o (sA s o) (gC s o).2 (if sA s o then dN aP (if fz s o then cc s o o.reason else s) o else(if fz s o then cc s o o.reason else s))
    rw[hs2]at hd;have hon:gz o s.reviews (cS s o).reviews:=hs1.trans hd;obtain⟨a1,a2,a3⟩:=Gt hon;refine⟨a1,fun i h1 h2=>⟨fun hc=>(hk hc.2.2.1).elim,fun hc=>a2 i h1 h2⟩,a3,fun hgl=>?_⟩
    have hg:fz s o=true:=hgl;have hd' :=hd;simp only[hg,↓reduceIte]at hd';obtain⟨b1,b2,_⟩:=Gt hd';have hb:(cS s o)=cZ (if sA s o then dN aP (cc s o o.reason) o else cc s o o.reason) o (gC s o).2 (sA s o):=by
     grind [cS]
    rw[←hb]at b1 b2;have hl:(cc s o o.reason).reviews.length=s.reviews.length+1:=by simp[cc]
    refine⟨abh,?_⟩
    grind [cc,AE]
 ·rw[if_pos abh]
  exact .same _ _ _ _ abh rfl
theorem j4.up{k:Nat}{s:an}(h:j4 k s):j4 (k+1) s:={h with ver:=⟨h.ver.1,by have:=h.ver.2;omega⟩}
theorem EL{k:Nat}{s:an}(o:OpD)(h:j4 k s):j4 (k+1) (bu s o).1:=by
 have hrl:=Fh (o:=o) h;unfold bu at hrl⊢
 by_cases hp:(jK s o).1=0
 ·rw[if_neg abh]at hrl⊢
  by_cases ho:rC (cS s o)=true
  ·rw[if_pos ho];exact h.up
  ·rw[if_neg ho]at hrl⊢
   have ho:rC (cS s o)=false:=abi;have hw:=(JJ h hp).ok ho;unfold rC at ho;refine {hw with ids:=fun i hi=>?_,nr:=abi,nn:=abi}
   by_cases hlt:i<s.reviews.length
   ·obtain⟨h1,h2⟩:=hrl.old i hlt hi
    by_cases hc:(0:Int)=0∧(oO s o).err=0∧o.kind=5∧o.review=((i+1:Nat):Int)
    ·rw[(h1 hc).2.2.2];exact h.ids i hlt
    ·rw[h2 hc];exact h.ids i hlt
   ·exact(hrl.new i hi abh).1
 ·rw[if_pos abh];exact h.up
structure T9 (s:an) (o:OpD):Prop where
 err:(bu s o).2.2.2≠0→(bu s o).1=s∧(bu s o).2.1.err=(bu s o).2.2.2∧(bu s o).2.1.mark=naM
 ok:(bu s o).2.2.2=0→(bu s o).2.1.mark=(gC s o).1∧(bu s o).2.2.1=⟨o,s.version,(gC s o).1,fz s o,(gC s o).2⟩∧(bu s o).2.1.glass=fz s o∧(bu s o).1=cS s o∧(bu s o).2.1=oO s o
theorem xp(o:OpD)(done:Bool):∀(l:List cC) (s:an),(cZ s o l done).cases.length=s.cases.length
 | [],s=>rfl
 |x::l,s=>by
  have:(fo o done s x).cases.length=s.cases.length:=by
   unfold fo;split
   ·grind [iD]
   ·split
    ·rfl
    grind
  exact(xp o done l _).trans this
end Go.Bf
namespace Go.Ab
open Go
section
variable {U : TypeId → TI} {ρ : Env} {h0 h h' : Heap} {sz id : Nat} {tb : TypeId} {y : AV} {xs : List AV} {e : TypeId} {K : AV → Prop} {x : IntKind} {m : Int}
theorem uf(xs:List AV)(j:Nat):aq xs=aq (xs.take j)++aq (xs.drop j):=aeC
theorem OwE.cut(hw:OwE tb h0 h sz y xs){hi:Operand}(j:Nat)(hm:ev ρ hi=some (.v (.int x m)))(hj:m=j)(hl:j≤xs.length)(hz:(U tb).sz=sz)(h1:sz≠0)
  (hk:∀z,OwE tb h0 h sz z (xs.take j)→(z=y∨∃id l l' c,y= .ob id 0 l c sz∧z= .ob id 0 l' c sz)→K z):gj U ρ y none (some hi) none K (.slice tb):=by
 subst hj;subst hz
 rcases hw with⟨rfl,rfl⟩|⟨id,h2,cap,rest,rfl,h3,h4,h5,h6⟩
 ·rw[mS,eY,hm]
  refine⟨h1,?_⟩;have:j=0:=abi;subst this;refine⟨abh,abp,?_⟩;exact hk _ (.inl ⟨rfl,rfl⟩) (.inl rfl)
 ·rw[AH]
  refine⟨h1,rfl,?_⟩;simp only[lP,eY,hm,cY,mI];refine⟨abh,abh,abh,?_⟩;simp only[Int.toNat_natCast,Nat.zero_mul,Nat.add_zero,Nat.sub_zero,show(((0:Nat):Int)).toNat=0 from rfl]
  have e1:(xs.take j).length=j:=abi;have hs:Sized (U tb).sz (xs.drop j):=fun z hz=>h6 z (List.mem_of_mem_drop hz)
  refine hk _ (.inr ⟨id,h2,cap,aq (xs.drop j)++rest,by rw[e1],by grind [uf,List.append_assoc],?_,abh,fun z hz=>h6 z (List.mem_of_mem_take hz)⟩) (.inr ⟨id,_,_,cap,rfl,rfl⟩)
  rw[abb,aX hs,h4,List.length_drop,e1,←Nat.add_mul]
  grind
theorem OwE.from(hw:OwE tb h0 h sz y xs){lo:Operand}(j:Nat)(hm:ev ρ lo=some (.v (.int x m)))(hj:m=j)(hl:j≤xs.length)(hz:(U tb).sz=sz)(h1:sz≠0)
  (hk:∀z,Rd h sz z (xs.drop j)→K z):gj U ρ y (some lo) none none K (.slice tb):=by
 subst hj;subst hz
 rcases hw with⟨rfl,rfl⟩|⟨id,h2,cap,rest,rfl,h3,h4,h5,h6⟩
 ·have:j=0:=by grind
  subst this;rw[qE,eY,hm];refine⟨h1,by simp[Sized],?_⟩
  exact⟨abh,abp,abp,hk _ (.sl (by intro z hz;grind [nV]) _)⟩
 ·rw[AH]
  refine⟨h1,rfl,?_⟩;simp only[lP,eY,hm,cY,mI];refine⟨abh,abh,abh,?_⟩;simp only[Int.toNat_natCast,Nat.zero_add];have e1:(xs.drop j).length=xs.length - j:=abp;have hs:Sized (U tb).sz (xs.drop j):=fun z hz=>h6 z abi
  have ht:Sized (U tb).sz (xs.take j):=fun z hz=>h6 z abi
  have e2:=aX hs;have e3:=aX ht;refine hk _ ⟨hs,.inr ⟨id,j*(U tb).sz,cap - j,_,tb,by rw[e1],h3,?_,?_⟩⟩
  ·grind [uf,abb]
  grind [uf,List.append_assoc,List.drop_left,List.take_left]
end
end Go.Ab
namespace Go.Bf
open Go Go.Ab Go.Proofs.YtcochaoekecfdaaGreatDoor
def hbit:Nat→Nat
 |0=>0
 |1=>4602678819172646912
 |_=>4607182418800017408
def aQ(m:aS):AV:=.v (.complex .f64 (hbit m.1) (hbit m.2))
def M9(m:aS):Prop:=m.1≤2∧m.2≤2
def M6(m:aS):Prop:=m∈uw
instance (m:aS):Decidable (M9 m):=inferInstanceAs (Decidable (_∧_))
instance (m:aS):Decidable (M6 m):=inferInstanceAs (Decidable (m∈uw))
theorem M6.m9{m:aS}(h:M6 m):M9 m:=by
 exact afX
theorem le2{n:Nat}(h:n≤2):n=0∨n=1∨n=2:=abh
theorem yf{m n:aS}(hmm:M9 m)(hn:M9 n)(K:AV→Prop):fY .eql (.complex .f64 (hbit m.1) (hbit m.2)) (.complex .f64 (hbit n.1) (hbit n.2)) K=K (.b (m==n)):=
 nL (fun P ty w=>by
  exact afT) K
theorem C7{m n:aS}(hmm:M9 m)(hn:M9 n)(K:AV→Prop):fY .neq (.complex .f64 (hbit m.1) (hbit m.2)) (.complex .f64 (hbit n.1) (hbit n.2)) K=K (.b (!(m==n))):=
 nL (fun P ty w=>by
  exact afT) K
structure Nb (m:aS):Prop where
 na:∀K,fY .eql (.complex .f64 (hbit m.1) (hbit m.2)) (.complex .f64 0 0) K=K (.b (m==naM))
 pe:∀K,fY .eql (.complex .f64 (hbit m.1) (hbit m.2)) (.complex .f64 4607182418800017408 0) K=K (.b (m==bf))
 de:∀K,fY .eql (.complex .f64 (hbit m.1) (hbit m.2)) (.complex .f64 0 4607182418800017408) K=K (.b (m==cD))
 ip:∀K,fY .eql (.complex .f64 (hbit m.1) (hbit m.2)) (.complex .f64 4602678819172646912 0) K=K (.b (m==Ag))
 id:∀K,fY .eql (.complex .f64 (hbit m.1) (hbit m.2)) (.complex .f64 0 4602678819172646912) K=K (.b (m==Af))
 ib:∀K,fY .eql (.complex .f64 (hbit m.1) (hbit m.2)) (.complex .f64 4602678819172646912 4602678819172646912) K=K (.b (m==oA))
 nna:∀K,fY .neq (.complex .f64 (hbit m.1) (hbit m.2)) (.complex .f64 0 0) K=K (.b (!(m==naM)))
 npe:∀K,fY .neq (.complex .f64 (hbit m.1) (hbit m.2)) (.complex .f64 4607182418800017408 0) K=K (.b (!(m==bf)))
 nde:∀K,fY .neq (.complex .f64 (hbit m.1) (hbit m.2)) (.complex .f64 0 4607182418800017408) K=K (.b (!(m==cD)))
theorem nb{m:aS}(h:M9 m):Nb m:=
 ⟨yf (n:=naM) h abk,yf (n:=bf) h abk,yf (n:=cD) h abk,yf (n:=Ag) h abk,yf (n:=Af) h abk,yf (n:=oA) h abk,
  C7 (n:=naM) h abk,C7 (n:=bf) h abk,C7 (n:=cD) h abk⟩
theorem Ox{a b:Nat}(ha:a≤2)(hb:b≤2)(k:AV→Prop):zk [.v (.float .f64 (hbit a)),.v (.float .f64 (hbit b))] k=k (.v (.float .f64 (hbit (max a b)))):=
 E0 (fun P ts ty w=>by
  rcases le2 ha with rfl|rfl|rfl<;>rcases le2 hb with rfl|rfl|rfl<;>rfl) k
structure Fb (a:Nat):Prop where
 one:∀K,fY .eql (.float .f64 (hbit a)) (.float .f64 4607182418800017408) K=K (.b (a==2))
 half:∀K,fY .eql (.float .f64 (hbit a)) (.float .f64 4602678819172646912) K=K (.b (a==1))
 ge:∀K,fY .geq (.float .f64 (hbit a)) (.float .f64 4602678819172646912) K=K (.b (decide (1≤a)))
theorem fb{a:Nat}(h:a≤2):Fb a:=by
 rcases le2 h with rfl|rfl|rfl<;>
  exact⟨nL fun P ty w=>rfl,nL fun P ty w=>rfl,nL fun P ty w=>rfl⟩
end Go.Bf
namespace Go.Proofs.YtcochaoekecfdaaGreatDoor
open Go Go.Ab Go.Bf
theorem Bx(m:aS)(hmm:M6 m)(h:Heap):ai Tryz.prog 275 [aQ m] h fun r h' =>r= .b true∧h' =h:=by
 have hn:ai Tryz.prog 150 [aQ m] h fun r h' =>(∃c l,r= .s (c::l))∧h' =h:=by
  obtain⟨n1,n2,n3,n4,n5,n6⟩:=nb hmm.m9;refine abg Tryz.func150 16 [.tmp 2] fun hwf=>?_
  cases d1:(m==naM)
  case true=>simp only[go_sem,aQ,n1,d1];exact .same (.refl _) ⟨⟨_,_,rfl⟩,rfl⟩
  cases d2:(m==bf)
  case true=>simp only[go_sem,aQ,n1,n2,d1,d2];exact .same (.refl _) ⟨⟨_,_,rfl⟩,rfl⟩
  cases d3:(m==cD)
  case true=>simp only[go_sem,aQ,n1,n2,n3,d1,d2,d3];exact .same (.refl _) ⟨⟨_,_,rfl⟩,rfl⟩
  cases d4:(m==Ag)
  case true=>simp only[go_sem,aQ,n1,n2,n3,n4,d1,d2,d3,d4];exact .same (.refl _) ⟨⟨_,_,rfl⟩,rfl⟩
  cases d5:(m==Af)
  case true=>simp only[go_sem,aQ,n1,n2,n3,n4,n5,d1,d2,d3,d4,d5];exact .same (.refl _) ⟨⟨_,_,rfl⟩,rfl⟩
  have d6:(m==oA)=true:=by
   unfold M6 uw at hmm
   grind
  simp only[go_sem,aQ,n1,n2,n3,n4,n5,n6,d1,d2,d3,d4,d5,d6];exact .same (.refl _) ⟨⟨_,_,rfl⟩,rfl⟩
 refine abg Tryz.func275 6 [.tmp 2] fun hwf=>?_
 simp only[go_sem];refine hn.mono ?_
 rintro r h' ⟨⟨c,l,rfl⟩,rfl⟩
 exact afV
theorem xP(m:aS)(hmm:M9 m)(h:Heap):ai Tryz.prog 248 [aQ m] h fun r h' =>r=aQ (gA m)∧h' =h:=by
 obtain⟨n1,n2,n3,n4,n5,n6⟩:=nb hmm;refine abg Tryz.func248 9 [.tmp 2] fun hwf=>?_
 cases d2:(m==bf)
 case true=>simp only[go_sem,aQ,n2,d2];exact .same (.refl _) ⟨by rw[gA,if_pos abi];rfl,rfl⟩
 cases d3:(m==cD)
 case true=>simp only[go_sem,aQ,n2,n3,d2,d3];exact .same (.refl _) ⟨by rw[gA,if_neg abi,if_pos abi];rfl,rfl⟩
 simp only[go_sem,aQ,n2,n3,d2,d3];exact .same (.refl _) ⟨by rw[gA,if_neg abi,if_neg abi];rfl,rfl⟩
theorem tv(m:aS)(h:Heap):ai Tryz.prog 303 [aQ m] h fun r h' =>r= .tup [.v (.float .f64 (hbit m.1)),.v (.float .f64 (hbit m.2))]∧h' =h:=by
 refine abg Tryz.func303 10 [.tmp 2,.tmp 3] fun hwf=>?_
 simp only[go_sem,aQ];exact abu
theorem OD(a b:Nat)(h:Heap):ai Tryz.prog 304 [.v (.float .f64 (hbit a)),.v (.float .f64 (hbit b))] h fun r h' =>r=aQ (a,b)∧h' =h:=by
 refine abg Tryz.func304 8 [.tmp 4] fun hwf=>?_
 exact afV
theorem NM(m:aS)(h:Heap):ai Tryz.prog 278 [aQ m] h fun r h' =>r=aQ (DU m)∧h' =h:=by
 refine abg Tryz.func278 13 [.tmp 2] fun hwf=>?_
 simp only[go_sem];refine(tv m _).pthen ?_;simp only[go_sem];refine(OD m.2 m.1 _).pthen ?_;exact afV
theorem MW(a b:aS)(ha:M9 a)(hb:M9 b)(h:Heap):ai Tryz.prog 276 [aQ a,aQ b] h fun r h' =>r=aQ (nH a b)∧h' =h:=by
 have m1:=Ox ha.1 hb.1;have m2:=Ox ha.2 hb.2;refine abg Tryz.func276 26 [.tmp 4] fun hwf=>?_
 simp only[go_sem];refine(tv a _).pthen ?_;simp only[go_sem];refine(tv b _).pthen ?_;simp only[go_sem,m1,m2];refine(OD _ _ _).pthen ?_;exact afV
theorem M9.join{a b:aS}(ha:M9 a)(hb:M9 b):M9 (nH a b):=⟨Nat.max_le.2 ⟨ha.1,hb.1⟩,Nat.max_le.2 ⟨ha.2,hb.2⟩⟩
theorem Gv(j:aS):M6 (qv j):=by
 unfold qv
 repeat' split
 all_goals decide
theorem Gw(j:aS)(hj:M9 j)(h:Heap):ai Tryz.prog 277 [aQ j] h fun r h' =>r=aQ (qv j)∧h' =h:=by
 obtain⟨p1,p2,p3⟩:=fb hj.1;obtain⟨q1,q2,q3⟩:=fb hj.2;refine abg Tryz.func277 29 [.tmp 2] fun hwf=>?_
 simp only[go_sem];refine(tv j _).pthen ?_;cases d1:(j.2==2)
 case true=>simp only[go_sem,q1,d1];exact .same (.refl _) ⟨by rw[qv,if_pos abi];rfl,rfl⟩
 have e1:¬j.2=2:=abi;cases d2:(j.2==1)
 case true=>
  have e2:j.2=1:=abi;cases d3:decide (1≤j.1)
  ·simp only[go_sem,p3,q1,q2,d1,d2,d3];exact .same (.refl _) ⟨by rw[qv,if_neg e1,if_neg abi,if_pos e2];rfl,rfl⟩
  ·simp only[go_sem,p3,q1,q2,d1,d2,d3];exact .same (.refl _) ⟨by rw[qv,if_neg e1,if_pos ⟨e2,aa9 d3⟩];rfl,rfl⟩
 have e2:¬j.2=1:=abi;cases d4:(j.1==2)
 case true=>simp only[go_sem,p1,q1,q2,d1,d2,d4];exact .same (.refl _) ⟨by rw[qv,if_neg e1,if_neg (fun h=>e2 h.1),if_neg e2,if_pos abi];rfl,rfl⟩
 cases d5:(j.1==1)
 case true=>simp only[go_sem,p1,p2,q1,q2,d1,d2,d4,d5];exact .same (.refl _) ⟨by rw[qv,if_neg e1,if_neg (fun h=>e2 h.1),if_neg e2,if_neg abi,if_pos abi];rfl,rfl⟩
 simp only[go_sem,p1,p2,q1,q2,d1,d2,d4,d5];exact .same (.refl _) ⟨by rw[qv,if_neg e1,if_neg (fun h=>e2 h.1),if_neg e2,if_neg abi,if_neg abi];rfl,rfl⟩
def OwR(h0 h:Heap)(y:AV)(rs:List gM):Prop:=y=dR rs∨OwE 149 h0 h 2 y (rs.map dZ)
theorem OwR.rd{h0 h:Heap}{y:AV}{rs:List gM}(hr:OwR h0 h y rs):Rd h 2 y (rs.map dZ):=by
 rcases hr with rfl|hr
 ·exact eJ dZ 2 (fun _=>rfl) h rs
 ·exact hr.rd
theorem OwR.nid{h0 h:Heap}{y:AV}{rs:List gM}(hr:OwR h0 h y rs){k:Nat}(e:Ab.nid y=some k):h0 k=none∧h k≠none:=by
 rcases hr with rfl|hr
 ·cases e
 ·exact⟨(hr.nid e).1,(hr.nid e).2.1⟩
theorem OwR.keep{h0 h h' :Heap}{y:AV}{rs:List gM}(hr:OwR h0 h y rs)(hk:∀id,Ab.nid y=some id→h' id=h id):OwR h0 h' y rs:=by
 rcases hr with hr|hr
 ·exact .inl hr
 ·exact .inr (hr.keep hk)
theorem OwR.bJ{g h0 h:Heap}{y:AV}{rs:List gM}(hr:OwR h0 h y rs)(hg:∀i,h0 i=none→g i=none):OwR g h y rs:=by
 rcases hr with hr|hr
 ·exact .inl hr
 ·exact .inr (hr.bJ hg)
theorem OwR.frz{g h:Heap}{y:AV}{rs:List gM}(hr:OwR g h y rs):Frz g h y (dR rs):=by
 rcases hr with rfl|hr
 ·exact .pure (by simp only[dR,cI];exact bp (fun _=>rfl) _)
 ·exact hr.frz (bp (fun _=>rfl) _)
structure ic (h0 h:Heap) (y1 y2 y3 y4:AV) (s:an) (j:Nat):Prop where
 cs:lB h0 h [y1,y2,y3,y4] y1 s.cases j
 rv:OwE 143 h0 h 7 y2 (s.reviews.map iu)
 nt:OwE 146 h0 h 3 y3 (s.notices.map mu)
 rl:OwR h0 h y4 s.roles
 a12:apart y1 y2
 a13:apart y1 y3
 a14:apart y1 y4
 a23:apart y2 y3
 a24:apart y2 y4
 a34:apart y3 y4
def stC(s:an)(y1 y2 y3 y4:AV):List AV:=[.i s.tick,y1,y2,y3,y4]++fO s.policy++ [.i s.version]
theorem sk.parts{h0 h:Heap}{x:AV}{s:an}{j:Nat}(ho:sk h0 h x s j):∃y1 y2 y3 y4,x= .agg (stC s y1 y2 y3 y4)∧ic h0 h y1 y2 y3 y4 s j:=by
 obtain⟨y1,y2,y3,y4,e,a,b,c,d,r1,r2,r3,r4,r5,r6⟩:=ho;exact⟨y1,y2,y3,y4,e,a,b,c,.inr d,r1,r2,r3,r4,r5,r6⟩
theorem ic.rd{h0 h:Heap}{y1 y2 y3 y4:AV}{s:an}{j:Nat}(ho:ic h0 h y1 y2 y3 y4 s j):RdS h (.agg (stC s y1 y2 y3 y4)) s:=
 ⟨y1,y2,y3,y4,rfl,ho.cs.rd,ho.rv.rd,ho.nt.rd,ho.rl.rd⟩
theorem ic.frz{g h:Heap}{y1 y2 y3 y4:AV}{s:an}{j:Nat}(ho:ic g h y1 y2 y3 y4 s j):Frz g h (.agg (stC s y1 y2 y3 y4)) (cJ s):=
 uh (ho.cs.frz (.refl _)) (ho.rv.frz (bp (fun _=>rfl) _)) (ho.nt.frz (bp (fun _=>rfl) _)) ho.rl.frz
theorem ic.bJ{g h0 h:Heap}{y1 y2 y3 y4:AV}{s:an}{j:Nat}(ho:ic h0 h y1 y2 y3 y4 s j)(hg:∀i,h0 i=none→g i=none):ic g h y1 y2 y3 y4 s j:=
 {ho with cs:=ho.cs.bJ hg,rv:=ho.rv.bJ hg,nt:=ho.nt.bJ hg,rl:=ho.rl.bJ hg}
theorem ic.keep{h0 h h' :Heap}{y1 y2 y3 y4:AV}{s:an}{j:Nat}(ho:ic h0 h y1 y2 y3 y4 s j)(hk:∀id,h0 id=none→h id≠none→h' id=h id):ic h0 h' y1 y2 y3 y4 s j:=
 {ho with cs:=ho.cs.keepb hk,rv:=ho.rv.keepb hk,nt:=ho.nt.keepb hk,rl:=ho.rl.keep fun id e=>hk id (ho.rl.nid e).1 (ho.rl.nid e).2}
theorem ic.mem{h0 h:Heap}{y1 y2 y3 y4:AV}{s:an}{j:Nat}(ho:ic h0 h y1 y2 y3 y4 s j){w:AV}(hw:w∈ [y1,y2,y3,y4]){k:Nat}(e:Ab.nid w=some k):h0 k=none∧h k≠none:=by
 obtain⟨xs,a,_⟩:=ho.cs;simp only[List.mem_cons,List.not_mem_nil,or_false]at hw;rcases hw with rfl|rfl|rfl|rfl
 ·exact⟨(a.nid e).1,(a.nid e).2.1⟩
 ·exact⟨(ho.rv.nid e).1,(ho.rv.nid e).2.1⟩
 ·exact⟨(ho.nt.nid e).1,(ho.nt.nid e).2.1⟩
 ·exact ho.rl.nid e
theorem ic.revs{h0 h h' :Heap}{y1 y2 y3 y4 z:AV}{s:an}{j:Nat}{rs:List pH}(ho:ic h0 h y1 y2 y3 y4 s j)(hz:OwE 143 h0 h' 7 z (rs.map iu))(hn:∀k,Ab.nid z=some k→h k=none∨Ab.nid y2=some k)
  (hk:∀id,h0 id=none→h id≠none→Ab.nid y2≠some id→h' id=h id):ic h0 h' y1 z y3 y4 {s with reviews:=rs} j:=by
 obtain⟨hcs,hrv,hnt,hrl,a12,a13,a14,a23,a24,a34⟩:=id ho;have ap:∀ {w:AV},w∈ [y1,y2,y3,y4]→apart w y2→apart w z:=fun hw ha k e1 e2=>(hn k e2).elim (fun h=>(ho.mem hw e1).2 h) (fun h=>ha k e1 h)
 refine⟨hcs.move (z:=y2) abp a12 hk fun w hw k e=>?_,hz,hnt.keep fun id e=>hk id (hnt.nid e).1 (hnt.nid e).2.1 fun e1=>a23 id e1 e,hrl.keep fun id e=>hk id (hrl.nid e).1 (hrl.nid e).2 fun e1=>a24 id e1 e,ap abp a12,a13,a14,(ap abp a23.symm).symm,(ap abp a24.symm).symm,a34⟩
 grind
theorem ic.nots{h0 h h' :Heap}{y1 y2 y3 y4 z:AV}{s:an}{j:Nat}{rs:List Hg}(ho:ic h0 h y1 y2 y3 y4 s j)(hz:OwE 146 h0 h' 3 z (rs.map mu))(hn:∀k,Ab.nid z=some k→h k=none∨Ab.nid y3=some k)
  (hk:∀id,h0 id=none→h id≠none→Ab.nid y3≠some id→h' id=h id):ic h0 h' y1 y2 z y4 {s with notices:=rs} j:=by
 obtain⟨hcs,hrv,hnt,hrl,a12,a13,a14,a23,a24,a34⟩:=id ho;have ap:∀ {w:AV},w∈ [y1,y2,y3,y4]→apart w y3→apart w z:=fun hw ha k e1 e2=>(hn k e2).elim (fun h=>(ho.mem hw e1).2 h) (fun h=>ha k e1 h)
 refine⟨hcs.move (z:=y3) abp a13 hk fun w hw k e=>?_,hrv.keep fun id e=>hk id (hrv.nid e).1 (hrv.nid e).2.1 fun e1=>a23 id e e1,hz,hrl.keep fun id e=>hk id (hrl.nid e).1 (hrl.nid e).2 fun e1=>a34 id e1 e,a12,ap abp a13,a14,ap abp a23,a24,(ap abp a34.symm).symm⟩
 grind
end Go.Proofs.YtcochaoekecfdaaGreatDoor
namespace Go.Bf
open Go Go.Ab Go.Proofs.YtcochaoekecfdaaGreatDoor
def gN(s:an):Prop:=∀r∈s.reviews,0≤r.tick∧r.tick≤1099511627776
theorem AM{s:an}(o:OpD)(w:Txt)(h:gN s)(ht:0≤s.tick∧s.tick≤1099511627776):gN (cc s o w):=fun r hr=>by
 simp only[cc,List.mem_append,List.mem_singleton]at hr;rcases hr with hr|rfl
 ·exact h r hr
 ·exact ht
theorem I9{s:an}(o:OpD)(w:Txt)(h:gN s):gN (iD s o w):=fun r hr=>h r (by grind [xZ])
theorem I8{s:an}(o:OpD)(done:Bool)(x:cC)(h:gN s)(ht:0≤s.tick∧s.tick≤1099511627776):gN (fo o done s x):=by
 unfold fo;split
 ·grind [I9]
 ·split
  ·grind [AM]
  ·split<;>exact h
theorem vO(o:OpD)(done:Bool):∀(l:List cC) {s:an},gN s→(0≤s.tick∧s.tick≤1099511627776)→gN (cZ s o l done)
 | [],s,h,_=>h
 |x::l,s,h,ht=>vO o done l (by grind [I8]) (by grind [Co])
theorem LK{s:an}(par:Txt→bI×Int×Int)(o:OpD)(h:gN s):gN (dN par s o):=fun r hr=>by
 rw[uc]at hr;split at hr
 ·rcases mem_modify hr with hr|⟨hi,rfl⟩
  ·exact h r hr
  ·have h2:=h _ (abc hi)
   exact afl
 ·exact h r hr
theorem FD{k:Nat}{s:an}(o:OpD)(h:j4 k s)(ht:gN s):gN (bu s o).1:=by
 unfold bu;split
 ·omega
 ·split
  ·omega
  ·show gN (cS s o)
   have h1:cX k (if fz s o then cc s o o.reason else s):=by
    split
    ·exact BC o _ h.tocX (by have:=h.nr;omega)
    ·exact h.tocX
   have t1:gN (if fz s o then cc s o o.reason else s):=by
    split
    ·exact AM o _ ht h.tick
    omega
   refine vO o _ _ ?_ ?_
   ·grind [LK]
   ·split
    ·exact(oS o h1).tick
    ·exact h1.tick
structure nS (k:Nat) (s:an):Prop extends j4 k s where
 ticks:gN s
theorem xJ:nS 0 we:={Ib with ticks:=fun r h=>ab6}
theorem CH{k:Nat}{s:an}(o:OpD)(h:nS k s):nS (k+1) (bu s o).1:={EL o h.toj4 with ticks:=FD o h.toj4 h.ticks}
theorem MT{cs:List aK}{id:Txt}(h:ij cs id<cs.length):cs[ij cs id].id=id:=by
 have:=List.findIdx_getElem (p:=fun c:aK=>c.id==id) (w:=h)
 exact eq_of_beq this
theorem EU{cs:List aK}(ha:Asc cs){id:Txt}(h:ij cs id<cs.length):findD cs id=ij cs id:=by
 have hid:=MT h;have hin:bX cs id=true:=by grind [uU,List.any_eq_true,abc]
 have hir:Op.bytesLess id id=false:=by simpa[lt]using lt_irrefl id
 have h1:∃hl:findD cs id<cs.length,cs[findD cs id].id=id:=by
  unfold bX at hin
  grind
 rcases Nat.lt_trichotomy (findD cs id) (ij cs id)with hlt|heq|hgt
 ·exact absurd (List.not_of_lt_findIdx (p:=fun c:aK=>c.id==id) hlt) abi
 ·exact heq
 ·have:=List.not_of_lt_findIdx (p:=fun c:aK=>geB c.id id) hgt
  exact absurd this (by grind [geB])
theorem Kq{cs ds:List aK}(h:ds.map (·.id)=cs.map (·.id))(id:Txt):ij ds id=ij cs id:=by
 have e:∀l:List aK,ij l id=(l.map (·.id)).findIdx fun x=>x==id:=fun l=>by
  rw[List.findIdx_map];rfl
 rw[e,e,h]
theorem Ip(s:an)(o:OpD)(w:Txt)(id:Txt):ij (iD s o w).cases id=ij s.cases id∧(iD s o w).cases.length=s.cases.length:=by
 unfold iD;split
 ·exact⟨Kq (jW (f:=fun c=>iU s c o.subj w) (g:=fun c:aK=>c.id) fun c=>rfl) id,abp⟩
 omega
theorem Io(o:OpD)(done:Bool)(s:an)(x:cC)(id:Txt):ij (fo o done s x).cases id=ij s.cases id∧(fo o done s x).cases.length=s.cases.length:=by
 unfold fo;split
 ·grind [Ip]
 ·split
  ·exact⟨rfl,rfl⟩
  grind
end Go.Bf
namespace Go.Proofs.YtcochaoekecfdaaGreatDoor
open Go Go.Ab
abbrev By:=Bytes 5
theorem u5:(U 5).sz=1:=abx
theorem u5a:(U 5).k.agg=false:=abx
theorem pS(y:AV)(l:List UInt8)(h:Heap)(hb:By h y l)(hl:l.length≤140737488355328):
  ai Tryz.prog 92 [y] h fun r h' =>h' =h∧r= .sl (l.map aM) .no:=by
 refine abg Tryz.func92 8 [.tmp 2] fun hwf=>?_
 simp only[go_sem];refine hb.Tp fun b hbn=>?_
 simp only[go_sem];refine nv.intro (fun e=>?_) (fun e=>?_)
 ·have hl0:l= []:=Classical.byContradiction fun hh=>by grind
  subst hl0;simp only[go_sem];exact adx
 ·simp only[go_sem]
  rw[hb.src u5];simp only[go_sem];refine⟨abh,fun hn=>?_,fun hn=>?_⟩
  ·have hl0:l= []:=by simp_all
   subst hl0;simp only[go_sem];exact adx
  ·refine .own fun id hid=>?_
   simp only[go_sem];exact .mk _ (.sl _ _) (.ak hid) ⟨rfl,rfl⟩
end Go.Proofs.YtcochaoekecfdaaGreatDoor
namespace Go.Proofs.YtcochaoekecfdaaGreatDoor
open Go Go.Ab Go.RowKit Go.Lib
theorem i5:∃i z,Tryz.prog.info? 5=some i∧i.zero=some z∧i.size=1∧i.bytes=1∧z.cells.size=1:=by
 obtain⟨i,h1,h2,h3,z,h4,h5,_⟩:=(hU 5).info abk;exact⟨i,z,h1,h4,h2,by rw[h3];rfl,h5⟩
set_option maxHeartbeats 1000000 in
theorem Ia(a:Option Addr)(w:World):Calls Tryz.prog 149 #[.slice a 0 0,.int .i64 0] w fun e w' =>e= .returned (.slice a 0 0)∧w' =w:=by
 go_enter Tryz.func149,Tryz.ntmps149
 go_wp2
 go_ret
 simp
set_option maxHeartbeats 1000000 in
theorem H7(a:Option Addr)(n:Nat)(h0:0<n)(hn:n≤20000000)(w:World):Calls Tryz.prog 149 #[.slice a 0 0,.int .i64 n] w fun e w' =>
  ∃z:Value,z.cells.size=1∧e= .returned (.slice (some ⟨w.heap.size,0,none⟩) 0 (grownCap w n 0 5))∧
   w' =w.drew.alloc (.cells (Builtin.zeroCells z.cells n++Builtin.zeroCells z.cells (grownCap w n 0 5 - n)) 5):=by
 obtain⟨i,z,e1,e2,e3,e4,e5⟩:=i5;have hsl:Tryz.prog.underlying 41=some (.slice 5):=by
  rfl
 have hin:Tryz.prog.underlying 3=some (.int .i64):=by
  rfl
 have hold:(Builtin.firstCells i.size 0 (.slice a 0 0)).run Tryz.prog w.drew= .ok (#[]:Array Value) w.drew:=by
  cases a<;>simp[Builtin.firstCells,loadCells,loadCellsFrom]
 have hrz:∀ty,(Builtin.append_ #[41,3] ty #[.slice a 0 0,.int .i64 (n:Int)]).run Tryz.prog w=
   .ok (.slice (some ⟨w.heap.size,0,none⟩) n (grownCap w n 0 5)) (w.drew.alloc (.cells (Builtin.zeroCells z.cells n++Builtin.zeroCells z.cells (grownCap w n 0 5 - n)) 5)):=fun ty=>by
  have h:=Lib.run_append_grow_zeros w 41 3 ty 5 i z .i64 .i64 hsl hin e1 e2 a 0 0 [] abh n h0 abh abh abh
   abi
   (by rw[e4];exact growslice_fits abh abh)
  simpa using h
 have hG:=grownCap_ge w n 0 5;have hG63:grownCap w n 0 5≤9223372036854775807:=by
  grind [grownCap_le_maxLen,maxLen]
 obtain⟨G,hGe⟩:∃G,G=grownCap w n 0 5:=⟨_,rfl⟩;rw[←hGe]at hrz hG hG63⊢;have h3:wrap64 ((n:Int) - 0)=(n:Int):=by grind [wrap64]
 have h4:¬((n:Int)<0):=abh;have h5:(n:Int)>0:=abh;refine Calls.mono (R:=fun e w' =>e= .returned (.slice (some ⟨w.heap.size,0,none⟩) 0 G)∧w' =w.drew.alloc (.cells (Builtin.zeroCells z.cells n++Builtin.zeroCells z.cells (G - n)) 5)) ?_ abi
 clear hold hGe
 go_enter Tryz.func149,Tryz.ntmps149
 cases a with
 |none=>
  go_wp2_with (at_builtin;refine Lib.wpList_append_run _ rfl _ _ _ _ rfl _ _ rfl rfl _ _ (hrz _) ?_)
  all_goals (go_ret;simp)
 |some q=>
  obtain⟨ab,ao,asp⟩:=q
  go_wp2_with (at_builtin;refine Lib.wpList_append_run _ rfl _ _ _ _ rfl _ _ rfl rfl _ _ (hrz _) ?_)
  all_goals (go_ret;simp)
end Go.Proofs.YtcochaoekecfdaaGreatDoor
namespace Go.Proofs.YtcochaoekecfdaaGreatDoor
open Go Go.Ab
theorem QM:(U 5).bytes=1:=abx
theorem MQ(n:Nat)(hn:n≤20000000)(h:Heap):ai Tryz.prog 149 [.sl [] .full,.i n] h fun r h' =>Acc U 5 h h' r []∧eO h h' :=by
 refine fun c vs hs g hv hr=> .inl ⟨⟨_,Tryz.func149,abx,rfl⟩,?_⟩
 have h0:=hr 0 abp;have h1:=hr 1 abp;obtain⟨a,cap,sz,val,e0,sl⟩:=h0.gX;have hcap:cap=0:=sl.hp;subst hcap;have e1:=h1.bR;have ev:vs= #[.slice a 0 0,.int .i64 n]:=by
  apply Array.ext
  ·omega
  ·intro i h2 h3
   have h3' :i<2:=h3;have:i=0∨i=1:=abh;rcases this with rfl|rfl
   ·simpa[Array.getD,h2]using e0
   ·simpa[Array.getD,h2]using e1
 subst ev
 by_cases hn0:n=0
 ·subst hn0
  refine(Ia a c.w).mono ?_
  rintro e w' ⟨rfl,rfl⟩
  exact⟨_,rfl,c,.sl [] .full,h,rfl,g,.refl c,h0,hs,.full (.refl h),.refl h⟩
 ·refine(H7 a n abh hn c.w).mono ?_
  rintro e w' ⟨z,hz,rfl,rfl⟩
  refine⟨_,rfl,?_⟩;have hG:=grownCap_ge c.w n 0 5;have hG63:grownCap c.w n 0 5≤9223372036854775807:=by
   grind [grownCap_le_maxLen,maxLen]
  generalize hGe:grownCap c.w n 0 5=G at hG hG63;generalize hcells:Builtin.zeroCells z.cells n++Builtin.zeroCells z.cells (G - n)=cells;have hcs:cells.size=G:=by grind [size_zeroCells]
  obtain⟨id,hid⟩:=g.fresh;have g1:Ab.Good ({c with w:=c.w.drew}:Cx):=g.draw rfl rfl rfl rfl
  have e1:Ext c {c with w:=c.w.drew}:=Ext.draw rfl rfl rfl rfl
  have hh:h id=none:=xH hs hid;refine⟨Cx.ay {c with w:=c.w.drew} (.cells cells 5) id ⟨c.w.heap.size,0,none⟩ (.spare 0 1),.sl [] (.own id),upd h id (some (.spare 0 1)),rfl,?_,e1.trans (Ext.ay _ _ id _ _ rfl (.inl hid)),?_,hs.upd id _,?_,?_⟩
  ·exact g1.ay _ _ _ id _ _ rfl (.inl hid) abp abp
  ·refine .sl [] _ (some ⟨c.w.heap.size,0,none⟩) G 1 (fun _ _=>undef) (Nat.zero_le _) (by grind [lim]) abp (fun q hq _=>by cases hq;exact⟨rfl,by simp[Cx.ay]⟩)
    abp abp abp abp ?_
   exact⟨0,adB,Nat.le_refl _,fun _=>⟨_,rfl,adB,cells,5,(0,0),heap_alloc_new c.w.drew _,abi⟩⟩
  ·exact⟨(Sub.refl h).new hh _,.inr ⟨id,hh,rfl,by grind [ah,u5]⟩⟩
  ·exact((Sub.refl h).new hh _).fP
theorem GM(x y:AV)(a b:List UInt8)(h:Heap)(hx:By h x a)(hy:By h y b)(ha:a.length≤1000000000):
  ai Tryz.prog 17 [x,y] h fun r h' =>r= .b (decide (a=b))∧h' =h:=by
 refine abg Tryz.func17 26 [.tmp 4] fun hwf=>?_
 simp only[go_sem,hx.len,hy.len];refine .intro (fun e=>?_) (fun e=>?_)
 ·simp only[go_sem]
  refine .same (.refl _) ⟨?_,rfl⟩;have:a≠b:=fun hh=>by simp[hh]at e
  simp[this,au]
 ·have hl:a.length=b.length:=by simpa[Int.natCast_inj]using e
  simp only[go_sem];refine .intro (fun m ρ h' =>h' =h∧∃i:Nat,i≤a.length∧m=a.length - i∧a.take i=b.take i∧lk ρ 0=some x∧lk ρ 1=some y∧lk ρ 5=some (.i i)) a.length ?_ ?_
  ·refine⟨rfl,0,Nat.zero_le _,rfl,rfl,?_,?_,?_⟩<;>simp only[go_sem]
   all_goals rfl
  ·rintro m ρ h' ⟨rfl,i,hi,rfl,hab,r0,r1,r5⟩
   simp only[go_sem,r0,r1,r5,hx.len];refine .intro (fun e=>?_) (fun e=>?_)
   ·have hlt:i<a.length:=by simpa using e
    have hltb:i<b.length:=abh;simp only[go_sem,r0,r1,r5];refine⟨.of abl,hx.idx i rfl hlt u5 u5a fun p hp=>?_⟩
    simp only[go_sem,r0,r1,r5,hp _];refine hy.idx i rfl hltb u5 u5a fun p' hp' =>?_
    simp only[go_sem,r0,r1,r5,hp' _];refine .intro (fun e=>?_) (fun e=>?_)
    ·simp only[go_sem]
     refine .same (.refl _) ⟨?_,rfl⟩;have:a≠b:=fun hh=>by subst hh;simp at e
     simp[this,au]
    ·have hc:a[i]=b[i]:=by
      have:(a[i].toNat:Int)=b[i].toNat:=by simpa using e
      exact UInt8.toNat_inj.1 abh
     have w1:IntKind.i64.wrap ((i:Int)+1)=((i+1:Nat):Int):=acX;simp only[go_sem,r0,r1,r5,w1];refine⟨a.length - (i+1),abh,rfl,i+1,hlt,rfl,?_,?_,?_,?_⟩
     ·rw[List.take_succ_eq_append_getElem hlt,List.take_succ_eq_append_getElem hltb,hab,hc]
     all_goals simp only[go_sem,r0,r1,r5]
   ·have hge:i=a.length:=by have:¬(i<a.length):=(by simpa using e);omega
    simp only[go_sem];refine .same (.refl _) ⟨?_,rfl⟩;have:a=b:=by
     subst hge;rw[List.take_length]at hab;rw[hab,hl,List.take_length]
    simp[this,au]
theorem u27:(U 41).sz=1:=abx
theorem ng(ls:List (List UInt8))(i:Nat)(hi:i<ls.length):(ls.take (i+1)).flatten=(ls.take i).flatten++ls[i]:=by
 rw[List.take_succ_eq_append_getElem hi,List.flatten_append,List.flatten_cons,List.flatten_nil,List.append_nil]
theorem oc(ls:List (List UInt8))(i:Nat):(ls.take i).flatten.length≤ls.flatten.length:=by
 grind [List.take_append_drop,List.flatten_append,abb]
theorem zP(ys:List AV)(ls:List (List UInt8))(q:Perm)(h:Heap)(hr:Ab.Rows 5 h ys ls)(hl:ls.flatten.length≤20000000)(hn:ls.length≤20000000):
  ai Tryz.prog 86 [.sl ys q] h fun r h' =>r= .sl (ls.flatten.map aM) .no∧Sub h h' :=by
 have hlen:=hr.1;refine abg Tryz.func86 36 [.tmp 2] fun hwf=>?_
 simp only[go_sem];refine .intro (fun m ρ h' =>h' =h∧∃i:Nat,i≤ls.length∧m=ls.length - i∧lk ρ 0=some (.sl ys q)∧lk ρ 9=some (.sl ys q)∧lk ρ 10=some (.i ys.length)∧
  lk ρ 11=some (.i i)∧lk ρ 3=some (.v (.int .i64 (ls.take i).flatten.length))) ls.length ?_ ?_
 ·refine⟨rfl,0,Nat.zero_le _,rfl,?_,?_,?_,?_,?_⟩<;>simp only[go_sem]
  all_goals first|rfl|simp
 ·rintro m ρ h' ⟨rfl,i,hi,rfl,r0,r9,r10,r11,r3⟩
  simp only[go_sem,r0,r9,r10,r11,r3];refine .intro (fun e=>?_) (fun e=>?_)
  ·have hlt:i<ys.length:=by simpa using e
   have hlt2:i<ls.length:=abh;have hb:=hr.2 i hlt hlt2;simp only[go_sem,r0,r9,r10,r11,r3];refine .at i hlt (by rw[hb.cells];rfl) ?_
   have t1:=oc ls (i+1);have t2:=ng ls i hlt2;have w1:IntKind.i64.wrap (((ls.take i).flatten.length:Int)+(ls[i].length:Int))=((ls.take (i+1)).flatten.length:Nat):=by
    rw[t2,abb]at t1⊢;rw[IntWalk.i64_in _ abh];omega
   simp only[go_sem,r0,r9,r10,r11,r3,hb.cells,hb.KO,and_self,hb.len,w1];refine .no (decide_eq_false abh) ?_;have w2:IntKind.i64.wrap ((i:Int)+1)=((i+1:Nat):Int):=acX;simp only[go_sem,r0,r9,r10,r11,r3,w2];refine⟨ls.length - (i+1),abh,rfl,i+1,hlt2,rfl,?_,?_,?_,?_,?_⟩<;>simp only[go_sem,r0,r9,r10,r11,r3]
  ·have hge:i=ls.length:=by
    have:¬(i<ys.length):=by simpa using e
    omega
   subst hge;rw[List.take_length]at r3;simp only[go_sem,r0,r9,r10,r11,r3];refine(MQ ls.flatten.length hl h').mono fun g1 h1 ⟨ha,hk⟩=>?_
   simp only[go_sem,r0,r9,r10,r11,r3];refine .intro (fun m ρ h2=>∃g:AV,∃i:Nat,Acc U 5 h' h2 g ((ls.take i).flatten.map aM)∧eO h' h2∧i≤ls.length∧m=ls.length - i∧lk ρ 25=some (.sl ys q)∧lk ρ 26=some (.i ys.length)∧
    lk ρ 27=some (.i i)∧lk ρ 6=some g) ls.length ?_ ?_
   ·refine⟨g1,0,ha,hk,Nat.zero_le _,rfl,?_,?_,?_,?_⟩<;>simp only[go_sem]
    all_goals rfl
   ·rintro m ρ h2 ⟨g,i,ha,hk,hi,rfl,r25,r26,r27,r6⟩
    simp only[go_sem,r25,r26,r27,r6];refine .intro (fun e=>?_) (fun e=>?_)
    ·have hlt:i<ys.length:=by simpa using e
     have hlt2:i<ls.length:=abh;have hb:=(hr.2 i hlt hlt2).fP hk;have t1:=oc ls (i+1);have t2:=ng ls i hlt2;simp only[go_sem,r25,r26,r27,r6];refine .at i hlt (by rw[hb.cells];rfl) ?_
     simp only[go_sem,r25,r26,r27,r6,hb.cells,hb.KO,and_self];refine ha.app (zs:=ls[i].map aM) (by rw[u5];decide) (by rw[QM];decide) (fun k hk=>by rw[hb.src u5];exact hk) (by rw[u5,jg];trivial) (by rw[u5,jg];trivial) ?_ fun g' h3 ha' hk' =>?_
     ·rw[QM,aa7,aa7]
      rw[t2,abb]at t1;omega
     ·have w2:IntKind.i64.wrap ((i:Int)+1)=((i+1:Nat):Int):=by rw[IntWalk.i64_in _ abh];omega
      simp only[go_sem,r25,r26,r27,r6,w2];rw[←List.map_append,←t2]at ha';refine⟨ls.length - (i+1),abh,g',i+1,ha',hk.trans hk',hlt2,rfl,?_,?_,?_,?_⟩<;>simp only[go_sem,r25,r26,r27,r6]
    ·have hge:i=ls.length:=by
      have:¬(i<ys.length):=by simpa using e
      omega
     subst hge;rw[List.take_length]at ha;simp only[go_sem,r25,r26,r27,r6];exact .mk _ ha.weak (.refl _) ⟨rfl,ha.1⟩
structure D where
 q:Nat
 b:List UInt8
 sy:Nat
 f:Nat
 off:Bool
def D.ok(d:D):Prop:=d.b.length≤d.q∧d.q≤1048576∧d.sy≤d.b.length∧d.f<9223372036854775808
def D.burn(d:D):D:=if 0<d.f then {d with f:=d.f - 1,off:=decide (d.f=1)} else d
def D.cells(d:D)(y:AV):List AV:=[.i d.q,y,.i d.sy,.i d.f,.b d.off]
def bQ(h:Heap)(id:Nat)(d:D):Prop:=∃y,h id=some (.obj (d.cells y) 96)∧By h y d.b
theorem bQ.keep{h h' :Heap}{id:Nat}{d:D}(hd:bQ h id d)(hs:eO h h'):bQ h' id d:=by
 obtain⟨y,h1,h2⟩:=hd;exact⟨y,hs _ _ _ h1,h2.fP hs⟩
theorem By.set{h:Heap}{id:Nat}{x:AV}{l:List UInt8}{cs cs' :List AV}(hb:By h x l)(hid:h id=some (.obj cs 96)):By (upd h id (some (.obj cs' 96))) x l:=hb.keep (Keep.upd id _) hid abk
theorem J1(q:Nat)(hq:q≤1048576)(h:Heap):
  ai Tryz.prog 13 [.i q] h fun r h' =>∃id,h id=none∧r= .tup [.ptr id 0,.i 0]∧bQ h' id ⟨q,[],0,0,false⟩∧Sub h h' :=by
 refine abg Tryz.func13 13 [.tmp 2,.tmp 3] fun hwf=>?_
 simp only[go_sem];refine .intro (fun e=>absurd (aa9 e) abh) (fun e=>?_)
 simp only[go_sem];refine .no (decide_eq_false abh) ?_;simp only[go_sem];intro id hid;simp only[go_sem];exact .same (.refl _) ⟨id,hid,rfl,⟨_,ah ..,.inl ⟨.full,rfl⟩⟩,(Sub.refl h).new hid _⟩
theorem qM(d:D)(hd:d.ok)(id:Nat)(h:Heap)(y:AV)(hid:h id=some (.obj (d.cells y) 96)):
  ai Tryz.prog 87 [.ptr id 0] h fun r h' =>r= .b d.burn.off∧h' =upd h id (some (.obj (d.burn.cells y) 96)):=by
 obtain⟨q,b,sy,f,off⟩:=d;obtain⟨d1,d2,d3,d4⟩:=hd;simp only at d1 d2 d3 d4;simp only[D.cells]at hid;refine abg Tryz.func87 27 [.tmp 2] fun hwf=>?_
 simp only[go_sem,hid];refine .intro (fun e=>?_) (fun e=>?_)
 ·have e:=aa9 e
  have w1:IntKind.i64.wrap ((f:Int) - 1)=((f - 1:Nat):Int):=acX;simp only[go_sem,hid,w1];have hb:(((f - 1:Nat):Int)==0)=decide (f=1):=by
   by_cases h1:f=1
   ·simp[h1]
   ·have:f - 1≠0:=by omega
    simp[h1,Int.natCast_eq_zero,this]
  refine .same (.refl _) ⟨?_,?_⟩
  ·simp only[D.burn,if_pos (show 0<f by omega),hb,au]
  ·simp only[D.burn,D.cells,if_pos (show 0<f by omega),hb]
 ·have e:=aba e
  have hf:¬0<f:=abh;simp only[go_sem,hid];refine .same (.refl _) ⟨?_,?_⟩
  ·simp only[D.burn,if_neg hf,au]
  ·simp only[D.burn,D.cells,if_neg hf]
   funext j
   simp only[upd];split
   ·rename_i e;subst e;exact hid
   ·rfl
theorem D.qM{d:D}(hd:d.ok):d.burn.ok:=by
 obtain⟨d1,d2,d3,d4⟩:=hd;unfold D.burn;split
 ·exact⟨d1,d2,d3,abi⟩
 ·exact⟨d1,d2,d3,d4⟩
theorem D.xd(d:D):d.burn.b=d.b:=by grind [D.burn]
theorem D.JP(d:D):d.burn.q=d.q:=by grind [D.burn]
theorem D.My(d:D):d.burn.sy=d.sy:=by grind [D.burn]
theorem MM(d:D)(hd:d.ok)(id:Nat)(h:Heap)(y:AV)(hid:h id=some (.obj (d.cells y) 96))(hb:By h y d.b):
  ai Tryz.prog 85 [.ptr id 0] h fun r h' =>r= .i (d.q - d.b.length:Nat)∧h' =h:=by
 obtain⟨q,b,sy,f,off⟩:=d;obtain⟨d1,d2,d3,d4⟩:=hd;simp only at d1 d2 d3 d4 hb;simp only[D.cells]at hid;refine abg Tryz.func85 13 [.tmp 2] fun hwf=>?_
 have w1:IntKind.i64.wrap ((q:Int) - b.length)=((q - b.length:Nat):Int):=acX;simp only[go_sem,hid,hb.len,w1];exact⟨.of abl,.same (.refl _) ⟨rfl,rfl⟩⟩
theorem Qd(d:D)(id:Nat)(h:Heap)(y:AV)(hid:h id=some (.obj (d.cells y) 96))(hb:By h y d.b):
  ai Tryz.prog 29 [.ptr id 0] h fun r h' =>r= .i d.b.length∧h' =h:=by
 simp only[D.cells]at hid;refine abg Tryz.func29 8 [.tmp 2] fun hwf=>?_
 simp only[go_sem,hid,hb.len];exact abu
theorem Nw(d:D)(hd:d.ok)(id:Nat)(h:Heap)(y:AV)(hid:h id=some (.obj (d.cells y) 96))(hb:By h y d.b):
  ai Tryz.prog 103 [.ptr id 0] h fun r h' =>r= .sl (d.b.map aM) .no∧h' =h:=by
 obtain⟨d1,d2,d3,d4⟩:=hd;simp only[D.cells]at hid;refine abg Tryz.func103 8 [.tmp 2] fun hwf=>?_
 simp only[go_sem,hid];refine(pS y d.b h hb abh).mono fun r h' ⟨e1,e2⟩=>?_
 subst e1;subst e2
 simp only[go_sem];exact abu
def D.append(d:D)(b:List UInt8):D×Nat:=
 if d.off then(d,9)else if d.q<d.b.length+b.length then(d,8)else
  let e:=D.burn {d with b:=d.b++b}
  (e,if e.off then 9 else 0)
def D.sync(d:D):D×Nat:=
 if d.off then(d,9)else if d.burn.off then(d.burn,9)else({d.burn with sy:=d.b.length},0)
def D.cut(d:D)(n:Int):D×Nat:=
 if d.off then(d,9)else if n<0∨(d.b.length:Int)<n then(d,1)else
  if d.burn.off then(d.burn,9)else({d.burn with b:=d.b.take n.toNat,sy:=min d.sy n.toNat},0)
theorem D.tZ{d:D}(hd:d.ok)(b:List UInt8):(d.append b).1.ok:=by
 unfold D.append;split
 ·omega
 ·split
  ·omega
  ·refine D.qM ⟨?_,hd.2.1,?_,hd.2.2.2⟩
   ·grind
   ·have:=hd.2.2.1
    grind
theorem D.Ep{d:D}(hd:d.ok)(n:Int):(d.cut n).1.ok:=by
 have hb:=D.qM hd;unfold D.cut;split
 ·exact hd
 ·split
  ·exact hd
  ·split
   ·exact hb
   ·obtain⟨d1,d2,d3,d4⟩:=hb
    obtain⟨e1,e2,e3,e4⟩:=hd;refine⟨?_,?_,?_,d4⟩
    ·grind [D.JP,List.length_take]
    ·grind [D.JP]
    grind
theorem tZ(d:D)(hd:d.ok)(id:Nat)(h:Heap)(x:AV)(b:List UInt8)(hdk:bQ h id d)(hx:By h x b)(hl:b.length≤1000000000):
  ai Tryz.prog 34 [.ptr id 0,x] h fun r h' =>r= .v (.int .i64 (d.append b).2)∧bQ h' id (d.append b).1∧Keep id h h' :=by
 obtain⟨y,hid0,hb⟩:=hdk;have hid:=hid0;simp only[D.cells]at hid;have hok:=hd;obtain⟨d1,d2,d3,d4⟩:=hd;refine abg Tryz.func34 26 [.tmp 4] fun hwf=>?_
 simp only[go_sem,hid];refine .intro (fun e=>?_) (fun e=>?_)
 ·simp only[go_sem]
  refine .same (.refl _) ?_;simp only[D.append,e,if_true,au];exact acM
 ·simp only[go_sem,hid,hx.len]
  refine(MM d hok id h y hid0 hb).mono fun r h' ⟨e1,e2⟩=>?_
  subst e1;subst e2
  simp only[go_sem];refine .intro (fun e2=>?_) (fun e2=>?_)
  ·have e2:=aa9 e2
   simp only[go_sem];refine .same (.refl _) ?_;simp only[D.append,e,if_pos (show d.q<d.b.length+b.length by omega),au]
   exact acM
  ·have e2:=aba e2
   have hno:¬d.q<d.b.length+b.length:=abh;simp only[go_sem,hid,hb.fit,hx.fit];refine(zP [y,x] [d.b,b] .full h' (.cons hb (.cons hx .nil)) ?_ abp).mono fun r h1 ⟨e1,hs⟩=>?_
   ·simp only[List.flatten_cons,List.flatten_nil,List.append_nil,abb];omega
   ·subst e1
    have hid1:=hs _ _ hid;simp only[go_sem,hid1];have hok2:D.ok {d with b:=d.b++b}:=⟨by show(d.b++b).length≤d.q;rw[abb];omega,d2,by show d.sy≤(d.b++b).length;rw[abb];omega,d4⟩
    refine(qM {d with b:=d.b++b} hok2 id _ (.sl ((d.b++b).map aM) .no) ?_).mono fun r h2 ⟨e1,e2⟩=>?_
    ·rw[ah]
     simp only[D.cells,List.flatten_cons,List.flatten_nil,List.append_nil]
    ·subst e1;subst e2
     have hk:Keep id h' (upd (upd h1 id (some (.obj (d.cells (.sl ((d.b++b).map aM) .no)) 96))) id (some (.obj ((D.burn {d with b:=d.b++b}).cells (.sl ((d.b++b).map aM) .no)) 96))):=
      (hs.keep id).trans ((Keep.upd id _).trans (Keep.upd id _))
     have hA:d.append b=(D.burn {d with b:=d.b++b},if(D.burn {d with b:=d.b++b}).off then 9 else 0):=by
      unfold D.append;rw[if_neg (by simp[e]),if_neg hno]
     simp only[go_sem];refine .intro (fun e3=>?_) (fun e3=>?_)
     ·simp only[go_sem]
      refine .same (.refl _) ?_;rw[hA,if_pos e3];refine⟨rfl,⟨_,ah ..,?_⟩,fun j k hj hk2=>?_⟩
      ·simp only[D.xd];exact .sl _ _
      ·rw[ag _ _ hj];exact hs _ _ hk2
     ·simp only[go_sem]
      refine .same (.refl _) ?_;rw[hA,if_neg (by simp[e3])]
      refine⟨rfl,⟨_,ah ..,?_⟩,fun j k hj hk2=>?_⟩
      ·simp only[D.xd];exact .sl _ _
      ·rw[ag _ _ hj];exact hs _ _ hk2
theorem GU(d:D)(hd:d.ok)(id:Nat)(h:Heap)(hdk:bQ h id d):
  ai Tryz.prog 105 [.ptr id 0] h fun r h' =>r= .i d.sync.2∧bQ h' id d.sync.1∧Keep id h h' :=by
 obtain⟨y,hid0,hb⟩:=hdk;have hid:=hid0;simp only[D.cells]at hid;refine abg Tryz.func105 19 [.tmp 2] fun hwf=>?_
 simp only[go_sem,hid];refine .intro (fun e=>?_) (fun e=>?_)
 ·simp only[go_sem,e]
  refine .same (.refl _) ?_;simp only[D.sync,e,if_true,au];exact acM
 ·simp only[go_sem,e]
  refine(qM d hd id h y hid0).mono fun r h1 ⟨e1,e2⟩=>?_
  subst e1;subst e2
  simp only[go_sem];refine .intro (fun e3=>?_) (fun e3=>?_)
  ·simp only[go_sem]
   refine .same (.refl _) ?_;rw[show d.sync=(d.burn,9) by unfold D.sync;rw[if_neg (by simp[e]),if_pos e3]]
   exact⟨rfl,⟨_,ah ..,by rw[D.xd];exact hb.set hid⟩,Keep.upd id _⟩
  ·simp only[D.cells]
   simp only[go_sem,hb.len];refine .same (.refl _) ?_;rw[show d.sync=({d.burn with sy:=d.b.length},0) by unfold D.sync;rw[if_neg (by simp[e]),if_neg (by simp[e3])]]
   exact⟨rfl,⟨_,ah ..,by show By _ _ d.burn.b;rw[D.xd];exact hb.set hid⟩,Keep.upd id _⟩
theorem Ep(d:D)(hd:d.ok)(id:Nat)(h:Heap)(n:Int)(hdk:bQ h id d):
  ai Tryz.prog 104 [.ptr id 0,.i n] h fun r h' =>r= .v (.int .i64 (d.cut n).2)∧bQ h' id (d.cut n).1∧Keep id h h' :=by
 obtain⟨y,hid0,hb⟩:=hdk;have hid:=hid0;simp only[D.cells]at hid;have hok:=hd;obtain⟨d1,d2,d3,d4⟩:=hd;refine abg Tryz.func104 41 [.tmp 4] fun hwf=>?_
 simp only[go_sem,hid];refine .intro (fun e=>?_) (fun e=>?_)
 ·simp only[go_sem]
  refine .same (.refl _) ?_;simp only[D.cut,e,if_true,au];exact acM
 ·simp only[go_sem,hid]
  have bad:(n<0∨(d.b.length:Int)<n)→mA [.i 1] h fun r h' =>r= .v (.int .i64 (d.cut n).2)∧bQ h' id (d.cut n).1∧Keep id h h' :=fun hbad=>by
   refine .same (.refl _) ?_;simp only[D.cut,e,if_pos hbad,au];exact acM
  refine .intro (fun e2=>?_) (fun e2=>?_)
  ·have e2' :=aa9 e2
   simp only[go_sem,e2];exact bad (.inl e2')
  ·have e2' :=aba e2
   simp only[go_sem,e2,hid,hb.len];refine .intro (fun e3=>?_) (fun e3=>?_)
   ·have e3' :=aa9 e3
    simp only[go_sem];exact bad (.inr e3')
   ·have e3' :=aba e3
    have hno:¬(n<0∨(d.b.length:Int)<n):=abh;simp only[go_sem];refine(qM d hok id h y hid0).mono fun r h1 ⟨e1,e2⟩=>?_
    subst e1;subst e2
    simp only[go_sem];refine .intro (fun e4=>?_) (fun e4=>?_)
    ·simp only[go_sem]
     refine .same (.refl _) ?_;rw[show d.cut n=(d.burn,9) by unfold D.cut;rw[if_neg (by simp[e]),if_neg hno,if_pos e4]]
     exact⟨rfl,⟨_,ah ..,by rw[D.xd];exact hb.set hid⟩,Keep.upd id _⟩
    ·have hb1:By (upd h id (some (.obj (d.burn.cells y) 96))) y d.b:=hb.set hid
     simp only[D.cells]at hb1⊢;simp only[go_sem];refine hb1.take (m:=n) (x:=.i64) n.toNat ?_ abh abh u5 fun z hz=>?_
     ·simp only[go_sem]
     ·simp only[go_sem]
      refine(pS z _ _ hz adg).mono fun r h1 ⟨e1,e2⟩=>?_
      subst e1;subst e2
      simp only[go_sem];refine .same (.refl _) ?_;rw[show d.cut n=({d.burn with b:=d.b.take n.toNat,sy:=min d.sy n.toNat},0) by unfold D.cut;rw[if_neg (by simp[e]),if_neg hno,if_neg (by simp[e4])]]
      refine⟨rfl,⟨.sl ((d.b.take n.toNat).map aM) .no,?_,.sl _ _⟩,Keep.upd id _⟩;simp only[ah,D.cells,D.My];have:(if n<(d.sy:Int)then n else(d.sy:Int))=((min d.sy n.toNat:Nat):Int):=by split<;>omega
      rw[this]
theorem D.Mr{d:D}{b:List UInt8}(h1:d.off=false)(h2:d.f=0)(h3:d.b.length+b.length≤d.q):d.append b=({d with b:=d.b++b},0):=by
 rcases d with⟨q,b0,sy,f,off⟩
 subst h1;subst h2
 unfold D.append;rw[if_neg abp,if_neg abi];rfl
theorem D.OM{d:D}(h1:d.off=false)(h2:d.f=0):d.sync=({d with sy:=d.b.length},0):=by
 simp_all [D.sync,D.burn,if_neg]
theorem dthen{f:FuncId}{args:List AV}{h:Heap}{Q:AV→Heap→Prop}{X:AV}{id:Nat}{d:D}(hf:ai Tryz.prog f args h fun r h' =>r=X∧bQ h' id d∧Keep id h h')(k:∀h',bQ h' id d→Keep id h h'→Q X h'):ai Tryz.prog f args h Q:=
 hf.mono fun r h' ⟨e1,e2,e3⟩=>by subst e1;exact k h' e2 e3
theorem Ln(d:D)(hk:d.ok)(id:Nat)(h:Heap)(hd:bQ h id d):ai Tryz.prog 103 [.ptr id 0] h fun r h' =>r= .sl (d.b.map aM) .no∧h' =h:=by
 obtain⟨y,h1,h2⟩:=hd;exact Nw d hk id h y h1 h2
theorem M4(d:D)(id:Nat)(h:Heap)(hd:bQ h id d):ai Tryz.prog 29 [.ptr id 0] h fun r h' =>r= .i d.b.length∧h' =h:=by
 obtain⟨y,h1,h2⟩:=hd;exact Qd d id h y h1 h2
theorem kD{d:D}{b:List UInt8}(h1:d.off=false)(h2:d.b.length+b.length≤d.q):d.append b=(D.burn {d with b:=d.b++b},if(D.burn {d with b:=d.b++b}).off then 9 else 0):=by
 simp_all [D.append,if_neg]
theorem D.Oe{d:D}(h:d.f=0):d.burn=d:=by simp_all [D.burn,if_neg]
theorem D.Vz{d:D}(h1:d.off=false)(h2:d.f=0){n:Nat}(h3:n≤d.b.length):d.cut n=({d with b:=d.b.take n,sy:=min d.sy n},0):=by
 simp_all [D.cut,if_neg,D.Oe]
def Bd(s:BitVec 32):BitVec 32:=if s &&& 1#32=1#32 then(s>>>1) ^^^ 0xedb88320#32 else s>>>1
def Hy:Nat→BitVec 32→BitVec 32
 |0,s=>s
 |n+1,s=>Bd (Hy n s)
def qN(s:BitVec 32)(c:UInt8):BitVec 32:=Hy 8 (s ^^^ BitVec.ofNat 32 c.toNat)
def crc(l:List UInt8):BitVec 32:= ~~~ (l.foldl qN (BitVec.allOnes 32))
theorem Po(c:UInt8):IntKind.u32.wrap (c.toNat:Int)=((BitVec.ofNat 32 c.toNat).toNat:Int):=by
 rfl
theorem Fa(x:BitVec 32):(((x &&& 1#32).toNat:Int)==1)=decide (x &&& 1#32=1#32):=by
 rw[Bool.eq_iff_iff,beq_iff_eq,decide_eq_true_iff];constructor
 ·intro h
  apply BitVec.eq_of_toNat_eq
  grind
 grind
theorem LH(y:AV)(l:List UInt8)(h:Heap)(hb:By h y l)(hl:l.length≤1000000000):
  ai Tryz.prog 89 [y] h fun r h' =>r= .v (.int .u32 ((crc l).toNat:Int))∧h' =h:=by
 refine abg Tryz.func89 31 [.tmp 2] fun hwf=>?_
 simp only[go_sem,hb.len];refine .intro (fun m ρ h' =>h' =h∧∃i:Nat,i≤l.length∧m=l.length - i∧lk ρ 7=some y∧lk ρ 8=some (.i l.length)∧lk ρ 9=some (.i i)∧lk ρ 3=some (.v (.int .u32 (((l.take i).foldl qN (BitVec.allOnes 32)).toNat:Int)))) l.length ?_ ?_
 ·refine⟨rfl,0,abh,rfl,?_,?_,?_,?_⟩<;>simp only[go_sem]
  rfl
 ·rintro m ρ h' ⟨rfl,i,hi,rfl,r7,r8,r9,r3⟩
  simp only[go_sem,r7,r8,r9,r3];refine .intro (fun e=>?_) (fun e=>?_)
  ·have hlt:i<l.length:=abe e
   have w1:IntKind.i64.wrap ((i:Int)+1)=((i+1:Nat):Int):=abv;have hs:(l.take (i+1)).foldl qN (BitVec.allOnes 32)=qN ((l.take i).foldl qN (BitVec.allOnes 32)) l[i]:=by
    grind [List.take_succ_eq_append_getElem]
   generalize (l.take i).foldl qN (BitVec.allOnes 32)=s at r3 hs;simp only[go_sem,r7,r8,r9,r3];refine hb.idx i rfl hlt u5 u5a fun p hp=>?_
   simp only[go_sem,r7,r8,r9,r3,hp _,Po];refine .intro (fun m ρ h2=>h2=h'∧∃j:Nat,j≤8∧m=8 - j∧lk ρ 7=some y∧lk ρ 8=some (.i l.length)∧lk ρ 9=some (.i i)∧lk ρ 17=some (.i j)∧lk ρ 3=some (.v (.int .u32 ((Hy j (s ^^^ BitVec.ofNat 32 l[i].toNat)).toNat:Int)))) 8 ?_ ?_
   ·refine⟨rfl,0,abh,rfl,?_,?_,?_,?_,?_⟩<;>simp only[go_sem,r7,r8,r9,r3]
    rfl
   ·rintro m ρ h2 ⟨rfl,j,hj,rfl,q7,q8,q9,q17,q3⟩
    simp only[go_sem,q7,q8,q9,q17,q3];refine .intro (fun e=>?_) (fun e=>?_)
    ·have hjl:j<8:=by grind
     have w2:IntKind.i64.wrap ((j:Int)+1)=((j+1:Nat):Int):=abv;have hc:Hy (j+1) (s ^^^ BitVec.ofNat 32 l[i].toNat)=Bd (Hy j (s ^^^ BitVec.ofNat 32 l[i].toNat)):=rfl;generalize Hy j (s ^^^ BitVec.ofNat 32 l[i].toNat)=z at q3 hc;simp only[go_sem,q7,q8,q9,q17,q3,Fa];refine .intro (fun e2=>?_) (fun e2=>?_)
     ·simp only[go_sem,q7,q8,q9,q17,q3,Fa,w2]
      refine⟨_,?_,rfl,j+1,abh,rfl,?_,?_,?_,?_,?_⟩
      rotate_left 5
      ·simp only[go_sem,q7,q8,q9,q17,q3]
       simp_all [Bd,if_pos,aa9]
      ·omega
      all_goals simp only[go_sem,q7,q8,q9,q17,q3,w2]
     ·simp only[go_sem,q7,q8,q9,q17,q3,Fa,w2]
      refine⟨_,?_,rfl,j+1,abh,rfl,?_,?_,?_,?_,?_⟩
      rotate_left 5
      ·simp only[go_sem,q7,q8,q9,q17,q3]
       simp_all [Bd,if_neg,aba]
      ·omega
      all_goals simp only[go_sem,q7,q8,q9,q17,q3,w2]
    ·have hj8:j=8:=by grind
     subst hj8;simp only[go_sem,q7,q8,q9,q17,q3,w1];refine⟨_,?_,rfl,i+1,abh,rfl,?_,?_,?_,?_⟩
     rotate_left 4
     ·simp only[go_sem,q7,q8,q9,q17,q3]
      rw[hs];rfl
     ·omega
     all_goals simp only[go_sem,q7,q8,q9,q17,q3,w1]
  ·have hge:i=l.length:=by grind
   subst hge;rw[List.take_length]at r3;simp only[go_sem,r7,r8,r9,r3];exact abu
def vu(n:Nat):List UInt8:=[UInt8.ofNat n,UInt8.ofNat (n / 256),UInt8.ofNat (n / 65536),UInt8.ofNat (n / 16777216)]
def iI(l:List UInt8):Nat:=(l.getD 0 0).toNat+(l.getD 1 0).toNat*256+(l.getD 2 0).toNat*65536+(l.getD 3 0).toNat*16777216
theorem F8(n:Nat)(hn:n<4294967296)(h:Heap):ai Tryz.prog 88 [.v (.int .u32 (n:Int))] h fun r h' =>r= .sl ((vu n).map aM) .no∧h' =h:=by
 refine abg Tryz.func88 15 [.tmp 2] fun hwf=>?_
 have s8:=fun K=>JO (U:=U) (ty:=153) (K:=K) n 8 .u64 abk
 have s16:=fun K=>JO (U:=U) (ty:=153) (K:=K) n 16 .u64 abk
 have s24:=fun K=>JO (U:=U) (ty:=153) (K:=K) n 24 .u64 abk
 simp only[Int.cast_ofNat_Int]at s8 s16 s24;simp only[go_sem,↓s8,↓s16,↓s24,w8];exact adx
theorem CA(y:AV)(l:List UInt8)(h:Heap)(hb:By h y l)(hl:4≤l.length):ai Tryz.prog 195 [y] h fun r h' =>r= .v (.int .u32 (iI l:Nat))∧h' =h:=by
 refine abg Tryz.func195 25 [.tmp 2] fun hwf=>?_
 have lt:∀c:UInt8,c.toNat<256:=fun c=>c.toNat_lt
 have hnum:iI l=l[0].toNat+l[1].toNat*2 ^ 8+l[2].toNat*2 ^ 16+l[3].toNat*2 ^ 24:=by
  grind [iI]
 generalize hc0:l[0]=c0 at hnum;generalize hc1:l[1]=c1 at hnum;generalize hc2:l[2]=c2 at hnum;generalize hc3:l[3]=c3 at hnum;have v:=fun c:UInt8=>w32 c.toNat abi
 have s1:=fun K=>Eg (U:=U) (ty:=153) (K:=K) c1.toNat 8 .u64 abk (lt _)
 have s2:=fun K=>Eg (U:=U) (ty:=153) (K:=K) c2.toNat 16 .u64 abk (lt _)
 have s3:=fun K=>Eg (U:=U) (ty:=153) (K:=K) c3.toNat 24 .u64 abk (lt _)
 have o1:=fun K=>JN (U:=U) (ty:=153) (K:=K) c0.toNat c1.toNat 8 abi abk (lt _)
 have o2:=fun K=>JN (U:=U) (ty:=153) (K:=K) (c0.toNat+c1.toNat*2 ^ 8) c2.toNat 16 abi abk (lt _)
 have o3:=fun K=>JN (U:=U) (ty:=153) (K:=K) (c0.toNat+c1.toNat*2 ^ 8+c2.toNat*2 ^ 16) c3.toNat 24 abi abk (lt _)
 simp only[Int.cast_ofNat_Int]at s1 s2 s3;simp only[go_sem];refine⟨.of abl,?_⟩;refine hb.idx 0 rfl abh u5 u5a fun p0 hp0=>?_
 rw[hc0]at hp0;simp only[go_sem,hp0 _,v];refine hb.idx 1 rfl abh u5 u5a fun p1 hp1=>?_
 rw[hc1]at hp1;simp only[go_sem,hp1 _,v,↓s1,↓o1];refine hb.idx 2 rfl abh u5 u5a fun p2 hp2=>?_
 rw[hc2]at hp2;simp only[go_sem,hp2 _,v,↓s2,↓o2];refine hb.idx 3 rfl abh u5 u5a fun p3 hp3=>?_
 rw[hc3]at hp3;simp only[go_sem,hp3 _,v,↓s3,↓o3];refine .same (.refl _) ⟨?_,rfl⟩;rw[hnum];rfl
theorem sP(n:Nat):(vu n).length=4:=rfl
theorem Nj(l:List UInt8):iI l<4294967296:=by
 have h:∀c:UInt8,c.toNat<256:=fun c=>c.toNat_lt
 have h0:=h (l.getD 0 0);have h1:=h (l.getD 1 0);have h2:=h (l.getD 2 0);have h3:=h (l.getD 3 0);unfold iI;omega
def frame(p:List UInt8):List UInt8:=vu p.length++vu (crc p).toNat++p
theorem sQ(p:List UInt8):(frame p).length=8+p.length:=by grind [frame,sP]
def gF(l:List UInt8):Option (List UInt8):=
 if l.length<8 then none else if iI l<1∨8192<iI l∨l.length - 8<iI l then none else
  if(crc ((l.drop 8).take (iI l))).toNat=iI (l.drop 4)then some ((l.drop 8).take (iI l))else none
theorem mE{l p:List UInt8}(h:gF l=some p):8+p.length≤l.length∧1≤p.length∧p.length≤8192:=by
 unfold gF at h;split at h
 ·cases h
 ·split at h
  ·cases h
  ·split at h
   ·simp only[Option.some.injEq]at h
    subst h;rw[List.length_take,List.length_drop];omega
   ·cases h
theorem ry(l:List UInt8)(h:l.length<8):gF l=none:=by simp_all [gF,if_pos]
def scan(l:List UInt8):List (List UInt8)×Nat:=match h:gF l with
 |none=>([],0)
 |some p=>let r:=scan (l.drop (8+p.length));(p::r.1,8+p.length+r.2)
termination_by l.length
decreasing_by
 have:=mE h;rw[List.length_drop];omega
theorem qU{l:List UInt8}(h:gF l=none):scan l=([],0):=by
 grind [scan]
theorem uN{l p:List UInt8}(h:gF l=some p):scan l=(p::(scan (l.drop (8+p.length))).1,8+p.length+(scan (l.drop (8+p.length))).2):=by
 grind [scan]
theorem GN(l:List UInt8):(scan l).2≤l.length:=by
 induction hn:l.length using Nat.strongRecOn generalizing l with
 |_ n ih=>
  cases hb:gF l with
  |none=>simp_all [qU,Nat.zero_le]
  |some p=>
   have hl:=mE hb;rw[uN hb];have:=ih (l.drop (8+p.length)).length abi _ rfl;rw[List.length_drop]at this;omega
theorem Kf(y:AV)(l:List UInt8)(h:Heap)(hb:By h y l)(hl:l.length≤1000000):
  ai Tryz.prog 35 [y] h fun r h' =>r= .sl ((frame l).map aM) .no∧Sub h h' :=by
 refine abg Tryz.func35 13 [.tmp 2] fun hwf=>?_
 have w1:=w32 l.length abh;simp only[go_sem,hb.len,w1];refine(F8 l.length abh h).pthen ?_;simp only[go_sem];refine(LH y l h hb abh).pthen ?_;simp only[go_sem];refine(F8 (crc l).toNat (crc l).isLt h).pthen ?_;simp only[go_sem,hb.cells,hb.fit];refine(zP [.sl ((vu l.length).map aM) .no,.sl ((vu (crc l).toNat).map aM) .no,y] [vu l.length,vu (crc l).toNat,l] .full h (.cons (.sl _ _) (.cons (.sl _ _) (.cons hb .nil))) ?_ abp).sthen fun h' hs=>?_
 ·grind [sP]
 simp only[go_sem];refine .same (.refl _) ⟨?_,hs⟩;simp[frame,au]
theorem Bm(y:AV)(l:List UInt8)(h:Heap)(hb:By h y l)(hl:l.length≤2000000):
  ai Tryz.prog 157 [y] h fun r h' =>(∃P p b,r= .tup [P,.b b]∧By h P p∧gF l=if b=true then some p else none)∧h' =h:=by
 refine abg Tryz.func157 36 [.tmp 2,.tmp 3] fun hwf=>?_
 rcases Nat.lt_or_ge l.length 8 with h8|h8
 ·have t1:decide ((l.length:Int)<8)=true:=decide_eq_true abh
  simp only[go_sem,hb.len,t1];exact .same (.refl _) ⟨⟨_,[],false,rfl,.nil _,ry l h8⟩,rfl⟩
 ·have t1:decide ((l.length:Int)<8)=false:=decide_eq_false abh
  simp only[go_sem,hb.len,t1];refine(CA y l h hb abh).pthen ?_;have hn:=Nj l;have w1:IntKind.i64.wrap ((iI l:Nat):Int)=((iI l:Nat):Int):=bh _ abh;have w2:IntKind.i64.wrap ((l.length:Int) - 8)=((l.length - 8:Nat):Int):=abM
  by_cases hbad:iI l<1∨8192<iI l∨l.length - 8<iI l
  ·have hnone:gF l=none:=by unfold gF;rw[if_neg abh,if_pos hbad]
   have fin:∀Z:Prop,Z→Z:=fun _ z=>z
   by_cases c1:iI l<1
   ·have t2:decide (((iI l:Nat):Int)<1)=true:=decide_eq_true abh
    simp only[go_sem,hb.len,w1,w2,t2];exact acK
   ·have t2:decide (((iI l:Nat):Int)<1)=false:=decide_eq_false abh
    by_cases c2:8192<iI l
    ·have t3:decide ((8192:Int)<((iI l:Nat):Int))=true:=decide_eq_true abh
     simp only[go_sem,hb.len,w1,w2,t2,t3];exact acK
    ·have t3:decide ((8192:Int)<((iI l:Nat):Int))=false:=decide_eq_false abh
     have t4:decide (((l.length - 8:Nat):Int)<((iI l:Nat):Int))=true:=decide_eq_true abh;simp only[go_sem,hb.len,w1,w2,t2,t3,t4];exact acK
  ·have t2:decide (((iI l:Nat):Int)<1)=false:=decide_eq_false abh
   have t3:decide ((8192:Int)<((iI l:Nat):Int))=false:=decide_eq_false abh;have t4:decide (((l.length - 8:Nat):Int)<((iI l:Nat):Int))=false:=decide_eq_false abh;have w3:IntKind.i64.wrap ((8:Int)+((iI l:Nat):Int))=((8+iI l:Nat):Int):=abM;simp only[go_sem,hb.len,w1,w2,t2,t3,t4,w3];refine hb.cut (m:=8) (m2:=(8+iI l:Nat)) (x:=.i64) (x2:=.i64) 8 (8+iI l) ?_ rfl ?_ rfl abh abh u5 fun z hz=>?_
   ·simp only[go_sem]
   ·simp only[go_sem]
   rw[Nat.add_sub_cancel_left]at hz;have hzl:((l.drop 8).take (iI l)).length≤1000000:=by rw[List.length_take,List.length_drop];omega
   simp only[go_sem];refine .quiet abl ?_;simp only[go_sem];refine⟨_,LH z _ h hz abh,?_⟩;simp only[go_sem];refine hb.from (m:=4) (x:=.i64) 4 ?_ rfl abh u5 fun z4 hz4=>?_
   ·simp only[go_sem]
   simp only[go_sem];refine⟨_,CA z4 _ h hz4 adf,?_⟩;simp only[go_sem];refine .same (.refl _) ⟨⟨z,_,_,rfl,hz,?_⟩,rfl⟩;unfold gF;rw[if_neg abh,if_neg hbad]
   by_cases hc:(crc ((l.drop 8).take (iI l))).toNat=iI (l.drop 4)
   ·rw[if_pos hc,hc];simp
   ·rw[if_neg hc,if_neg]
    simp only[beq_iff_eq];omega
theorem NO:(U 41).bytes=24:=abx
def j0(p:List UInt8):AV:=.sl (p.map aM) .no
theorem GL(ps:List (List UInt8))(h:Heap):Ab.Rows 5 h (ps.map j0) ps:=⟨abp,fun i h1 h2=>by simp only[aa8];exact .sl _ _⟩
theorem yH(ps:List (List UInt8)):Sized 1 (ps.map j0):=(GL ps cF).sized
def gL(h:Heap)(y:AV)(xs:List AV)(sp:List Nat):Prop:=(y= .sl xs .full∧sp= [])∨∃k,y= .sl xs (.own k)∧h k=some (.spare xs.length 1)∧sp= [k]
theorem IT{l:List UInt8}{at_:Nat}{ps:List (List UInt8)}{p:List UInt8}(h:scan l=(ps++(scan (l.drop at_)).1,at_+(scan (l.drop at_)).2))(hp:gF (l.drop at_)=some p):
  scan l=((ps++ [p])++(scan (l.drop (at_+(8+p.length)))).1,(at_+(8+p.length))+(scan (l.drop (at_+(8+p.length)))).2):=by
 simp_all [uN,List.drop_drop,Nat.add_assoc]
theorem NC(y:AV)(l:List UInt8)(h:Heap)(hb:By h y l)(hl:l.length≤2000000):
  ai Tryz.prog 102 [y] h fun r h' =>∃z sp,r= .tup [z,.i ((scan l).2:Nat)]∧gL h' z ((scan l).1.map j0) sp∧Sub h h'∧∀i∈sp,h i=none:=by
 refine abg Tryz.func102 29 [.tmp 2,.tmp 3] fun hwf=>?_
 simp only[go_sem];refine .intro (fun m ρ h' =>∃(i:Nat) (ps:List (List UInt8)) (z:AV),Acc U 41 h h' z (ps.map j0)∧eO h h'∧ps.length≤i∧i≤l.length∧m=l.length - i∧scan l=(ps++(scan (l.drop i)).1,i+(scan (l.drop i)).2)∧
  lk ρ 0=some y∧lk ρ 4=some z∧lk ρ 5=some (.i (i:Nat))) l.length ?_ ?_
 ·refine⟨0,[],_,.full (.refl h),.refl h,abp,abh,rfl,abp,?_,?_,?_⟩<;>simp only[go_sem]
 ·rintro m ρ h' ⟨i,ps,z,ha,hk,hpi,hi,rfl,hsc,r0,r4,r5⟩
  have hb' :=hb.fP hk;simp only[go_sem,r0,r4,r5];refine hb'.from (m:=i) (x:=.i64) i ?_ rfl hi u5 fun y2 hy2=>?_
  ·rfl
  simp only[go_sem,r0,r4,r5];refine(Bm y2 (l.drop i) h' hy2 abi).mono fun r h2 ⟨⟨P,p,b,e1,hP,hbg⟩,e2⟩=>?_
  subst e1;subst e2
  cases b with
  |false=>
   rw[if_neg abp]at hbg;rw[qU hbg]at hsc;simp only[go_sem,r0,r4,r5];have hs:=ha.1;rw[hsc];rcases ha.2 with rfl|⟨k,k1,rfl,k2⟩
   ·exact .same (.refl _) ⟨_,[],rfl,.inl ⟨abp,rfl⟩,hs,abp⟩
   ·rw[u27]at k2
    exact .same (.refl _) ⟨_,[k],rfl,.inr ⟨k,abp,abi,rfl⟩,hs,abi⟩
  |true=>
   rw[if_pos rfl]at hbg;have hpl:=mE hbg;rw[List.length_drop]at hpl;have hsc' :=IT hsc hbg;have w1:IntKind.i64.wrap ((8:Int)+(p.length:Int))=((8+p.length:Nat):Int):=abv;have w2:IntKind.i64.wrap ((i:Int)+((8+p.length:Nat):Int))=((i+(8+p.length):Nat):Int):=abv;simp only[go_sem,r0,r4,r5];refine(pS P p h2 hP abh).pthen' ?_;simp only[go_sem,r0,r4,r5];refine ha.app (zs:=[j0 p]) abk abk (fun k hk=>hk) (by grind [u27,yH]) (by grind [u27,Sized,j0,AV.cells]) (by grind [NO]) fun z' h3 ha' hk' =>?_
   rw[show ps.map j0++ [j0 p]=(ps++ [p]).map j0 by simp]at ha'
   have hP3:=hP.fP hk';simp only[go_sem,r0,r4,r5,hP3.len,w1,w2];refine⟨_,?_,i+(8+p.length),ps++ [p],z',ha',hk.trans hk',abi,abh,rfl,hsc',?_,?_,?_⟩
   ·omega
   all_goals simp only[go_sem,r0,r4,r5,hP3.len,w1,w2]
theorem ND(l:List UInt8):(scan l).1.length≤l.length∧∀p∈(scan l).1,p.length≤8192:=by
 induction hn:l.length using Nat.strongRecOn generalizing l with
 |_ n ih=>
  cases hb:gF l with
  |none=>simp_all [qU,Nat.zero_le]
  |some p=>
   have hl:=mE hb;rw[uN hb]
   grind
theorem gL.row{h:Heap}{y:AV}{xs:List AV}{sp:List Nat}(hg:gL h y xs sp):∃q,y= .sl xs q:=by
 rcases hg with⟨rfl,_⟩|⟨k,rfl,_⟩<;>exact⟨_,rfl⟩
def Touch(S:List Nat)(h h' :Heap):Prop:=∀j k,j∉S→h j=some k→h' j=some k
theorem Touch.refl(S:List Nat)(h:Heap):Touch S h h:=fun _ _ _ e=>e
theorem Touch.trans{S T:List Nat}{a b c:Heap}(x:Touch S a b)(y:Touch T b c):Touch (S++T) a c:=fun j k e hj=>y j k abi (x j k abi hj)
theorem Touch.of{S:List Nat}{h h' :Heap}(hs:Ab.Sub h h'):Touch S h h' :=fun _ _ _ e=>hs _ _ e
theorem Touch.keep{i:Nat}{h h' :Heap}(hs:Keep i h h'):Touch [i] h h' :=fun j k e hj=>hs j k abi hj
theorem Touch.upd{h:Heap}{i:Nat}{k:Option Blk}:Touch [i] h (upd h i k):=Touch.keep (Keep.upd i k)
theorem Touch.mono{S T:List Nat}{h h' :Heap}(ht:Touch S h h')(hs:∀i∈S,i∈T∨h i=none):Touch T h h' :=fun j k e hj=>ht j k abi hj
theorem gL.touch{h h' :Heap}{y:AV}{xs:List AV}{sp S:List Nat}(hg:gL h y xs sp)(ht:Touch S h h')(hn:∀i∈sp,i∉S):gL h' y xs sp:=by
 rcases hg with⟨rfl,rfl⟩|⟨k,rfl,k1,rfl⟩
 ·exact .inl ⟨rfl,rfl⟩
 ·exact .inr ⟨k,rfl,ht _ _ (hn k abp) k1,rfl⟩
theorem gL.has{h:Heap}{y:AV}{xs:List AV}{sp:List Nat}(hg:gL h y xs sp):∀i∈sp,∃n,h i=some (.spare n 1):=by
 rcases hg with⟨rfl,rfl⟩|⟨k,rfl,k1,rfl⟩
 ·simp
 grind
theorem gL.app{h:Heap}{y v:AV}{xs zs:List AV}{sp:List Nat}{Q:AV→Heap→Prop}(hg:gL h y xs sp)(hsrc:∀k:List AV→Prop,k zs→gY U 41 h v k)(s1:Sized 1 xs)(s2:Sized 1 zs)
  (hlen:xs.length+zs.length≤1000000000000) (hk:∀y' h' sp',gL h' y' (xs++zs) sp'→Touch sp h h'→(∀i∈sp',i∈sp∨h i=none)→Q y' h'):apK U h y v Q (.slice 41):=by
 rcases hg with⟨rfl,rfl⟩|⟨k,rfl,k1,rfl⟩
 ·refine(pJ ..).mpr ⟨abk,abk,hsrc _ ⟨by grind [u27],by grind [u27],by grind [NO],fun hn=>?_,fun hn=> .own fun id hid=>?_⟩⟩
  ·subst hn
   exact hk _ _ [] (.inl ⟨abp,rfl⟩) (.refl _ _) abp
  ·rw[u27]
   exact hk _ _ [id] (.inr ⟨id,rfl,afa,rfl⟩) (.of ((Ab.Sub.refl h).new hid _)) abi
 ·refine(A9 ..).mpr ⟨abk,abk,hsrc _ ⟨by grind [u27],by grind [u27],by grind [NO],by grind [u27],?_⟩⟩
  rw[u27];exact hk _ _ [k] (.inr ⟨k,rfl,afa,rfl⟩) .upd abp
def JAt(h:Heap)(t jid did:Nat)(ps:List (List UInt8))(down:Bool)(sp:List Nat):Prop:=
 ∃y xs,h jid=some (.obj [.ptr did 0,y,.b down] t)∧gL h y xs sp∧∀g,Ab.Rows 5 g xs ps
theorem JAt.touch{h h' :Heap}{t jid did:Nat}{ps:List (List UInt8)}{down:Bool}{sp S:List Nat}(hj:JAt h t jid did ps down sp)(ht:Touch S h h')(h1:jid∉S)(hn:∀i∈sp,i∉S):JAt h' t jid did ps down sp:=by
 obtain⟨y,xs,a,b,c⟩:=hj;exact⟨y,xs,ht _ _ h1 a,b.touch ht hn,c⟩
theorem JAt.sub{h h' :Heap}{t jid did:Nat}{ps:List (List UInt8)}{down:Bool}{sp:List Nat}(hj:JAt h t jid did ps down sp)(ht:Ab.Sub h h'):JAt h' t jid did ps down sp:=
 hj.touch (S:=[]) (.of ht) abp abp
theorem IP{h:Heap}{xs:List AV}{ps:List (List UInt8)}{x:AV}{p:List UInt8}(hr:Ab.Rows 5 h xs ps)(hx:By h x p):Ab.Rows 5 h (xs++ [x]) (ps++ [p]):=⟨by simp[hr.1],fun i h1 h2=>by
 have hl:=hr.1
 by_cases hi:i<xs.length
 ·rw[List.getElem_append_left hi,List.getElem_append_left abh]
  exact hr.2 i hi abh
 ·have e:i=xs.length:=by grind
  subst e;simpa[hl]using hx⟩
theorem wz(jid did:Nat)(ps:List (List UInt8))(down:Bool)(sp:List Nat)(h:Heap)(hj:JAt h 173 jid did ps down sp):ai Tryz.prog 48 [.ptr jid 0] h fun r h' =>r= .b down∧h' =h:=by
 obtain⟨y,xs,a,_,_⟩:=hj;refine abg Tryz.func48 7 [.tmp 2] fun hwf=>?_
 simp only[go_sem,a];exact abu
theorem yE(jid did:Nat)(ps:List (List UInt8))(down:Bool)(sp:List Nat)(h:Heap)(hj:JAt h 173 jid did ps down sp)(hl:ps.length≤1000000)(hp:∀p∈ps,p.length≤1000000):
  ai Tryz.prog 45 [.ptr jid 0] h fun r h' =>∃q,r= .sl (ps.map j0) q∧Ab.Sub h h' :=by
 obtain⟨y,xs,a,b,c⟩:=hj;refine abg Tryz.func45 22 [.tmp 2] fun hwf=>?_
 obtain⟨qy,rfl⟩:=b.row;have hlen:=(c h).1;simp only[go_sem,a];refine .intro (fun m ρ g=>∃(i:Nat) (z:AV),Acc U 41 h g z ((ps.take i).map j0)∧i≤ps.length∧m=ps.length - i∧lk ρ 3=some z∧lk ρ 9=some (.sl xs qy)∧lk ρ 10=some (.i xs.length)∧lk ρ 11=some (.i i)) (ps.length - 0) ?_ ?_
 ·refine⟨0,_,.full (.refl h),abh,rfl,?_,?_,?_,?_⟩<;>simp only[go_sem]
 ·rintro m ρ g ⟨i,z,ha,hi,rfl,r3,r9,r10,r11⟩
  by_cases hc:i<ps.length
  ·have d1:decide ((i:Int)<(xs.length:Int))=true:=decide_eq_true abh
   have w1:IntKind.i64.wrap ((i:Int)+1)=((i+1:Nat):Int):=abv;have hx:=(c g).2 i abh hc;simp only[go_sem,r3,r9,r10,r11,d1];refine .at i abh (by rw[hx.cells];rfl) ?_
   simp only[go_sem,r3,r9,r10,r11,hx.cells,hx.KO,and_self];refine(pS xs[i] ps[i] g hx abi).pthen' ?_;simp only[go_sem,r3,r9,r10,r11];refine ha.app (v:=.sl [j0 ps[i]] .full) (zs:=[j0 ps[i]]) abk abk (fun k hk=>hk) (by grind [u27,yH]) (by grind [u27,Sized,j0,AV.cells]) (by grind [NO]) fun z' g2 ha' hk' =>?_
   simp only[go_sem,r3,r9,r10,r11,w1];refine⟨_,?_,i+1,z',?_,abh,rfl,?_,?_,?_,?_⟩
   ·omega
   ·grind [List.take_succ_eq_append_getElem]
   all_goals simp only[go_sem,r3,r9,r10,r11,w1]
  ·obtain rfl:i=ps.length:=by omega
   have d1:decide ((ps.length:Int)<(xs.length:Int))=false:=decide_eq_false abh;simp only[go_sem,r3,r9,r10,r11,d1];rw[List.take_length]at ha;obtain⟨q,rfl⟩:=ha.row;exact .same (.refl _) ⟨q,rfl,ha.1⟩
def D.cc(d:D):D×Nat:=
 let c:=if(scan d.b).2<d.b.length then d.cut ((scan d.b).2:Nat)else(d,0)
 if c.2=0 then c.1.sync else c
theorem Ku(d:D)(hd:d.ok)(id:Nat)(h:Heap)(hdk:bQ h id d):
  ai Tryz.prog 44 [.ptr id 0] h fun r h' =>∃J,r= .tup [J,.i (d.cc.2:Nat)]∧bQ h' id d.cc.1∧Keep id h h'∧
   if d.cc.2=0 then∃jid sp,J= .ptr jid 0∧h jid=none∧JAt h' 173 jid id (scan d.b).1 false sp∧∀i∈sp,h i=none∧i≠jid else J= .v (.pointer none):=by
 refine ai.of_wp hU Tryz.func44 rfl abx 35 rfl [.tmp 2,.tmp 3] rfl (aa6 rfl) ?_;refine .one hU hm ?_;simp only[go_sem]
 show WP _ _ _ _ _ _
 refine .one hU hm ?_;simp only[go_sem]
 show WP _ _ _ _ _ _
 have hlen:d.b.length≤2000000:=by have:=hd.1;have:=hd.2.1;omega
 obtain⟨at_,hat⟩:∃n,(scan d.b).2=n:=⟨_,rfl⟩;have hatl:=GN d.b;rw[hat]at hatl;refine .cut (fun ρ g=>∃z sp,gL g z ((scan d.b).1.map j0) sp∧Ab.Sub h g∧(∀i∈sp,h i=none)∧lk ρ 0=some (.ptr id 0)∧lk ρ 4=some z∧lk ρ 5=some (.i at_)) (.vc hU hm ?_) ?_
 ·simp only[go_sem]
  refine(Ln d hd id h hdk).pthen ?_;simp only[go_sem];refine(NC _ d.b h (.sl _ _) hlen).mono fun r g ⟨z,sp,e1,hg,hs,hsp⟩=>?_
  subst e1;rw[hat];simp only[go_sem];refine⟨z,sp,hg,hs,hsp,?_,?_,?_⟩<;>simp only[go_sem]
 rintro ρ g ⟨z,sp,hg,hs,hsp,r0,r4,r5⟩
 have hdk1:=hdk.keep hs.fP;have hob:∀i∈sp,i≠id:=fun i hi e=>by
  obtain⟨y,hy,_⟩:=hdk
  grind
 refine .cut (fun ρ g=>∃d1,d.cc=d1.sync∧d1.ok∧bQ g id d1∧gL g z ((scan d.b).1.map j0) sp∧Keep id h g∧lk ρ 0=some (.ptr id 0)∧lk ρ 4=some z) (.vc hU hm ?_) ?_
 ·simp only[go_sem,r0,r4,r5]
  refine(M4 d id g hdk1).pthen ?_;simp only[go_sem,r0,r4,r5];refine .intro (fun e=>?_) (fun e=>?_)
  ·have e:=aa9 e
   have e' :at_<d.b.length:=abh;simp only[go_sem,r0,r4,r5];refine dthen (Ep d hd id g at_ hdk1) fun g1 hd1 kp=>?_
   have hO:d.cc=if(d.cut (at_:Nat)).2=0 then(d.cut (at_:Nat)).1.sync else d.cut (at_:Nat):=by
    simp_all [D.cc,if_pos]
   have ok1:=D.Ep hd at_;generalize d.cut (at_:Nat)=D0 at hO hd1 ok1⊢;obtain⟨D1,c1⟩:=D0;simp only at hO hd1 ok1⊢;simp only[go_sem,r0,r4,r5]
   by_cases hc:c1=0
   ·subst hc
    rw[if_pos rfl]at hO;simp only[go_sem,r0,r4,r5];refine⟨D1,hO,ok1,hd1,hg.touch (Touch.keep kp) abi,(hs.keep id).trans kp,?_,?_⟩<;>simp only[go_sem,r0,r4]
   ·rw[if_neg hc]at hO
    have t1:(((c1:Nat):Int) !=0)=true:=abi;simp only[go_sem,r0,r4,r5,t1];refine .same (.refl _) ⟨_,by rw[hO];rfl,abi,(hs.keep id).trans kp,?_⟩
    grind
  ·have e:=aba e
   have e' :¬at_<d.b.length:=abh;have hO:d.cc=d.sync:=by
    simp_all [D.cc,if_neg]
   simp only[go_sem,r0,r4,r5];refine⟨d,hO,hd,hdk1,hg,hs.keep id,?_,?_⟩<;>simp only[go_sem,r0,r4]
 rintro ρ g1 ⟨d1,hO,ok1,hd1,hg1,kp1,r0,r4⟩
 refine .vc hU hm ?_;simp only[go_sem,r0,r4];refine dthen (GU d1 ok1 id g1 hd1) fun g2 hd2 kp2=>?_
 rw[hO];generalize d1.sync=D0 at hd2⊢;obtain⟨D2,c2⟩:=D0;simp only at hd2⊢;have kp:=kp1.trans kp2;have hg2:=hg1.touch (Touch.keep kp2) abi;simp only[go_sem,r0,r4]
 by_cases hc:c2=0
 ·subst hc
  obtain⟨qz,rfl⟩:=hg2.row;simp only[go_sem,r0,r4];intro jid hjid;simp only[go_sem,r0,r4];have hne:jid≠id:=fun e=>by
   obtain⟨y,hy,_⟩:=hd2
   grind
  have hjh:h jid=none:=by
   cases hh:h jid with
   |none=>rfl
   |some k=>rw[kp _ _ hne hh]at hjid;omega
  have hsj:∀i∈sp,i≠jid:=fun i hi e=>by
   obtain⟨n,hn⟩:=hg2.has i hi
   grind
  refine .same (.refl _) ⟨_,rfl,hd2.keep (.new hjid),fun j k e hj=>?_,jid,sp,rfl,hjh,⟨_,_,ah ..,hg2.touch .upd abi,fun g=>GL _ g⟩,fun i hi=>⟨hsp i hi,hsj i hi⟩⟩
  have h2:=kp j k e hj;rw[ag _ _ abi];exact afl
 ·have t1:(((c2:Nat):Int) !=0)=true:=by grind
  simp only[go_sem,r0,r4,t1];exact .same (.refl _) ⟨_,rfl,hd2,kp,abi⟩
def jadd(d:D)(ps:List (List UInt8))(down:Bool)(p:List UInt8):(D×List (List UInt8)×Bool)×Nat:=
 if down=true then((d,ps,true),9)else if p.length=0∨8192<p.length then((d,ps,false),1)else
  if(d.append (frame p)).2=8 then(((d.append (frame p)).1,ps,false),8)else
   if(if(d.append (frame p)).2=0 then(d.append (frame p)).1.sync else d.append (frame p)).2=0 then
    (((if(d.append (frame p)).2=0 then(d.append (frame p)).1.sync else d.append (frame p)).1,ps++ [p],false),0)
   else(((if(d.append (frame p)).2=0 then(d.append (frame p)).1.sync else d.append (frame p)).1,ps,true),9)
theorem D.B4(d:D)(b:List UInt8):(d.append b).2=0∨(d.append b).2=8∨(d.append b).2=9:=by
 grind [D.append]
theorem D.I5(d:D):d.sync.2=0∨d.sync.2=9:=by
 grind [D.sync]
theorem Gj(d:D)(hd:d.ok)(id jid:Nat)(ps:List (List UInt8))(down:Bool)(sp:List Nat)(h:Heap)(x:AV)(p:List UInt8)(hdk:bQ h id d)(hj:JAt h 173 jid id ps down sp)(hx:By h x p)(hp:p.length≤1000000)(hps:ps.length≤1000000):
  ai Tryz.prog 49 [.ptr jid 0,x] h fun r h' =>r= .i ((jadd d ps down p).2:Nat)∧∃sp',bQ h' id (jadd d ps down p).1.1∧JAt h' 173 jid id (jadd d ps down p).1.2.1 (jadd d ps down p).1.2.2 sp'∧
   Touch (id::jid::sp) h h'∧∀i∈sp',i∈sp∨h i=none:=by
 obtain⟨y,xs,hjid,hg,hrs⟩:=hj;have hne:jid≠id:=fun e=>by
  obtain⟨z,hz,_⟩:=hdk;rw[←e,hjid]at hz;simp only[Option.some.injEq,Blk.obj.injEq]at hz;exact absurd hz.2 abk
 refine ai.of_wp hU Tryz.func49 rfl abl 51 rfl [.tmp 4] rfl (aa6 rfl) ?_;refine .one hU hm ?_;simp only[go_sem]
 show WP _ _ _ _ _ _
 refine .one hU hm ?_;cases down with
 |true=>
  have hJ:jadd d ps true p=((d,ps,true),9):=by simp[jadd]
  simp only[go_sem,hjid];refine .same (.refl _) ?_;rw[hJ];exact⟨rfl,sp,hdk,⟨y,xs,hjid,hg,hrs⟩,.refl _ _,fun i hi=> .inl hi⟩
 |false=>
  simp only[go_sem,hjid]
  show WP _ _ _ _ _ _
  refine .one hU hm ?_;have bad:(p.length=0∨8192<p.length)→mA [.i 1] h fun r h' =>r= .i ((jadd d ps false p).2:Nat)∧∃sp',bQ h' id (jadd d ps false p).1.1∧JAt h' 173 jid id (jadd d ps false p).1.2.1 (jadd d ps false p).1.2.2 sp'∧
    Touch (id::jid::sp) h h'∧∀i∈sp',i∈sp∨h i=none:=fun hb=>by
   have hJ:jadd d ps false p=((d,ps,false),1):=by unfold jadd;rw[if_neg abp,if_pos hb]
   refine .same (.refl _) ?_;rw[hJ];exact⟨rfl,sp,hdk,⟨y,xs,hjid,hg,hrs⟩,.refl _ _,fun i hi=> .inl hi⟩
  by_cases h0:p.length=0
  ·have t0:(((p.length:Nat):Int)==0)=true:=by simp[h0]
   simp only[go_sem,hx.len,t0];exact bad (.inl h0)
  ·have t0:(((p.length:Nat):Int)==0)=false:=beq_eq_false_iff_ne.mpr abh
   by_cases h1:8192<p.length
   ·have t1:decide ((8192:Int)<(p.length:Int))=true:=decide_eq_true abh
    simp only[go_sem,hx.len,t0,t1];exact bad (.inr h1)
   ·have t1:decide ((8192:Int)<(p.length:Int))=false:=decide_eq_false abh
    have hJ:jadd d ps false p=if(d.append (frame p)).2=8 then(((d.append (frame p)).1,ps,false),8)else
      if(if(d.append (frame p)).2=0 then(d.append (frame p)).1.sync else d.append (frame p)).2=0 then
       (((if(d.append (frame p)).2=0 then(d.append (frame p)).1.sync else d.append (frame p)).1,ps++ [p],false),0)
      else(((if(d.append (frame p)).2=0 then(d.append (frame p)).1.sync else d.append (frame p)).1,ps,true),9):=by
     have hno:¬(p.length=0∨8192<p.length):=abh;unfold jadd;rw[if_neg abp,if_neg hno]
    have hcode:=D.B4 d (frame p);simp only[go_sem,hx.len,t0,t1]
    show WP _ _ _ _ _ _
    refine .one hU hm ?_;simp only[go_sem];refine .calls (hm1 jid _) [0,1,2,3,4,5,6,7] (.hm1 hjid) abl rfl ?_;simp only[go_sem,hjid];refine(Kf x p h hx hp).sthen fun g1 hs1=>?_
    refine⟨.hm1 (hs1 _ _ hjid),?_⟩;simp only[go_sem];refine dthen (tZ d hd id g1 _ (frame p) (hdk.keep hs1.fP) (.sl _ _) (by rw[sQ];omega)) fun g2 hd2 kp=>?_
    have hj2:g2 jid=some (.obj [.ptr id 0,y,.b false] 173):=kp _ _ hne (hs1 _ _ hjid);refine⟨.hm1 hj2,?_⟩;have ok2:=D.tZ hd (frame p);have hkp:Keep id h g2:=(hs1.keep id).trans kp;have hgid:∀i∈sp,i≠id:=fun i hi e=>by
     obtain⟨n,hn⟩:=hg.has i hi;obtain⟨z,hz,_⟩:=hdk;rw[e,hz]at hn;cases hn
    have hg2:gL g2 y xs sp:=hg.touch (Touch.keep hkp) (fun i hi=>by simp[hgid i hi])
    have hx2:By g2 x p:=by
     obtain⟨z,hz,_⟩:=hdk;exact(hx.keep hkp hz abk)
    have hT2:Touch (id::jid::sp) h g2:=(Touch.keep hkp).mono (fun i hi=> .inl (by simp at hi;simp[hi]))
    generalize d.append (frame p)=A at hJ hcode hd2 ok2⊢;obtain⟨d2,c2⟩:=A;simp only at hJ hcode hd2 ok2⊢;simp only[go_sem]
    show WP _ _ _ _ _ _
    refine .one hU hm ?_;have downed:∀(g:Heap) (e:D) (ρ:Env),bQ g id e→g jid=some (.obj [.ptr id 0,y,.b false] 173)→gL g y xs sp→Touch (id::jid::sp) h g→jadd d ps false p=((e,ps,true),9)→
      (mA [.i 9] (upd g jid (some (.obj [.ptr id 0,y,.b true] 173))) fun r h' =>r= .i ((jadd d ps false p).2:Nat)∧∃sp',bQ h' id (jadd d ps false p).1.1∧JAt h' 173 jid id (jadd d ps false p).1.2.1 (jadd d ps false p).1.2.2 sp'∧
       Touch (id::jid::sp) h h'∧∀i∈sp',i∈sp∨h i=none):=fun g e ρ a1 a2 a3 a4 hJ=>by
     rw[hJ];have hsj:∀i∈sp,i≠jid:=fun i hi e=>by
      obtain⟨n,hn⟩:=hg.has i hi;rw[e,hjid]at hn;cases hn
     have ht:Touch [jid] g (upd g jid (some (.obj [.ptr id 0,y,.b true] 173))):=.upd;refine .same (.refl _) ⟨rfl,sp,?_,⟨y,xs,ah ..,a3.touch ht (fun i hi=>by simp[hsj i hi]),hrs⟩,(a4.trans ht).mono (fun i hi=> .inl (by simp at hi⊢;rcases hi with h|h|h|h<;>simp[h])),fun i hi=> .inl hi⟩
     obtain⟨z,z1,z2⟩:=a1;exact⟨z,ht _ _ (by simp;exact fun e=>hne e.symm) z1,z2.keep (Keep.upd jid _) a2 abk⟩
    have hc0:=hcode;rcases hcode with rfl|rfl|rfl
    ·
     simp only[go_sem];refine .one hU hm ?_;simp only[go_sem,hj2];refine dthen (GU d2 ok2 id g2 hd2) fun g3 hd3 kp3=>?_
     have hj3:g3 jid=some (.obj [.ptr id 0,y,.b false] 173):=kp3 _ _ hne hj2;have hg3:gL g3 y xs sp:=hg2.touch (Touch.keep kp3) (fun i hi=>by simp[hgid i hi])
     have hx3:By g3 x p:=by
      obtain⟨z,hz,_⟩:=hd2;exact(hx2.keep kp3 hz abk)
     have hT3:Touch (id::jid::sp) h g3:=(hT2.trans (Touch.keep kp3)).mono (fun i hi=> .inl (by simp at hi⊢;rcases hi with h|h|h|h<;>simp[h]))
     have hcs:=D.I5 d2;rw[if_neg abk,if_pos rfl]at hJ;generalize d2.sync=A at hJ hcs hd3⊢;obtain⟨d3,c3⟩:=A;simp only at hJ hcs hd3⊢;rcases hcs with rfl|rfl
     ·simp only[go_sem]
      refine .one hU hm ?_;simp only[go_sem];refine .one hU hm ?_;simp only[go_sem];refine .last (hm1 jid _) [0,1,2,3,4,5,6,7,8,9,10] (.hm1 hj3) abl rfl abl rfl ?_;simp only[go_sem,hj3];refine(pS x p g3 hx3 abh).pthen' ?_;obtain⟨qy,rfl⟩:=hg3.row;refine⟨.hm1 hj3,?_⟩;simp only[go_sem,hj3];refine hg3.app (v:=.sl [j0 p] .full) (zs:=[j0 p]) (fun k hk=>hk) (hrs h).sized (by simp[Sized,j0,AV.cells]) (by have:=(hrs h).1;simp;omega) fun z g4 sp' hg4 ht4 hsp' =>?_
      have hsj:∀i∈sp,i≠jid:=fun i hi e=>by
       obtain⟨n,hn⟩:=hg.has i hi;rw[e,hjid]at hn;cases hn
      have hj4:g4 jid=some (.obj [.ptr id 0,.sl xs qy,.b false] 173):=ht4 _ _ (fun hi=>hsj _ hi rfl) hj3
      refine⟨.hm1 hj4,?_⟩;obtain⟨qz,rfl⟩:=hg4.row;simp only[go_sem,hj4];refine .vc hU hm ?_;simp only[go_sem];have ht5:Touch [jid] g4 (upd g4 jid (some (.obj [.ptr id 0,.sl (xs++ [j0 p]) qz,.b false] 173))):=.upd;have hsj' :∀i∈sp',i≠jid:=fun i hi e=>by
       obtain⟨n,hn⟩:=hg4.has i hi;rw[e,hj4]at hn;cases hn
      rw[if_pos rfl]at hJ;refine .same (.refl _) ?_;rw[hJ];refine⟨rfl,sp',?_,⟨_,_,ah ..,hg4.touch ht5 (fun i hi=>by simp[hsj' i hi]),fun g=>IP (hrs g) (.sl _ _)⟩,?_,fun i hi=>?_⟩
      ·obtain⟨z,z1,z2⟩:=hd3
       have hid4:g4 id=some (.obj (d3.cells z) 96):=ht4 _ _ (fun hi=>hgid _ hi rfl) z1
       have z4:By g4 z d3.b:=by
        rcases z2 with z2|⟨i,off,cs,rfl,a1,a2,a3⟩
        ·exact .inl z2
        ·exact .oa (ht4 _ _ (fun hi=>by obtain⟨n,hn⟩:=hg3.has i hi;rw[a1]at hn;cases hn) a1) a2 a3
       exact⟨z,ht5 _ _ (by simp;exact fun e=>hne e.symm) hid4,z4.keep (Keep.upd jid _) hj4 abk⟩
      ·exact((hT3.trans ht4).trans ht5).mono (fun i hi=> .inl (by simp at hi⊢;grind))
      ·rcases hsp' i hi with h1|h1
       ·exact .inl h1
       ·cases hh:h i with
        |none=>exact .inr rfl
        |some k=>
         by_cases hin:i∈id::jid::sp
         ·simp only[List.mem_cons]at hin
          rcases hin with e|e|e
          ·subst e;rw[hd3.choose_spec.1]at h1;cases h1
          ·subst e;rw[hj3]at h1;cases h1
          ·exact .inl e
         ·rw[hT3 i k hin hh]at h1;cases h1
     ·simp only[go_sem]
      refine .one hU hm ?_;simp only[go_sem,hj3];exact downed g3 d3 [] hd3 hj3 hg3 hT3 hJ
    ·
     simp only[go_sem];refine .same (.refl _) ?_;rw[hJ];exact⟨rfl,sp,hd2,⟨y,xs,hj2,hg2,hrs⟩,hT2,fun i hi=> .inl hi⟩
    ·simp only[go_sem]
     refine .one hU hm ?_;simp only[go_sem,hj2];refine .one hU hm ?_;simp only[go_sem,hj2];exact downed g2 d2 [] hd2 hj2 hg2 hT2 hJ
theorem D.Qq{d:D}(hd:d.ok)(h1:d.off=false)(h2:d.f=0):d.cc=({d with b:=d.b.take (scan d.b).2,sy:=(scan d.b).2},0):=by
 have hl:=GN d.b;have OM:∀e:D,e.off=false→e.f=0→e.sync=({e with sy:=e.b.length},0):=fun e h1 h2=>by
  unfold D.sync;rw[if_neg (by simp[h1]),D.Oe h2,if_neg (by simp[h1])]
 unfold D.cc
 by_cases h:(scan d.b).2<d.b.length
 ·rw[if_pos h,D.Vz h1 h2 hl]
  grind
 ·have e:(scan d.b).2=d.b.length:=by omega
  grind
theorem Tg{d:D}{ps:List (List UInt8)}{p:List UInt8}(h1:d.off=false)(h2:d.f=0)(hp1:1≤p.length)(hp2:p.length≤8192)(hf:d.b.length+(frame p).length≤d.q):
  jadd d ps false p=(({d with b:=d.b++frame p,sy:=(d.b++frame p).length},ps++ [p],false),0):=by
 have hno:¬(p.length=0∨8192<p.length):=abh;have hs:({d with b:=d.b++frame p}:D).sync=({d with b:=d.b++frame p,sy:=(d.b++frame p).length},0):=D.OM h1 h2
 unfold jadd;rw[if_neg abp,if_neg hno,D.Mr h1 h2 hf,if_neg abh,if_pos rfl,hs,if_pos rfl]
theorem yI:scan []=([],0):=by grind [qU,ry]
end Go.Proofs.YtcochaoekecfdaaGreatDoor
namespace Go.Bf
open Go Go.Ab Go.Proofs.YtcochaoekecfdaaGreatDoor
def fnv(h:BitVec 64)(n:Nat):BitVec 64:=(h ^^^ BitVec.ofNat 64 n)*1099511628211#64
def ML(g:BitVec 64→Nat→BitVec 64):Nat→BitVec 64→BitVec 64→BitVec 64
 |0,_,h=>h
 |n+1,p,h=>ML g n (p>>>8) (g h (p &&& 255#64).toNat)
def HS(n:Nat)(p h:BitVec 64):BitVec 64:=ML fnv n p h
theorem HV(g:BitVec 64→Nat→BitVec 64)(n:Nat)(p h:BitVec 64):ML g (n+1) p h=ML g n (p>>>8) (g h (p &&& 255#64).toNat):=rfl
theorem HU(p h:BitVec 64):HS 0 p h=h:=rfl
theorem HT(n:Nat)(p h:BitVec 64):HS (n+1) p h=HS n (p>>>8) (fnv h (p &&& 255#64).toNat):=HV fnv n p h
def rJ(prev:BitVec 64)(l:Txt):BitVec 64:=l.foldl (fun h c=>fnv h c.toNat) (HS 8 prev 14695981039346656037#64)
def pW:Nat→BitVec 64→Txt
 |0,_=>[]
 |n+1,h=>UInt8.ofNat h.toNat::pW n (h>>>8)
def gK(h:BitVec 64)(o:OpD):Txt:=pW 8 h++fJ o
theorem qP:∀(n:Nat) (h:BitVec 64),(pW n h).length=n
 |0,_=>rfl
 |n+1,h=>by simp[pW,qP n]
structure ia where
 s:an
 log:List pG
 ch:BitVec 64
 ps:List Txt
 down:Bool
def mP(e:ia)(p:Txt):Option OpD:=if p.length<8 then none else match mq (p.drop 8)with
 |some o=>if gK e.ch o=p then some o else none
 |none=>none
def qc(e:ia)(g:an×kV×pG×Int)(p:Txt):ia:={e with s:=g.1,log:=e.log++ [g.2.2.1],ch:=rJ e.ch p}
def rD(e:ia)(p:Txt):Option ia:=match mP e p with
 |some o=>if(bu e.s o).2.2.2=0 then some (qc e (bu e.s o) p)else none
 |none=>none
def oZ:ia→List Txt→Option ia
 |e,[]=>some e
 |e,p::r=>match rD e p with
  |some e' =>oZ e' r
  |none=>none
def jn(ps:List Txt):ia:=⟨we,[],0,ps,false⟩
def Fx(ps:List Txt):Option ia:=oZ (jn ps) ps
def HE(n:Int):kV:=⟨n,naM,false,ax,false,0⟩
def doE(e:ia)(d:D)(o:OpD):ia×D×kV:=
 if e.down then(e,d,HE 9)else
 let g:=bu e.s o
 if g.2.2.2≠0 then(e,d,g.2.1)else
 let p:=gK e.ch o
 let a:=jadd d e.ps e.down p
 if a.2=0 then({qc e g p with ps:=a.1.2.1,down:=a.1.2.2},a.1.1,g.2.1)else({e with ps:=a.1.2.1,down:=a.1.2.2},a.1.1,HE (a.2:Int))
theorem xD:∀(l:List Txt) (e:ia) (p:Txt),oZ e (l++ [p])=(oZ e l).bind fun e' =>rD e' p
 | [],e,p=>by
  grind [oZ,rD]
 |q::l,e,p=>by
  simp only[List.cons_append,oZ];cases rD e q with
  |none=>rfl
  |some e' =>exact xD l e' p
theorem oh{s:an}{o:OpD}(h:(bu s o).2.2.2=0):dj o=true:=by
 have hp:(jK s o).1=0:=by
  unfold bu at h
  grind
 exact(tE hp).2.1
theorem G0:∀(f v:Nat),(rq f v).length≤f
 |0,_=>by simp[rq]
 |f+1,v=>by
  unfold rq;split
  ·simp
  ·simp only[List.length_cons]
   have:=G0 f (v / 128);omega
theorem jB(n:Int):(ni n).length≤10:=G0 10 _
theorem Nk(n:Int):1≤(ni n).length:=List.length_pos_iff.2 (NT 10 _ abk)
theorem fI(s:Txt):(eL s).length≤10+s.length:=by
 grind [eL,abb,jB]
theorem GY{v:bA}(h:v=ax∨bE v=true):(tO v).length≤84:=by
 have hs:v.kind=3∨v.kind=5→v.s.length≤64:=fun e=>by
  rcases h with rfl|h
  ·decide
  simp_all [qX]
 unfold tO;rw[abb];have h1:=jB v.kind;split
 ·rename_i e
  have:=fI v.s;omega
 ·have:=jB v.n
  omega
theorem mO{o:OpD}(hf:OpF o):1≤(fJ o).length∧(fJ o).length≤5000:=by
 unfold fJ;simp only[abb];have h1:=jB o.kind;have h0:=Nk o.kind;have h2:=fI o.subj;have h3:=fI o.case;have h4:=fI o.field;have h5:=fI o.to;have h6:=GY hf.val;have h7:=jB o.review;have h8:=fI o.text;have h9:=fI o.reason;have h10:=GY (v:=dJ o.glass) (.inr (LN _));have:=hf.subj;have:=hf.case;have:=hf.field;have:=hf.to;have:=hf.text;have:=hf.reason;omega
theorem wH{h:BitVec 64}{o:OpD}(hf:OpF o):9≤(gK h o).length∧(gK h o).length≤5008:=by
 grind [mO,gK,abb,qP]
def xU(a b:bA):Int:=if bE a=false∨bE b=false then 1 else 2
def kI(a b:bA):AV:=match mJ a b with
 |some x=> .tup [.b x,.i 0]
 |none=> .tup [.b false,.i (xU a b)]
theorem Ai{a b:bA}(h:bE a=false∨bE b=false):kI a b= .tup [.b false,.i 1]:=by
 unfold kI mJ;rw[if_pos abi]
 simp_all [xU,if_pos]
theorem xT{a b:bA}(h1:bE a=true)(h2:bE b=true)(h:a.kind≠b.kind∨a.kind=1):kI a b= .tup [.b false,.i 2]:=by
 simp_all [kI,mJ,if_pos,xU]
theorem M8{a b:bA}(h1:bE a=true)(h2:bE b=true)(h:a.kind=b.kind)(h0:a.kind≠1)(ht:a.kind=3∨a.kind=5):kI a b= .tup [.b (Op.bytesLess a.s b.s),.i 0]:=by
 simp_all [kI,mJ,if_neg,if_pos]
theorem M7{a b:bA}(h1:bE a=true)(h2:bE b=true)(h:a.kind=b.kind)(h0:a.kind≠1)(ht:¬(a.kind=3∨a.kind=5)):kI a b= .tup [.b (decide (a.n<b.n)),.i 0]:=by
 simp_all [kI,mJ,if_neg]
end Go.Bf
namespace Go.Proofs.YtcochaoekecfdaaGreatDoor
open Go Go.Ab Go.Bf
theorem yS(k:Int)(h:Heap):ai Tryz.prog 108 [.i k] h fun r h' =>r= .b (k==3||k==5)∧h' =h:=by
 refine abg Tryz.func108 9 [.tmp 2] fun hwf=>?_
 cases d1:(k==3)<;>cases d2:(k==5)
 all_goals
  simp only[go_sem,d1,d2];exact abu
theorem Bw(a b:bA)(h:Heap):ai Tryz.prog 284 [aR a,aR b] h fun r h' =>r=kI a b∧h' =h:=by
 have ha:=fun(G:Heap)=>fX a G
 have hb:=fun(G:Heap)=>fX b G
 simp only[aR]at ha hb;refine abg Tryz.func284 40 [.tmp 4,.tmp 5] fun hwf=>?_
 simp only[go_sem,aR];intro i1 h1;simp only[go_sem];intro i2 h2;have n21:=aH h2;have n2:=aB h2;have hs:∀x y,Ab.Sub h (upd (upd h i1 x) i2 y):=fun x y=>((Sub.refl h).put h1 x).put n2 y
 simp only[go_sem,aj,n21.symm];refine(ha _).pthen ?_;cases da:bE a
 ·simp only[go_sem]
  exact .mk _ (.refl _) (hs _ _) ⟨by rw[Ai (.inl da)];rfl,rfl⟩
 simp only[go_sem];refine(hb _).pthen ?_;cases db:bE b
 ·simp only[go_sem]
  exact .mk _ (.refl _) (hs _ _) ⟨by rw[Ai (.inr db)];rfl,rfl⟩
 cases dk:(a.kind !=b.kind)
 case true=>
  simp only[go_sem,aj,n21.symm,dk];exact .mk _ (.refl _) (hs _ _) ⟨by rw[xT da db (.inl abi)];rfl,rfl⟩
 have ek:a.kind=b.kind:=abi;cases d1:(a.kind==1)
 case true=>
  simp only[go_sem,aj,n21.symm,dk,d1];exact .mk _ (.refl _) (hs _ _) ⟨by rw[xT da db (.inr abi)];rfl,rfl⟩
 have e1:a.kind≠1:=abi;simp only[go_sem,aj,n21.symm,dk,d1];refine(yS _ _).pthen ?_;cases dt:(a.kind==3||a.kind==5)
 ·simp only[go_sem,aj,n21.symm]
  exact .mk _ (.refl _) (hs _ _) ⟨by rw[M7 da db ek e1 abi];rfl,rfl⟩
 ·simp only[go_sem,aj,n21.symm]
  exact .mk _ (.refl _) (hs _ _) ⟨by rw[M8 da db ek e1 abi];rfl,rfl⟩
def HX(bag:List bA)(must:Bool):AV:=if bag= []∧must=true then .tup [.sl [] .no,.i 4]else .tup [.sl (bag.map aR) .no,.i 0]
theorem Ga(gs:List bk)(cat:Int)(name:Txt)(must:Bool)(hl:gs.length≤1000000000)(hb:∀g∈gs,g.bag.length≤1000000)(h:Heap):ai Tryz.prog 250 [bH gs,.agg [.i cat,.s name,.b must]] h fun r h' =>r=HX (getD gs cat name) must∧h' =h:=by
 have hpl:=fun G=>Lb gs cat name hl G
 simp only[bH]at hpl;have frz:∀(x:AV) (e:Int),Weak x (.sl [] .no)→Weak (.tup [x,.i e]) (.tup [.sl [] .no,.i e]):=fun x e hx=> .tup _ _ rfl fun i a b=>by
  rcases i with _|_|i
  ·grind
  ·exact acC
  grind
 refine abg Tryz.func250 30 [.tmp 4,.tmp 5] fun hwf=>?_
 simp only[go_sem,bH];intro i1 h1;simp only[go_sem];refine(hpl _).pthen ?_
 by_cases hx:gs.findIdx (iB cat name)<gs.length
 ·have e1:ixD (iB cat name) gs=(gs.findIdx (iB cat name):Nat):=by simp_all [ixD,if_pos]
  have d1:decide ((0:Int)≤((gs.findIdx (iB cat name):Nat):Int))=true:=decide_eq_true abh;rw[e1];simp only[go_sem,d1];refine .at (gs.findIdx (iB cat name)) abi aby ?_;simp only[go_sem,aa8,kG];rw[if_neg (fun hh=>hh.1)]
  have hlb:=hb _ (abc hx);rw[get_at hx];obtain⟨B,eB⟩:∃B,gs[gs.findIdx (iB cat name)].bag=B:=⟨_,rfl⟩;rw[eB]at hlb⊢;refine(Ch _ (B.map aR) _ (eJ aR 3 (fun _=>rfl) _ _) abi (bp (fun _=>rfl) _)).pthen ?_
  cases d2:((B.length:Int)==0)
  ·have e2:B≠ []:=by grind
   simp only[go_sem,d2,aa7];exact .mk _ (.refl _) (.ak h1) ⟨by rw[HX,if_neg (fun hh=>e2 hh.1)];rfl,rfl⟩
  ·have e3:(B.length:Int)=0:=by grind
   have e2:B= []:=List.length_eq_zero_iff.1 abh;subst e2;cases must
   ·simp only[go_sem,List.map_nil,List.length_nil]
    exact abz
   ·simp only[go_sem,List.map_nil,List.length_nil]
    exact ac5
 ·have e1:ixD (iB cat name) gs= -1:=by simp_all [ixD,if_neg]
  have d1:decide ((0:Int)≤ -1)=false:=rfl;rw[e1,PW hx];cases must
  ·simp only[go_sem,d1]
   exact .mk (.tup [.sl [] .no,.i 0]) (frz _ _ (.sl _ _)) (.ak h1) ⟨rfl,rfl⟩
  ·simp only[go_sem,d1]
   exact ac5
def lT(m:bO)(v:bA):AV:=
 if m.op=1 then(if v.kind=m.val.kind then .tup [.b (eqV v m.val),.i 0]else .tup [.b false,.i 2])
 else if m.op=2 then kI v m.val else kI m.val v
theorem Ea(m:bO)(v:bA)(h:Heap):ai Tryz.prog 251 [dH m,aR v] h fun r h' =>r=lT m v∧h' =h:=by
 have hl1:=fun G=>Bw v m.val G
 have hl2:=fun G=>Bw m.val v G
 simp only[aR]at hl1 hl2;refine abg Tryz.func251 42 [.tmp 4,.tmp 5] fun hwf=>?_
 simp only[go_sem,dH,aR];intro i1 h1;simp only[go_sem];intro i2 h2;have n21:=aH h2;have n2:=aB h2;have hs:∀x y,Ab.Sub h (upd (upd h i1 x) i2 y):=fun x y=>((Sub.refl h).put h1 x).put n2 y
 cases d1:(m.op==1)
 case true=>
  have e1:m.op=1:=abi;cases dk:(v.kind !=m.val.kind)
  ·have dk' :v.kind=m.val.kind:=by grind
   simp only[go_sem,aj,n21.symm,d1,dk];exact .mk _ (.refl _) (hs _ _) ⟨by rw[lT,if_pos e1,if_pos dk'];rfl,rfl⟩
  ·simp only[go_sem,aj,n21.symm,d1,dk]
   exact .mk _ (.refl _) (hs _ _) ⟨by rw[lT,if_pos e1,if_neg abi];rfl,rfl⟩
 have e1:m.op≠1:=abi;have aft:∀a b:bA,∃x e,kI a b= .tup [.b x,.i e]:=fun a b=>by
  unfold kI;split
  ·simp
  simp
 cases d2:(m.op==2)
 case true=>
  have e2:m.op=2:=abi;obtain⟨x,e,ee⟩:=aft v m.val;rw[ee]at hl1;simp only[go_sem,aj,n21.symm,d1,d2];refine(hl1 _).pthen ?_;simp only[go_sem];exact .mk _ (.refl _) (hs _ _) ⟨by rw[lT,if_neg e1,if_pos e2,ee];rfl,rfl⟩
 ·have e2:m.op≠2:=by grind
  obtain⟨x,e,ee⟩:=aft m.val v;rw[ee]at hl2;simp only[go_sem,aj,n21.symm,d1,d2];refine(hl2 _).pthen ?_;simp only[go_sem];exact .mk _ (.refl _) (hs _ _) ⟨by rw[lT,if_neg e1,if_neg e2,ee];rfl,rfl⟩
theorem AZ(m:bO)(v:bA):∃e:Int,(e !=0)=(cN m v==none)∧lT m v= .tup [.b (cN m v==some true),.i e]:=by
 have hl:∀a b:bA,∃e:Int,(e !=0)=(mJ a b==none)∧kI a b= .tup [.b (mJ a b==some true),.i e]:=fun a b=>by
  unfold kI;cases hx:mJ a b with
  |some x=>simp
  |none=>refine⟨xU a b,?_,rfl⟩;grind [xU]
 unfold lT cN
 by_cases e1:m.op=1
 ·rw[if_pos e1,if_pos e1]
  by_cases ek:v.kind=m.val.kind
  ·rw[if_pos ek,if_pos ek]
   exact⟨0,rfl,abp⟩
  ·rw[if_neg ek,if_neg ek]
   exact⟨2,rfl,rfl⟩
 ·rw[if_neg e1,if_neg e1]
  by_cases e2:m.op=2
  ·rw[if_pos e2,if_pos e2];exact hl _ _
  ·rw[if_neg e2,if_neg e2];exact hl _ _
theorem HY(bag:List bA)(must:Bool):∃e:Int,(e !=0)=decide (bag= []∧must=true)∧HX bag must= .tup [.sl (bag.map aR) .no,.i e]:=by
 unfold HX;split
 ·simp_all
 grind
def qY(gs:List bk):Prop:=gs.length≤1000000∧∀g∈gs,g.bag.length≤1000000
theorem qY.bag{gs:List bk}(h:qY gs)(a:pF):(xb gs a).length≤1000000:=by
 unfold xb getD;split
 ·rename_i g hg;exact h.2 g abi
 ·simp
theorem Am(m:bO)(gs:List bk)(hf:qY gs)(h:Heap):ai Tryz.prog 214 [dH m,bH gs] h fun r h' =>r= .i (jA gs m:Nat)∧h' =h:=by
 have hg:=fun G=>Ga gs m.attr.cat m.attr.name m.attr.must (by have:=hf.1;omega) hf.2 G
 have hbl:=hf.bag m.attr;obtain⟨B,eB⟩:∃B,xb gs m.attr=B:=⟨_,rfl⟩;have eg:Go.Bf.getD gs m.attr.cat m.attr.name=B:=eB;rw[eB]at hbl;rw[eg]at hg;have hmm:jA gs m=if B= []∧m.attr.must=true then 1 else if B.any (fun v=>cN m v==some true)then 2 else if B.any (fun v=>cN m v==none)then 1 else 0:=by
  unfold jA;rw[eB]
 obtain⟨eg,hge,hga⟩:=HY B m.attr.must;rw[hga]at hg;have hag:=fun(v:bA) (G:Heap)=>Ea m v G
 simp only[dH,bH,aR]at hag hg;refine abg Tryz.func214 38 [.tmp 4] fun hwf=>?_
 simp only[go_sem,dH,bH];intro i1 h1;simp only[go_sem];refine(hg _).pthen ?_;cases d0:decide (B= []∧m.attr.must=true)
 case true=>
  rw[d0]at hge;simp only[go_sem,hge];exact .mk _ (.refl _) (.ak h1) ⟨by rw[hmm,if_pos (aa9 d0)];rfl,rfl⟩
 rw[d0]at hge;rw[if_neg (aba d0)]at hmm;simp only[go_sem,hge,aa7];obtain⟨H,eH⟩:∃H,upd h i1 (some (.obj [.i m.attr.cat,.s m.attr.name,.b m.attr.must,.i m.op,.i m.val.kind,.i m.val.n,.s m.val.s] 273))=H:=⟨_,rfl⟩;have hH:Ab.Sub h H:=by rw[←eH];exact .ak h1
 have k1:H i1=some (.obj [.i m.attr.cat,.s m.attr.name,.b m.attr.must,.i m.op,.i m.val.kind,.i m.val.n,.s m.val.s] 273):=acJ;rw[eH];clear eH;refine .intro (fun q ρ G=>Ab.Sub H G∧∃i:Nat,i≤B.length∧q=B.length - i∧(∀j (hj:j<i) (h2:j<B.length),(cN m B[j]==some true)=false)∧lk ρ 2=some (.ptr i1 0)∧lk ρ 7=some (.i (if(B.take i).any (fun v=>cN m v==none)then 1 else 0))∧lk ρ 21=some (.sl (B.map aR) .no)∧lk ρ 22=some (.i B.length)∧lk ρ 23=some (.i i)) B.length ?_ ?_
 ·refine⟨.refl _,0,abh,rfl,fun j hj=>abh,?_,?_,?_,?_,?_⟩<;>simp only[go_sem]
  simp
 ·rintro q ρ G ⟨hs,i,hi,rfl,hc,r2,r7,r21,r22,r23⟩
  have k1' :=hs _ _ k1;simp only[go_sem,r22,r23];refine .intro (fun e=>?_) (fun e=>?_)
  ·have hlt:i<B.length:=abe e
   have w1:=abd i abh;have hsn:(B.take (i+1)).any (fun v=>cN m v==none)=((B.take i).any (fun v=>cN m v==none)||(cN m B[i]==none)):=any_succ hlt
   have ix:=fun k=>fD.eq (xs:=B.map aR) (sz:=3) i abH aby k
   rw[aa8]at ix;have hci:=fun(d:(cN m B[i]==some true)=false)=>(fun j (hj:j<i+1) (h2:j<B.length)=>(by
    by_cases hji:j=i
    ·subst hji;exact d
    ·exact hc j abh h2:(cN m B[j]==some true)=false))
   have hat:=fun(d:(cN m B[i]==some true)=true)=>(List.any_eq_true.2 ⟨B[i],abc hlt,d⟩:B.any (fun v=>cN m v==some true)=true)
   obtain⟨v,ev⟩:∃v,B[i]=v:=⟨_,rfl⟩;rw[ev]at ix hsn hci hat;simp only[aR]at ix;obtain⟨e,he1,he2⟩:=AZ m v;have hag1:=hag v;rw[he2]at hag1;simp only[go_sem,r21,r23,ix];intro i4 h4;have n41:i4≠i1:=fun e=>by rw[e,k1']at h4;cases h4
   simp only[go_sem,r2,aj,n41.symm,k1'];refine(hag1 _).pthen ?_;cases d1:(cN m v==some true)
   ·cases d2:(cN m v==none)
    ·rw[d2]at he1 hsn
     rw[Bool.or_false]at hsn;simp only[go_sem,r23,he1,w1];refine⟨_,?_,hs.trans (.ak h4),i+1,abh,rfl,hci d1,?_,?_,?_,?_,?_⟩
     ·omega
     all_goals simp only[go_sem,r2,r7,r21,r22,hsn]
    ·rw[d2]at he1 hsn
     rw[Bool.or_true]at hsn;simp only[go_sem,r23,he1,w1];refine⟨_,?_,hs.trans (.ak h4),i+1,abh,rfl,hci d1,?_,?_,?_,?_,?_⟩
     ·omega
     all_goals simp only[go_sem,r2,r21,r22,hsn]
   ·simp only[go_sem]
    refine .mk _ (.refl _) (hH.trans (hs.trans (.ak h4))) ⟨by rw[hmm,if_pos (hat d1)];rfl,rfl⟩
  ·have hge:i=B.length:=by have:=aba e;omega
   subst hge;rw[List.take_length]at r7;simp only[go_sem,r7];refine .mk _ (.refl _) (hH.trans hs) ⟨?_,rfl⟩;have hno:B.any (fun v=>cN m v==some true)=false:=List.any_eq_false.2 fun x hx=>by
    obtain⟨j,hj,rfl⟩:=List.mem_iff_getElem.1 hx;rw[hc j hj hj];decide
   rw[hmm,hno];cases B.any (fun v=>cN m v==none)<;>rfl
theorem Gp(a b:Nat):(if((b:Int)<(a:Int))then(b:Int)else(a:Int))=((min a b:Nat):Int):=by
 grind
theorem Nc(a b:Nat):(if((a:Int)<(b:Int))then(b:Int)else(a:Int))=((max a b:Nat):Int):=by
 grind
theorem Mp(l:List bO)(hl:l.length≤1000000)(gs:List bk)(hf:qY gs)(h:Heap):ai Tryz.prog 244 [iF l,bH gs] h fun r h' =>r= .i (B2 gs l:Nat)∧h' =h:=by
 have hmt:=fun(m:bO) (G:Heap)=>Am m gs hf G
 simp only[dH,bH]at hmt;refine abg Tryz.func244 21 [.tmp 4] fun hwf=>?_
 simp only[go_sem,iF,bH,aa7];refine .intro (fun q ρ G=>Ab.Sub h G∧∃i:Nat,i≤l.length∧q=l.length - i∧lk ρ 1=some (.sl (gs.map kG) .no)∧lk ρ 5=some (.i (B2 gs (l.take i):Nat))∧lk ρ 8=some (.sl (l.map dH) .no)∧lk ρ 9=some (.i l.length)∧lk ρ 10=some (.i i)) l.length ?_ ?_
 ·exact agN
 ·rintro q ρ G ⟨hs,i,hi,rfl,r1,r5,r8,r9,r10⟩
  simp only[go_sem,r9,r10];refine .intro (fun e=>?_) (fun e=>?_)
  ·have hlt:i<l.length:=abe e
   have w1:IntKind.i64.wrap ((i:Int)+1)=((i+1:Nat):Int):=abv;have hsn:B2 gs (l.take (i+1))=min (B2 gs (l.take i)) (jA gs l[i]):=by
    grind [B2,List.take_succ_eq_append_getElem]
   have ix:=fun k=>fD.eq (xs:=l.map dH) (sz:=7) i abi aby k
   rw[aa8]at ix;obtain⟨m,em⟩:∃m,l[i]=m:=⟨_,rfl⟩;rw[em]at ix hsn;have hmt1:=hmt m;simp only[dH]at ix;simp only[go_sem,r8,r10,ix];intro i4 h4;simp only[go_sem,r1,r5];refine(hmt1 _).pthen ?_;simp only[go_sem,r10,Gp,w1];refine⟨_,?_,hs.trans (.ak h4),i+1,abh,rfl,?_,?_,?_,?_,?_⟩
   ·omega
   all_goals simp only[go_sem,r1,r8,r9,hsn]
  ·have hge:i=l.length:=by grind
   exact agv
def Me(t:fU):Prop:=t.length≤1000000∧∀x∈t,x.length≤1000000∧∀l∈x,l.length≤1000000
theorem KL(t:fU)(ht:Me t)(gs:List bk)(hf:qY gs)(h:Heap):ai Tryz.prog 210 [aU t,bH gs] h fun r h' =>r= .i (mb gs t:Nat)∧h' =h:=by
 have hat:=fun(l:List bO) (hl:l.length≤1000000) (G:Heap)=>Mp l hl gs hf G
 simp only[iF,bH]at hat;have htl:=ht.1;refine abg Tryz.func210 34 [.tmp 4] fun hwf=>?_
 simp only[go_sem,aU,bH,aa7];refine .intro (fun q ρ G=>Ab.Sub h G∧∃i:Nat,i≤t.length∧q=t.length - i∧lk ρ 1=some (.sl (gs.map kG) .no)∧lk ρ 5=some (.i (mb gs (t.take i):Nat))∧lk ρ 11=some (.sl (t.map cO) .no)∧lk ρ 12=some (.i t.length)∧lk ρ 13=some (.i i)) t.length ?_ ?_
 ·exact agN
 ·rintro q ρ G ⟨hs,i,hi,rfl,r1,r5,r11,r12,r13⟩
  simp only[go_sem,r12,r13];refine .intro (fun e=>?_) (fun e=>?_)
  ·have hlt:i<t.length:=abe e
   have w1:IntKind.i64.wrap ((i:Int)+1)=((i+1:Nat):Int):=abv;have hsn:mb gs (t.take (i+1))=min (mb gs (t.take i)) (ze gs t[i]):=by
    grind [mb,List.take_succ_eq_append_getElem]
   have ix:=fun k=>fD.eq (xs:=t.map cO) (sz:=1) i abi aby k
   rw[aa8]at ix;obtain⟨hx1,hx2⟩:=ht.2 t[i] (abc hlt);obtain⟨x,ex⟩:∃x,t[i]=x:=⟨_,rfl⟩;rw[ex]at ix hsn hx1 hx2;simp only[cO]at ix;simp only[go_sem,r11,r13,ix,aa7];refine .intro (fun q ρ' K=>Ab.Sub h K∧∃n:Nat,n≤x.length∧q=x.length - n∧lk ρ' 1=some (.sl (gs.map kG) .no)∧lk ρ' 5=some (.i (mb gs (t.take i):Nat))∧lk ρ' 8=some (.i (ze gs (x.take n):Nat))∧lk ρ' 11=some (.sl (t.map cO) .no)∧lk ρ' 12=some (.i t.length)∧lk ρ' 13=some (.i i)∧lk ρ' 17=some (.sl (x.map iF) .no)∧lk ρ' 18=some (.i x.length)∧lk ρ' 19=some (.i n)) x.length ?_ ?_
   ·refine⟨hs,0,abh,rfl,?_,?_,?_,?_,?_,?_,?_,?_,?_⟩<;>simp only[go_sem,r1,r5,r11,r12,r13]
    rfl
   ·rintro q ρ' K ⟨hs',n,hn,rfl,s1,s5,s8,s11,s12,s13,s17,s18,s19⟩
    simp only[go_sem,s18,s19];refine .intro (fun e=>?_) (fun e=>?_)
    ·have hlt2:n<x.length:=abe e
     have w2:IntKind.i64.wrap ((n:Int)+1)=((n+1:Nat):Int):=abv;have hsn2:ze gs (x.take (n+1))=max (ze gs (x.take n)) (B2 gs x[n]):=by
      grind [ze,List.take_succ_eq_append_getElem]
     have ix2:=fun k=>fD.eq (xs:=x.map iF) (sz:=1) n abi aby k
     rw[aa8]at ix2;have hx3:=hx2 x[n] (abc hlt2);obtain⟨l,el⟩:∃l,x[n]=l:=⟨_,rfl⟩;rw[el]at ix2 hsn2 hx3;simp only[iF]at ix2;simp only[go_sem,s1,s8,s17,s19,ix2];refine(hat l hx3 _).pthen ?_;simp only[go_sem,s19,Nc,w2];refine⟨_,?_,hs',n+1,abh,rfl,?_,?_,?_,?_,?_,?_,?_,?_,?_⟩
     ·omega
     all_goals simp only[go_sem,s1,s5,s11,s12,s13,s17,s18,hsn2]
    ·have hge:n=x.length:=by grind
     subst hge;rw[List.take_length]at s8;simp only[go_sem,s5,s8,s13,Gp,w1];refine⟨_,?_,hs',i+1,abh,rfl,?_,?_,?_,?_,?_⟩
     ·omega
     all_goals simp only[go_sem,s1,s11,s12,hsn]
  ·have hge:i=t.length:=by grind
   exact agv
end Go.Proofs.YtcochaoekecfdaaGreatDoor
namespace Go.Bf
open Go Go.Ab Go.Proofs.YtcochaoekecfdaaGreatDoor
def zm(o:Bool)(n:Int):AV:=if o then .tup [.i 0,.i 3]else .tup [.i (w64 n),.i 0]
def qI(r:bA×Int):AV:=.tup [aR r.1,.i r.2]
end Go.Bf
namespace Go.Proofs.YtcochaoekecfdaaGreatDoor
open Go Go.Ab Go.Bf
theorem Pe(a b:Int)(h:Heap):ai Tryz.prog 325 [.i a,.i b] h fun r h' =>r=zm (Jw a b) (a+b)∧h' =h:=by
 refine abg Tryz.func325 27 [.tmp 4,.tmp 5] fun hwf=>?_
 cases d1:decide (0<b)<;>cases d2:decide (IntKind.i64.wrap (9223372036854775807 - b)<a)<;>cases d3:decide (b<0)<;>cases d4:decide (a<IntKind.i64.wrap (-9223372036854775808 - b))
 all_goals
  simp -implicitDefEqProofs only[go_sem,d1,d2,d3,d4];exact .same (.refl _) ⟨by simp only[zm,Jw,w64,d1,d2,d3,d4];rfl,rfl⟩
theorem QH(a b:Int)(h:Heap):ai Tryz.prog 326 [.i a,.i b] h fun r h' =>r=zm (LF a b) (a - b)∧h' =h:=by
 refine abg Tryz.func326 27 [.tmp 4,.tmp 5] fun hwf=>?_
 cases d1:decide (0<b)<;>cases d2:decide (a<IntKind.i64.wrap (-9223372036854775808+b))<;>cases d3:decide (b<0)<;>cases d4:decide (IntKind.i64.wrap (9223372036854775807+b)<a)
 all_goals
  simp -implicitDefEqProofs only[go_sem,d1,d2,d3,d4];exact .same (.refl _) ⟨by simp only[zm,LF,w64,d1,d2,d3,d4];rfl,rfl⟩
theorem Qi(a b:Int)(h:Heap):ai Tryz.prog 327 [.i a,.i b] h fun r h' =>r=zm (Ix a b) (a*b)∧h' =h:=by
 refine abg Tryz.func327 36 [.tmp 4,.tmp 5] fun hwf=>?_
 cases d0:(a !=0)
 ·have e0:a=0:=by grind
  subst e0;cases d1:(b== -1)
  all_goals
   simp -implicitDefEqProofs only[go_sem,d1];exact .same (.refl _) ⟨by simp[zm,Ix,w64,au],rfl⟩
 have e0:a≠0:=abi;cases d1:(a== -1)<;>cases d2:(b== -9223372036854775808)<;>cases d3:(b== -1)<;>cases d4:(a== -9223372036854775808)<;>cases d5:(IntKind.i64.wrap ((IntKind.i64.wrap (a*b)).tdiv a) !=b)
 all_goals
  simp -implicitDefEqProofs only[go_sem,d0,d1,d2,d3,d4,d5,e0];exact .same (.refl _) ⟨by simp only[zm,Ix,w64,d0,d1,d2,d3,d4,d5];rfl,rfl⟩
theorem AN(b:Bool)(h:Heap):ai Tryz.prog 323 [.b b] h fun r h' =>r=aR (dJ b)∧h' =h:=by
 refine abg Tryz.func323 8 [.cell 2 30] fun hwf=>?_
 simp -implicitDefEqProofs only[go_sem];intro i1 h1;simp -implicitDefEqProofs only[go_sem];intro i2 h2;have n21:=aH h2;have n2:=aB h2;cases b
 all_goals
  simp -implicitDefEqProofs only[go_sem,aj,n21.symm];exact .mk _ (.refl _) ((((Sub.refl h).put h1 _).put n2 _).put h1 _) ⟨rfl,rfl⟩
theorem A8(kind:Int)(l:List bA)(hl:l.length≤1000000)(p:Perm)(h:Heap):ai Tryz.prog 328 [.i kind,.sl (l.map aR) p] h fun r h' =>r= .b (l.all fun v=>v.kind==kind)∧h' =h:=by
 refine abg Tryz.func328 18 [.tmp 4] fun hwf=>?_
 simp -implicitDefEqProofs only[go_sem,aa7];refine .intro (fun q ρ G=>Ab.Sub h G∧∃i:Nat,i≤l.length∧q=l.length - i∧(∀j (hj:j<i) (h2:j<l.length),(l[j].kind==kind)=true)∧lk ρ 0=some (.i kind)∧lk ρ 7=some (.sl (l.map aR) p)∧lk ρ 8=some (.i l.length)∧lk ρ 9=some (.i i)) l.length ?_ ?_
 ·refine⟨.refl _,0,abh,rfl,fun j hj=>abh,?_,?_,?_,?_⟩<;>simp -implicitDefEqProofs only[go_sem]
 ·rintro q ρ G ⟨hs,i,hi,rfl,hc,r0,r7,r8,r9⟩
  simp -implicitDefEqProofs only[go_sem,r8,r9];refine .intro (fun e=>?_) (fun e=>?_)
  ·have hlt:i<l.length:=abe e
   have w1:IntKind.i64.wrap ((i:Int)+1)=((i+1:Nat):Int):=abv;have ix:=fun k=>fD.eq (xs:=l.map aR) (sz:=3) i abi aby k
   rw[aa8]at ix;have hci:=fun(d:(l[i].kind==kind)=true)=>(fun j (hj:j<i+1) (h2:j<l.length)=>(by
    grind:(l[j].kind==kind)=true))
   have hat:=fun(d:(l[i].kind==kind)=false)=>(List.all_eq_false.2 ⟨l[i],abc hlt,abi⟩:(l.all fun v=>v.kind==kind)=false)
   obtain⟨v,ev⟩:∃v,l[i]=v:=⟨_,rfl⟩;rw[ev]at ix hci hat;simp only[aR]at ix;cases d1:(v.kind==kind)
   ·have d2:(v.kind !=kind)=true:=by grind
    simp -implicitDefEqProofs only[go_sem,r7,r9,ix];intro i4 h4;simp -implicitDefEqProofs only[go_sem,r0,d2];exact .mk _ (.refl _) (hs.trans (.ak h4)) ⟨afg,rfl⟩
   ·have d2:(v.kind !=kind)=false:=by grind
    simp -implicitDefEqProofs only[go_sem,r7,r9,ix];intro i4 h4;simp -implicitDefEqProofs only[go_sem,r0,r9,d2,w1];refine⟨_,?_,hs.trans (.ak h4),i+1,abh,rfl,hci d1,?_,?_,?_,?_⟩
    ·omega
    all_goals simp -implicitDefEqProofs only[go_sem,r0,r7,r8]
  ·have hge:i=l.length:=by grind
   simp -implicitDefEqProofs only[go_sem];exact .mk _ (.refl _) hs ⟨by rw[List.all_eq_true.2 fun x hx=>adZ];rfl,rfl⟩
theorem E8(g:FuncId)(a b:bA)(o:Bool)(n:Int)(hg:∀G,ai Tryz.prog g [.i a.n,.i b.n] G fun r h' =>r=zm o n∧h' =G)(p:Perm)(h:Heap):
  ai Tryz.prog 324 [.fn g [],.sl [aR a,aR b] p] h fun r h' =>r=qI (if([a,b].all fun v=>v.kind==2)then zn o n else nc 2)∧h' =h:=by
 have ix0:=fun k=>fD.eq (xs:=[aR a,aR b]) (sz:=3) 0 abp rfl k
 have ix1:=fun k=>fD.eq (xs:=[aR a,aR b]) (sz:=3) 1 abp rfl k
 simp only[List.getElem_cons_zero,List.getElem_cons_succ,aR,Int.natCast_zero,Int.natCast_one]at ix0 ix1;have hal:=fun(G:Heap)=>A8 2 [a,b] abp p G
 simp only[List.map_cons,List.map_nil,aR]at hal;refine abg Tryz.func324 31 [.cell 4 30,.tmp 5] fun hwf=>?_
 simp -implicitDefEqProofs only[go_sem,aR];intro i1 h1;simp -implicitDefEqProofs only[go_sem];refine(hal _).pthen ?_;cases d1:([a,b].all fun v=>v.kind==2)
 ·simp -implicitDefEqProofs only[go_sem]
  exact abz
 ·simp -implicitDefEqProofs only[go_sem]
  refine .quiet abl ?_;simp -implicitDefEqProofs only[go_sem,ix0,ix1];cases o
  ·refine⟨_,hg _,?_⟩
   simp -implicitDefEqProofs only[go_sem,zm];exact abz
  ·refine⟨_,hg _,?_⟩
   simp -implicitDefEqProofs only[go_sem,zm];exact abz
theorem wF{α:Type}{l:List α}(h:l.length=2):∃a b,l= [a,b]:=by
 match l,h with
 | [a,b],_=>exact⟨a,b,rfl⟩
def E1(op:Int)(l:List bA):Bool:= !(decide (op<6)||decide (13<op)||(l.length:Int) !=(if op==11 then 1 else 2)) && l.all bE
theorem Qf(op:Int)(l:List bA)(hl:l.length≤1000000)(p:Perm)(h:Heap):ai Tryz.prog 322 [.i op,.sl (l.map aR) p] h fun r h' =>r= .b (E1 op l)∧h' =h:=by
 have hvr:=fun(v:bA) (G:Heap)=>fX v G
 simp only[aR]at hvr;refine abg Tryz.func322 32 [.tmp 4] fun hwf=>?_
 cases d11:(op==11)
 all_goals
  have hmm:E1 op l=(!(decide (op<6)||decide (13<op)||(l.length:Int) !=(if op==11 then 1 else 2)) && l.all bE):=rfl
  rw[d11]at hmm;simp only[if_true,Bool.false_eq_true,if_false]at hmm;cases d6:decide (op<6)
  case true=>
   rw[d6]at hmm;simp -implicitDefEqProofs only[go_sem,d11,d6];exact .same (.refl _) ⟨by rw[hmm];rfl,rfl⟩
  cases d13:decide (13<op)
  case true=>
   rw[d6,d13]at hmm;simp -implicitDefEqProofs only[go_sem,d11,d6,d13];exact .same (.refl _) ⟨by rw[hmm];rfl,rfl⟩
  rw[d6,d13]at hmm;simp only[Bool.or_false,Bool.false_or]at hmm;obtain⟨b,eb⟩:∃b,((l.length:Int) !=(if op==11 then 1 else 2))=b:=⟨_,rfl⟩
  rw[d11]at eb;simp only[if_true,Bool.false_eq_true,if_false]at eb;rw[eb]at hmm;cases b
  case true=>
   simp -implicitDefEqProofs only[go_sem,d11,d6,d13,aa7,eb];exact .same (.refl _) ⟨by rw[hmm];rfl,rfl⟩
  simp only[Bool.not_false,Bool.true_and]at hmm;simp -implicitDefEqProofs only[go_sem,d11,d6,d13,aa7,eb];refine .intro (fun q ρ G=>Ab.Sub h G∧∃i:Nat,i≤l.length∧q=l.length - i∧(∀j (hj:j<i) (h2:j<l.length),bE l[j]=true)∧lk ρ 22=some (.sl (l.map aR) p)∧lk ρ 23=some (.i l.length)∧lk ρ 24=some (.i i)) l.length ?_ ?_
  ·refine⟨.refl _,0,abh,rfl,fun j hj=>abh,?_,?_,?_⟩<;>simp -implicitDefEqProofs only[go_sem]
  ·rintro q ρ G ⟨hs,i,hi,rfl,hc,r22,r23,r24⟩
   simp -implicitDefEqProofs only[go_sem,r23,r24];refine .intro (fun e=>?_) (fun e=>?_)
   ·have hlt:i<l.length:=abe e
    have w1:IntKind.i64.wrap ((i:Int)+1)=((i+1:Nat):Int):=abv;have ix:=fun k=>fD.eq (xs:=l.map aR) (sz:=3) i abi aby k
    rw[aa8]at ix;have hci:=fun(d:bE l[i]=true)=>(fun j (hj:j<i+1) (h2:j<l.length)=>(by
     grind:bE l[j]=true))
    have hat:=fun(d:bE l[i]=false)=>(List.all_eq_false.2 ⟨l[i],abc hlt,abi⟩:l.all bE=false)
    obtain⟨v,ev⟩:∃v,l[i]=v:=⟨_,rfl⟩;rw[ev]at ix hci hat;simp only[aR]at ix;simp -implicitDefEqProofs only[go_sem,r22,r24,ix];intro i4 h4;simp -implicitDefEqProofs only[go_sem];refine(hvr v _).pthen ?_;cases d1:bE v
    ·simp -implicitDefEqProofs only[go_sem]
     exact .mk _ (.refl _) (hs.trans (.ak h4)) ⟨by rw[hmm,hat d1];rfl,rfl⟩
    ·simp -implicitDefEqProofs only[go_sem,r24,w1]
     refine⟨_,?_,hs.trans (.ak h4),i+1,abh,rfl,hci d1,?_,?_,?_⟩
     ·omega
     all_goals simp -implicitDefEqProofs only[go_sem,r22,r23]
   ·have hge:i=l.length:=by grind
    simp -implicitDefEqProofs only[go_sem];exact .mk _ (.refl _) hs ⟨by rw[hmm,List.all_eq_true.2 fun x hx=>adZ];rfl,rfl⟩
theorem JQ{op:Int}{l:List bA}(h:E1 op l=false):gG op l=nc 1:=by
 unfold gG;rw[if_pos]
 by_cases h1:6≤op∧op≤13
 ·by_cases h2:l.length=if op=11 then 1 else 2
  ·refine .inr (.inr ?_)
   unfold E1 at h
   grind
  omega
 omega
theorem Hr{op:Int}{l:List bA}(h:E1 op l=true):(6≤op∧op≤13)∧l.all bE=true∧(op=11∧(∃a,l= [a])∨op≠11∧∃a b,l= [a,b]):=by
 unfold E1 at h;simp only[Bool.and_eq_true,Bool.not_eq_true',Bool.or_eq_false_iff,decide_eq_false_iff_not]at h;obtain⟨⟨⟨h1,h2⟩,h3⟩,h4⟩:=h;refine⟨abh,h4,?_⟩
 by_cases e:op=11
 ·subst e
  have h3' :(l.length:Int)=1:=abi;exact .inl ⟨rfl,List.length_eq_one_iff.1 abh⟩
 ·have h3' :(l.length:Int)=2:=by grind
  exact .inr ⟨e,wF abh⟩
theorem Bb(op:Int)(l:List bA)(hl:l.length≤1000000)(p:Perm)(h:Heap):ai Tryz.prog 319 [.i op,.sl (l.map aR) p] h fun r h' =>r=qI (gG op l)∧h' =h:=by
 have hmy:=fun G=>Qf op l hl p G
 cases dm:E1 op l
 ·rw[dm]at hmy
  refine abg Tryz.func319 111 [.cell 4 30,.tmp 5] fun hwf=>?_
  simp -implicitDefEqProofs only[go_sem];intro i1 h1;simp -implicitDefEqProofs only[go_sem];refine(hmy _).pthen ?_;simp -implicitDefEqProofs only[go_sem];exact .mk _ (.refl _) (.ak h1) ⟨by rw[JQ dm];rfl,rfl⟩
 rw[dm]at hmy;obtain⟨hop,hall,hf⟩:=Hr dm;rcases hf with⟨rfl,a,rfl⟩|⟨e11,a,b,rfl⟩
 ·have ix0:=fun k=>fD.eq (xs:=[aR a]) (sz:=3) 0 abp rfl k
  simp only[List.getElem_cons_zero,aR,Int.natCast_zero]at ix0;have hal:=fun(G:Heap)=>A8 1 [a] abp p G
  simp only[List.map_cons,List.map_nil,aR]at hal hmy;have hc:gG 11 [a]=if(([a].all fun v=>v.kind==1)=false)then nc 2 else(dJ (a.n==0),0):=by
   unfold gG;rw[if_neg (by simp[hall])]
   simp
  have htr:=fun G=>AN (a.n==0) G
  refine abg Tryz.func319 111 [.cell 4 30,.tmp 5] fun hwf=>?_
  simp -implicitDefEqProofs only[go_sem,List.map_cons,List.map_nil,aR];intro i1 h1;simp -implicitDefEqProofs only[go_sem];refine(hmy _).pthen ?_;simp -implicitDefEqProofs only[go_sem];refine(hal _).pthen ?_;cases d1:([a].all fun v=>v.kind==1)
  ·simp -implicitDefEqProofs only[go_sem]
   exact .mk _ (.refl _) (.ak h1) ⟨by rw[hc,if_pos d1];rfl,rfl⟩
  ·simp -implicitDefEqProofs only[go_sem,ix0]
   refine(htr _).pthen ?_;simp -implicitDefEqProofs only[go_sem,aR];exact .mk _ (.refl _) (.ak h1) ⟨by rw[hc,if_neg (by rw[d1];decide)];rfl,rfl⟩
 ·have ix0:=fun k=>fD.eq (xs:=[aR a,aR b]) (sz:=3) 0 abp rfl k
  have ix1:=fun k=>fD.eq (xs:=[aR a,aR b]) (sz:=3) 1 abp rfl k
  simp only[List.getElem_cons_zero,List.getElem_cons_succ,aR,Int.natCast_zero,Int.natCast_one]at ix0 ix1;have hal:=fun(G:Heap)=>A8 1 [a,b] abp p G
  have hva:bE a=true∧bE b=true:=by simpa using hall
  have hnu:=fun(g:FuncId) (o:Bool) (n:Int) hg (G:Heap)=>E8 g a b o n hg p G
  simp only[List.map_cons,List.map_nil,aR]at hal hmy hnu;have hle:=fun G=>Bw a b G
  simp only[aR]at hle;have htr:=fun(x:Bool) G=>AN x G
  have hc:gG op [a,b]=if op=6 then(if a.kind=b.kind then(dJ (eqV a b),0)else nc 2)
    else if op=7 then(match mJ a b with
     |some x=>(dJ x,0)
     |none=>nc 2)
    else if op=8∨op=9∨op=10 then
     (if [a,b].all fun v=>v.kind==2 then(if op=8 then zn (Jw a.n b.n) (a.n+b.n)else if op=9 then zn (LF a.n b.n) (a.n - b.n)else zn (Ix a.n b.n) (a.n*b.n))else nc 2)
    else if([a,b].all fun v=>v.kind==1)=false then nc 2
    else if op=12 then(dJ (a.n==1 && b.n==1),0)
    else(dJ (a.n==1||b.n==1),0):=by
   unfold gG;rw[if_neg (by simp[hall,e11,hop.1,hop.2])]
   simp only[e11,if_false];rfl
  refine abg Tryz.func319 111 [.cell 4 30,.tmp 5] fun hwf=>?_
  simp -implicitDefEqProofs only[go_sem,List.map_cons,List.map_nil,aR];intro i1 h1;simp -implicitDefEqProofs only[go_sem];refine(hmy _).pthen ?_;rcases(show op=6∨op=7∨op=8∨op=9∨op=10∨op=12∨op=13 by omega)with rfl|rfl|rfl|rfl|rfl|rfl|rfl
  ·simp -implicitDefEqProofs only[go_sem]
   refine⟨.of abl,?_⟩;cases dk:(a.kind !=b.kind)
   case true=>
    simp -implicitDefEqProofs only[go_sem,ix0,ix1,dk];exact .mk _ (.refl _) (.ak h1) ⟨by rw[hc,if_pos rfl,if_neg (by simpa using dk)];rfl,rfl⟩
   ·simp -implicitDefEqProofs only[go_sem,ix0,ix1,dk]
    refine .calls cF [0,1,2,3,4,5,6,7,8,9] (fun _ _ e=>abI) abl rfl ?_
    simp -implicitDefEqProofs only[go_sem,ix0,ix1];have htr1:=htr (eqV a b);simp only[eqV]at htr1;refine(htr1 _).pthen ?_;refine⟨fun _ _ e=>abI,?_⟩
    simp -implicitDefEqProofs only[go_sem,aR];refine⟨fun _ _ e=>abI,?_⟩
    exact .mk _ (.refl _) (.ak h1) ⟨by rw[hc,if_pos rfl,if_pos (by simpa using dk)];rfl,rfl⟩
  ·have hc7:gG 7 [a,b]=(match mJ a b with
     |some x=>(dJ x,0)
     |none=>nc 2):=by rw[hc];rfl
   simp -implicitDefEqProofs only[go_sem];refine .quiet abl ?_;simp -implicitDefEqProofs only[go_sem,ix0,ix1];refine⟨_,hle _,?_⟩;cases hl:mJ a b with
   |none=>
    have e2:xU a b=2:=by simp[xU,hva]
    rw[hl]at hc7;simp -implicitDefEqProofs only[go_sem,kI,hl,e2];exact .mk _ (.refl _) (.ak h1) ⟨by rw[hc7];rfl,rfl⟩
   |some x=>
    rw[hl]at hc7;simp -implicitDefEqProofs only[go_sem,kI,hl];refine(htr x _).pthen ?_;simp -implicitDefEqProofs only[go_sem,aR];exact .mk _ (.refl _) (.ak h1) ⟨by rw[hc7];rfl,rfl⟩
  ·have hc8:gG 8 [a,b]=if [a,b].all (fun v=>v.kind==2)then zn (Jw a.n b.n) (a.n+b.n)else nc 2:=by rw[hc];rfl
   have hg:=hnu 325 _ _ (fun G=>Pe a.n b.n G)
   rw[←hc8]at hg;obtain⟨⟨v,e⟩,ex⟩:∃x,gG 8 [a,b]=x:=⟨_,rfl⟩;exact afH
  ·have hc8:gG 9 [a,b]=if [a,b].all (fun v=>v.kind==2)then zn (LF a.n b.n) (a.n - b.n)else nc 2:=by rw[hc];rfl
   have hg:=hnu 326 _ _ (fun G=>QH a.n b.n G)
   rw[←hc8]at hg;obtain⟨⟨v,e⟩,ex⟩:∃x,gG 9 [a,b]=x:=⟨_,rfl⟩;exact afH
  ·have hc8:gG 10 [a,b]=if [a,b].all (fun v=>v.kind==2)then zn (Ix a.n b.n) (a.n*b.n)else nc 2:=by rw[hc];rfl
   have hg:=hnu 327 _ _ (fun G=>Qi a.n b.n G)
   rw[←hc8]at hg;obtain⟨⟨v,e⟩,ex⟩:∃x,gG 10 [a,b]=x:=⟨_,rfl⟩;exact afH
  ·have hc12:gG 12 [a,b]=if([a,b].all fun v=>v.kind==1)=false then nc 2 else(dJ (a.n==1 && b.n==1),0):=by rw[hc];rfl
   simp -implicitDefEqProofs only[go_sem];refine(hal _).pthen ?_;cases d1:([a,b].all fun v=>v.kind==1)
   ·simp -implicitDefEqProofs only[go_sem]
    exact .mk _ (.refl _) (.ak h1) ⟨by rw[hc12,if_pos d1];rfl,rfl⟩
   ·rw[if_neg (by rw[d1];decide)]at hc12
    cases da:(a.n==1)<;>cases db:(b.n==1)
    all_goals
     rw[da,db]at hc12;simp -implicitDefEqProofs only[go_sem,ix0,ix1,da,db];refine(htr _ _).pthen ?_;simp -implicitDefEqProofs only[go_sem,aR];exact .mk _ (.refl _) (.ak h1) ⟨by rw[hc12];rfl,rfl⟩
  ·have hc13:gG 13 [a,b]=if([a,b].all fun v=>v.kind==1)=false then nc 2 else(dJ (a.n==1||b.n==1),0):=by rw[hc];rfl
   simp -implicitDefEqProofs only[go_sem];refine(hal _).pthen ?_;cases d1:([a,b].all fun v=>v.kind==1)
   ·simp -implicitDefEqProofs only[go_sem]
    exact .mk _ (.refl _) (.ak h1) ⟨by rw[hc13,if_pos d1];rfl,rfl⟩
   ·rw[if_neg (by rw[d1];decide)]at hc13
    cases da:(a.n==1)<;>cases db:(b.n==1)
    all_goals
     rw[da,db]at hc13;simp -implicitDefEqProofs only[go_sem,ix0,ix1,da,db];refine(htr _ _).pthen ?_;simp -implicitDefEqProofs only[go_sem,aR];exact .mk _ (.refl _) (.ak h1) ⟨by rw[hc13];rfl,rfl⟩
end Go.Proofs.YtcochaoekecfdaaGreatDoor
namespace Go.Bf
open Go Go.Ab Go.Proofs.YtcochaoekecfdaaGreatDoor
def bN(x:jc):AV:=.agg [.sl (x.bag.map aR) .no,.i x.v.kind,.i x.v.n,.s x.v.s,.i x.e]
end Go.Bf
namespace Go.Proofs.YtcochaoekecfdaaGreatDoor
open Go Go.Ab Go.Bf
theorem P4(x:jc)(n:Int)(h:Heap):ai Tryz.prog 274 [bN x,.i n] h fun r h' =>r= .b (isI x n)∧h' =h:=by
 refine abg Tryz.func274 15 [.tmp 4] fun hwf=>?_
 simp only[go_sem,bN];exact afO
theorem MS(x:jc)(n:Int)(h:Heap):ai Tryz.prog 274 [.agg [.sl [] .full,.i x.v.kind,.i x.v.n,.s x.v.s,.i x.e],.i n] h fun r h' =>r= .b (isI x n)∧h' =h:=by
 refine abg Tryz.func274 15 [.tmp 4] fun hwf=>?_
 simp only[go_sem];exact afO
theorem uW(b:Bool)(h:Heap):ai Tryz.prog 317 [.b b] h fun r h' =>r=bN (iJ b)∧h' =h:=by
 refine abg Tryz.func317 10 [.cell 2 364] fun hwf=>?_
 simp only[go_sem];intro i1 h1;simp only[go_sem];intro i2 h2;have n21:=aH h2;have n2:=aB h2;cases b
 all_goals
  simp only[go_sem,aj,n21.symm];refine .mk (bN (iJ _)) ?_ ((((Sub.refl h).put h1 _).put n2 _).put h1 _) ⟨rfl,rfl⟩;refine .agg _ _ rfl fun i a b=>?_
  rcases i with _|_|_|_|_|i
  ·exact adV
  all_goals first|exact .refl _|(simp at a;omega)
theorem Ex(op:Int)(h:Heap):ai Tryz.prog 301 [.i op] h fun r h' =>r= .i (opsOf op:Nat)∧h' =h:=by
 refine abg Tryz.func301 11 [.tmp 2] fun hwf=>?_
 cases d1:(op==1)
 case true=>simp only[go_sem,d1];exact .same (.refl _) ⟨by rw[opsOf,if_pos (.inl abi)];rfl,rfl⟩
 cases d2:(op==2)
 case true=>simp only[go_sem,d1,d2];exact .same (.refl _) ⟨by rw[opsOf,if_pos (.inr abi)];rfl,rfl⟩
 have e1:¬(op=1∨op=2):=abi;cases d3:(op==3)
 case true=>simp only[go_sem,d1,d2,d3];exact .same (.refl _) ⟨by rw[opsOf,if_neg e1,if_pos (.inl abi)];rfl,rfl⟩
 cases d4:(op==4)
 case true=>simp only[go_sem,d1,d2,d3,d4];exact .same (.refl _) ⟨by rw[opsOf,if_neg e1,if_pos (.inr (.inl abi))];rfl,rfl⟩
 cases d5:(op==11)
 case true=>simp only[go_sem,d1,d2,d3,d4,d5];exact .same (.refl _) ⟨by rw[opsOf,if_neg e1,if_pos (.inr (.inr abi))];rfl,rfl⟩
 have e2:¬(op=3∨op=4∨op=11):=abi;simp only[go_sem,d1,d2,d3,d4,d5];exact .same (.refl _) ⟨by rw[opsOf,if_neg e1,if_neg e2];rfl,rfl⟩
theorem EW(vs:List bA)(hl:vs.length≤1000000000)(x:bA)(p:Perm)(h:Heap):
  ai Tryz.prog 329 [.sl (vs.map aR) p,aR x] h fun r h' =>r= .i (ixD (fun y=>eqV x y) vs)∧h' =h:=by
 refine abg Tryz.func329 19 [.tmp 4] fun hwf=>?_
 simp only[go_sem,aR];intro i1 h1;simp only[go_sem,aa7];refine .intro (fun m ρ G=>G=upd h i1 (some (.obj [.i x.kind,.i x.n,.s x.s] 30))∧∃i:Nat,i≤vs.length∧m=vs.length - i∧(∀j (hj:j<i) (h2:j<vs.length),eqV x vs[j]=false)∧lk ρ 0=some (.sl (vs.map aR) p)∧lk ρ 3=some (.ptr i1 0)∧lk ρ 7=some (.i vs.length)∧lk ρ 8=some (.i i)) vs.length ?_ ?_
 ·refine⟨rfl,0,abh,rfl,fun j hj=>abh,?_,?_,?_,?_⟩<;>simp only[go_sem]
 ·rintro m ρ G ⟨rfl,i,hi,rfl,hc,r0,r3,r7,r8⟩
  simp only[go_sem,r7,r8];refine .intro (fun e=>?_) (fun e=>?_)
  ·have hlt:i<vs.length:=abe e
   have w1:IntKind.i64.wrap ((i:Int)+1)=((i+1:Nat):Int):=abv;have ix:=fun k=>fD.eq (xs:=vs.map aR) (sz:=3) i abi aby k
   rw[aa8]at ix;have hci:=fun(d:eqV x vs[i]=false)=>(fun j (hj:j<i+1) (h2:j<vs.length)=>(by
    grind:eqV x vs[j]=false))
   have hat:=fun(d:eqV x vs[i]=true)=>nh (q:=fun y=>eqV x y) hlt d fun j hj=>hc j hj abh
   obtain⟨v,ev⟩:∃v,vs[i]=v:=⟨_,rfl⟩;rw[ev]at ix hci hat;simp only[aR]at ix;simp only[go_sem,r0,r3,r8];refine⟨.of abl,?_⟩;cases d1:eqV x v
   ·have d2:=d1
    simp only[eqV]at d2;simp only[go_sem,r8,ix,d2,w1];refine⟨_,?_,rfl,i+1,abh,rfl,hci d1,?_,?_,?_,?_⟩
    ·omega
    all_goals simp only[go_sem,r0,r3,r7]
   ·have d2:=d1
    simp only[eqV]at d2;simp only[go_sem,ix,d2];exact .mk _ (.refl _) (.ak h1) ⟨afg,rfl⟩
  ·have hge:i=vs.length:=by grind
   simp only[go_sem];exact .mk _ (.refl _) (.ak h1) ⟨abK,rfl⟩
theorem Mq{vs:List bA}{x:bA}:decide ((0:Int)≤ixD (fun y=>eqV x y) vs)=vs.any fun v=>eqV v x:=by
 have hsy:(fun v=>eqV v x)=fun v=>eqV x v:=by simp[funext,eqV,BEq.comm]
 rw[tY,hsy]
theorem NU(vs:List bA)(hl:vs.length≤1000000000)(x:bA)(p:Perm)(h:Heap):ai Tryz.prog 318 [.sl (vs.map aR) p,aR x] h fun r h' =>r= .b (vs.any fun v=>eqV v x)∧h' =h:=by
 have h1:∀G,ai Tryz.prog 321 [.sl (vs.map aR) p,aR x] G fun r h' =>r= .b (vs.any fun v=>eqV v x)∧h' =G:=fun G=>by
  have hq:=fun K=>EW vs hl x p K
  refine abg Tryz.func321 9 [.tmp 4] fun hwf=>?_
  simp only[go_sem,aR];intro i1 h1;simp only[go_sem];refine(hq _).pthen ?_;simp only[go_sem,Mq];exact abz
 refine abg Tryz.func318 8 [.tmp 4] fun hwf=>?_
 simp only[go_sem,aR];intro i1 h1';simp only[go_sem];refine(h1 _).pthen ?_;simp only[go_sem];exact .mk _ (.refl _) (.ak h1') ⟨rfl,rfl⟩
theorem kH{L:List AV}{x:jc}(hL:L=x.bag.map aR)(q:Perm):Weak (.agg [.sl L q,.i x.v.kind,.i x.v.n,.s x.v.s,.i x.e]) (bN x):=by
 subst hL;refine .agg _ _ rfl fun i a b=>?_
 rcases i with _|_|_|_|_|i
 ·exact adV
 all_goals first|exact .refl _|(simp at a;omega)
theorem tf(op:Int):opsOf op≤2:=by
 grind [opsOf]
theorem uy{gs:List bk}{op:Int}{val:bA}{attr:pF}{l:List jc}{x:jc}(h1:op≠1)(h2:op≠2)(hno:¬((op=12∨op=13)∧(l.any fun x=>isI x (op - 12))=true))(hx:l.find? (fun x=>x.e !=0)=some x):kL gs ⟨op,val,attr⟩ l=⟨[],ax,x.e⟩:=by
 simp_all [kL,if_neg]
theorem ux{gs:List bk}{op:Int}{val:bA}{attr:pF}{l:List jc}(h1:op≠1)(h2:op≠2)(hno:¬((op=12∨op=13)∧(l.any fun x=>isI x (op - 12))=true))(hx:l.find? (fun x=>x.e !=0)=none):kL gs ⟨op,val,attr⟩ l=(if op=3 then(match (l.headD ⟨[],ax,0⟩).bag with
    | [v]=>⟨[],v,0⟩
    |_=>⟨[],ax,4⟩)
   else if op=4 then⟨[],⟨2,(l.headD ⟨[],ax,0⟩).bag.length,[]⟩,0⟩
   else if op=5 then iJ ((l.headD ⟨[],ax,0⟩).bag.any fun v=>eqV v (l.getD 1 ⟨[],ax,0⟩).v)
   else Go.Bf.zC (gG op (l.map (·.v)))):=by
 unfold kL;simp only[if_neg h1,if_neg h2,if_neg hno,hx]
 all_goals rfl
theorem Ng{h:Heap}{y:AV}(n:aO)(hop:1≤n.op∧n.op≤13)(l:List jc)(hb:Rd h 5 y (l.map bN))(hl:l.length=opsOf n.op)(hbag:∀x∈l,x.bag.length≤1000000)(gs:List bk)(hf:qY gs):
  ai Tryz.prog 302 [dF n,y,bH gs] h fun r h' =>r=bN (kL gs n l)∧h' =h:=by
 obtain⟨op,val,attr⟩:=n;simp only at hop hl;have hl2:l.length≤2:=by rw[hl];exact tf op
 have uV:(U 30).sz=3:=abq;have hg:=fun G=>Ga gs attr.cat attr.name attr.must (by have:=hf.1;omega) hf.2 G
 simp only[bH]at hg;refine abg Tryz.func302 122 [.cell 6 364] fun hwf=>?_
 simp only[go_sem,dF,bH];intro i3 h3;simp only[go_sem];intro i6 h6;have n63:=aH h6;have n6' :=aB h6;obtain⟨H0,eH⟩:∃H0,upd (upd h i3 (some (.obj [.i op,.i val.kind,.i val.n,.s val.s,.i attr.cat,.s attr.name,.b attr.must] 229))) i6 (some (.obj [.sl [] .full,.i 0,.i 0,.s [],.i 0] 364))=H0:=⟨_,rfl⟩;have hH0:Ab.Sub h H0:=aef;have g3:H0 i3=some (.obj [.i op,.i val.kind,.i val.n,.s val.s,.i attr.cat,.s attr.name,.b attr.must] 229):=by rw[←eH,ag _ _ n63.symm,ah]
 have g6:H0 i6=some (.obj [.sl [] .full,.i 0,.i 0,.s [],.i 0] 364):=acJ;rw[eH];clear eH;cases d1:(op==1)
 case true=>
  have e1:op=1:=aeg;simp only[go_sem,d1,g3,g6];exact .mk (bN ⟨[],val,0⟩) (kH (x:=⟨[],val,0⟩) rfl _) (hH0.put n6' _) ⟨by unfold kL;simp only[e1,if_true],rfl⟩
 have hp1' :op≠1:=aeg;cases d2:(op==2)
 case true=>
  have e2:op=2:=by simpa using d2
  simp only[go_sem,d1,d2,g3];refine(hg _).pthen ?_
  by_cases hh:xb gs attr= []∧attr.must=true
  ·have hh2:Go.Bf.getD gs attr.cat attr.name= []∧attr.must=true:=hh
   simp only[go_sem,HX,if_pos hh2,g6];exact .mk (bN ⟨[],ax,4⟩) (kH (x:=⟨[],ax,4⟩) rfl _) (hH0.put n6' _) ⟨by unfold kL;simp only[e2,if_neg (show¬(2:Int)=1 by decide),if_true,if_pos hh],rfl⟩
  ·have hh2:¬(Go.Bf.getD gs attr.cat attr.name= []∧attr.must=true):=hh
   simp only[go_sem,HX,if_neg hh2,g6];exact .mk (bN ⟨xb gs attr,ax,0⟩) (kH (x:=⟨xb gs attr,ax,0⟩) rfl _) (hH0.put n6' _) ⟨by unfold kL;simp only[e2,if_neg (show¬(2:Int)=1 by decide),if_true,if_neg hh],rfl⟩
 have hp2' :op≠2:=by simpa using d2
 have his:=fun(x:jc) (m:Int) (G:Heap)=>P4 x m G
 simp only[bN]at his;cases d12:(op==12)
 case true=>
  have e12:op=12:=by simpa using d12
  have htr:=fun G=>uW false G
  simp only[bN]at htr;obtain⟨a,b,hab⟩:∃a b,l= [a,b]:=wF (by rw[hl,e12];rfl)
  have wk:IntKind.i64.wrap (op - 12)=0:=adW;have han:(l.any fun x=>isI x (op - 12))=(isI a 0||isI b 0):=by rw[hab,e12];simp
  have hb0:l.map bN= [bN a,bN b]:=by rw[hab];rfl
  have q3:(op==3)=false:=adW;have q4:(op==4)=false:=adW;have q5:(op==5)=false:=adW;have hbH:=hb.sub hH0;simp only[go_sem,d2,d1,d12,g3,wk];refine hbH.idx (e:=364) 0 rfl adu abq abk fun p hp1=>?_
  have hld:=hp1.all (U:=U) (ty:=364) abq acq acq;simp only[go_sem,hld,hb0,List.getElem_cons_zero,bN];refine(his a 0 _).pthen ?_;cases da:isI a 0
  ·simp only[go_sem]
   refine hbH.idx (e:=364) 1 rfl adu abq abk fun p hp1=>?_
   have hld:=hp1.all (U:=U) (ty:=364) abq abX abX;simp only[go_sem,hld,hb0,List.getElem_cons_succ,List.getElem_cons_zero,bN];refine(his b 0 _).pthen ?_;cases db:isI b 0
   ·exact afp
   ·simp only[go_sem]
    refine(htr _).pthen ?_;simp only[go_sem,g6];exact .mk (bN (iJ false)) (kH (x:=(iJ false)) rfl _) (hH0.put n6' _) ⟨by unfold kL;rw[han,da,db];simp[e12]<;>rfl,rfl⟩
  ·simp only[go_sem]
   refine(htr _).pthen ?_;simp only[go_sem,g6];exact .mk (bN (iJ false)) (kH (x:=(iJ false)) rfl _) (hH0.put n6' _) ⟨by unfold kL;rw[han,da];simp[e12]<;>rfl,rfl⟩
 have hn12:op≠12:=by simpa using d12
 cases d13:(op==13)
 case true=>
  have e12:op=13:=by simpa using d13
  have htr:=fun G=>uW true G
  simp only[bN]at htr;obtain⟨a,b,hab⟩:∃a b,l= [a,b]:=wF (by rw[hl,e12];rfl)
  have wk:IntKind.i64.wrap (op - 12)=1:=adW;have han:(l.any fun x=>isI x (op - 12))=(isI a 1||isI b 1):=by rw[hab,e12];simp
  have hb0:l.map bN= [bN a,bN b]:=by rw[hab];rfl
  have q3:(op==3)=false:=adW;have q4:(op==4)=false:=adW;have q5:(op==5)=false:=adW;have hbH:=hb.sub hH0;simp only[go_sem,d1,d2,d12,d13,g3,wk];refine hbH.idx (e:=364) 0 rfl adu abq abk fun p hp1=>?_
  have hld:=hp1.all (U:=U) (ty:=364) abq acq acq;simp only[go_sem,hld,hb0,List.getElem_cons_zero,bN];refine(his a 1 _).pthen ?_;cases da:isI a 1
  ·simp only[go_sem]
   refine hbH.idx (e:=364) 1 rfl adu abq abk fun p hp1=>?_
   have hld:=hp1.all (U:=U) (ty:=364) abq abX abX;simp only[go_sem,hld,hb0,List.getElem_cons_succ,List.getElem_cons_zero,bN];refine(his b 1 _).pthen ?_;cases db:isI b 1
   ·exact afp
   ·simp only[go_sem]
    refine(htr _).pthen ?_;simp only[go_sem,g6];exact .mk (bN (iJ true)) (kH (x:=(iJ true)) rfl _) (hH0.put n6' _) ⟨by unfold kL;rw[han,da,db];simp[e12]<;>rfl,rfl⟩
  ·simp only[go_sem]
   refine(htr _).pthen ?_;simp only[go_sem,g6];exact .mk (bN (iJ true)) (kH (x:=(iJ true)) rfl _) (hH0.put n6' _) ⟨by unfold kL;rw[han,da];simp[e12]<;>rfl,rfl⟩
 have hn13:op≠13:=by simpa using d13
 have hno:¬((op=12∨op=13)∧(l.any fun x=>isI x (op - 12))=true):=fun hh=>hh.1.elim hn12 hn13
 simp only[go_sem,d1,d2,d12,d13,g3,hb.len,aa7];refine .intro (fun m ρ H=>∃(i:Nat) (z:AV),Acc U 30 H0 H z ((l.take i).map fun x=>aR x.v)∧i≤l.length∧m=l.length - i∧(∀j (h1:j<l.length),j<i→l[j].e=0)∧lk ρ 1=some y∧lk ρ 3=some (.ptr i3 0)∧lk ρ 6=some (.ptr i6 0)∧lk ρ 10=some z∧lk ρ 55=some y∧lk ρ 56=some (.i l.length)∧lk ρ 57=some (.i i)) l.length ?_ ?_
 ·refine⟨0,.sl [] .full,.full (.refl _),abh,rfl,fun j _ hj=>abh,?_,?_,?_,?_,?_,?_,?_⟩<;>simp only[go_sem]
 ·rintro m ρ H ⟨i,z,hz,hi,rfl,hc,r1,r3,r6,r10,r55,r56,r57⟩
  have hsH:=hH0.trans hz.1;have hbH:=hb.sub hsH;have k3:=hz.1 _ _ g3;have k6:=hz.1 _ _ g6;simp only[go_sem,r56,r57];refine .intro (fun e=>?_) (fun e=>?_)
  ·have hlt:i<l.length:=abe e
   have w1:=abd i abh;have hsn:(l.take (i+1)).map (fun x=>aR x.v)=(l.take i).map (fun x=>aR x.v)++ [aR l[i].v]:=acv
   simp only[go_sem,r55,r57];refine hbH.idx (e:=364) i rfl abH abq abk fun p hp1=>?_
   have hld:=hp1.all (U:=U) (ty:=364) abq abT abT;obtain⟨x,ex⟩:∃x,l[i]=x:=⟨_,rfl⟩;rw[ex]at hsn;simp only[go_sem,hld,aa8,ex,bN];intro i12 h12;have n126:i12≠i6:=fun e=>adk
   cases dx:(x.e !=0)
   ·have dx' :x.e=0:=by simpa using dx
    simp only[go_sem,r10,dx];refine(hz.sub (.ak h12)).app (zs:=[aR x.v]) abm abm (fun k hk=>hk) acB acP abA fun z' H' hz' kp=>?_
    simp only[go_sem,r57,w1];refine⟨_,?_,i+1,z',by rw[hsn];exact hz',abh,rfl,fun j h1 hj=>?_,?_,?_,?_,?_,?_,?_,?_⟩
    ·omega
    ·by_cases hji:j=i
     ·subst hji;rw[ex];exact dx'
     ·exact hc j h1 abh
    all_goals simp only[go_sem,r1,r3,r6,r55,r56]
   ·have hfi:l.find? (fun x=>x.e !=0)=some x:=by rw[←ex];exact List.find?_eq_some_iff_getElem.2 ⟨by rw[ex];exact dx,i,hlt,rfl,fun j hj=>aeK⟩
    simp only[go_sem,r6,dx,aj,n126.symm,k6];exact .mk (bN ⟨[],ax,x.e⟩) (kH (x:=⟨[],ax,x.e⟩) rfl _) ((hsH.trans (.ak h12)).put n6' _) ⟨aew,rfl⟩
  ·have hge:i=l.length:=by have:=aba e;omega
   subst hge;have hfi:l.find? (fun x=>x.e !=0)=none:=List.find?_eq_none.2 fun x hx=>by
    obtain⟨j,hj,rfl⟩:=List.mem_iff_getElem.1 hx;rw[hc j hj hj];decide
   have hnd:=ux (gs:=gs) (val:=val) (attr:=attr) hp1' hp2' hno hfi;rw[List.take_length]at hz;obtain⟨qz,eqz⟩:=hz.row;subst eqz;have hcl:=fun G=>Bb op (l.map (·.v)) aep qz G
   rw[List.map_map]at hcl;have hcl:∀G,ai Tryz.prog 319 [.i op,.sl (l.map fun x=>aR x.v) qz] G fun r h' =>r=qI (gG op (l.map (·.v)))∧h' =G:=hcl
   cases d3:(op==3)
   case true=>
    have e3:op=3:=ae7;obtain⟨a,ha⟩:∃a,l= [a]:=List.length_eq_one_iff.1 (by rw[hl,e3];rfl)
    have hb0:l.map bN= [bN a]:=by rw[ha];rfl
    simp only[e3,if_true,ha,List.headD_cons]at hnd;simp only[go_sem,r1,r3,k3,d3];refine hbH.idx (e:=364) 0 rfl adu abq abk fun p hp1=>?_
    (try simp only[go_sem])
    refine hp1.field (f:=0) (off:=0) (t:=193) rfl ab2 fun p2 hp2=>?_
    have hld:=hp2.part (U:=U) (ty:=193) ab2 ach;simp only[hb0,List.getElem_cons_zero,bN,AV.cells]at hld;cases db:((a.bag.length:Int) !=1)
    ·have hb1:(a.bag.length:Int)=1:=by simpa using db
     obtain⟨v,hv⟩:=List.length_eq_one_iff.1 (show a.bag.length=1 by omega)
     rw[hv]at hnd hld;have iv:=fun K=>fD.eq (xs:=[aR v]) (sz:=3) 0 abp rfl K
     simp only[List.getElem_cons_zero,aR,Int.natCast_zero]at iv;simp only[go_sem,r1,hld,List.map_cons,List.map_nil,aR];refine hbH.idx (e:=364) 0 rfl adu abq abk fun p hp1=>?_
     (try simp only[go_sem])
     refine hp1.field (f:=0) (off:=0) (t:=193) rfl ab2 fun p2 hp2=>?_
     have hld:=hp2.part (U:=U) (ty:=193) ab2 ach;simp only[hb0,List.getElem_cons_zero,bN,AV.cells,hv,List.map_cons,List.map_nil,aR]at hld;simp only[go_sem,hld,iv,r6,k6];exact .mk (bN ⟨[],v,0⟩) (kH (x:=⟨[],v,0⟩) rfl _) (hsH.put n6' _) ⟨by rw[e3,ha,hnd]<;>rfl,rfl⟩
    ·simp only[go_sem,hld,aa7,db,r6,k6]
     refine .mk (bN ⟨[],ax,4⟩) (kH (x:=⟨[],ax,4⟩) rfl _) (hsH.put n6' _) ⟨?_,rfl⟩;rw[e3,ha,hnd]
     congr 1
     split
     ·rename_i v hv;rw[hv]at db;simp at db
     ·rfl
   cases d4:(op==4)
   case true=>
    have e4:op=4:=by simpa using d4
    obtain⟨a,ha⟩:∃a,l= [a]:=List.length_eq_one_iff.1 (by rw[hl,e4];rfl)
    have hb0:l.map bN= [bN a]:=by rw[ha];rfl
    simp only[go_sem,r1,r3,k3,d3,d4];refine hbH.idx (e:=364) 0 rfl adu abq abk fun p hp1=>?_
    (try simp only[go_sem])
    refine hp1.field (f:=0) (off:=0) (t:=193) rfl ab2 fun p2 hp2=>?_
    have hld:=hp2.part (U:=U) (ty:=193) ab2 ach;simp only[hb0,List.getElem_cons_zero,bN,AV.cells]at hld;simp only[go_sem,hld,aa7,r6,k6];exact .mk (bN ⟨[],⟨2,a.bag.length,[]⟩,0⟩) (kH (x:=⟨[],⟨2,a.bag.length,[]⟩,0⟩) rfl _) (hsH.put n6' _) ⟨by rw[hnd,e4,ha];rfl,rfl⟩
   cases d5:(op==5)
   case true=>
    have e5:op=5:=by simpa using d5
    obtain⟨a,b,hab⟩:∃a b,l= [a,b]:=wF (by rw[hl,e5];rfl)
    have hb0:l.map bN= [bN a,bN b]:=by rw[hab];rfl
    have hvh:=fun G=>NU a.bag (by have:=hbag a (by rw[hab];simp);omega) b.v .no G
    simp only[aR]at hvh;have htr:=fun G=>uW (a.bag.any fun v=>eqV v b.v) G
    simp only[bN]at htr;simp only[go_sem,r3,k3,d3,d4,d5];refine .calls h [0,1,2,3,4,5,6,7,8,9,10] hsH abl rfl ?_;simp only[go_sem,r1];refine hb.idx (e:=364) 0 rfl adu abq abk fun p hp1=>?_
    simp only[go_sem];refine hp1.field (f:=0) (off:=0) (t:=193) rfl ab2 fun p2 hp2=>?_
    have hld:=hp2.part (U:=U) (ty:=193) ab2 ach;simp only[hb0,List.getElem_cons_zero,bN,AV.cells]at hld;simp only[go_sem,hld,r1];refine hb.idx (e:=364) 1 rfl adu abq abk fun p hp3=>?_
    simp only[go_sem];refine hp3.field (f:=1) (off:=1) (t:=30) rfl ab2 fun p4 hp4=>?_
    have hld4:=hp4.part (U:=U) (ty:=30) ab2 (by simp only[go_sem,hb0,List.getElem_cons_succ,List.getElem_cons_zero];exact aa6 rfl)
    simp only[hb0,List.getElem_cons_succ,List.getElem_cons_zero,bN,AV.cells]at hld4;simp only[go_sem,hld4];refine(hvh _).pthen ?_;refine⟨hsH,?_⟩;simp only[go_sem];refine(htr _).pthen ?_;refine⟨hsH,?_⟩;simp only[go_sem,r6,k6];refine⟨hsH.put n6' _,?_⟩;exact .mk (bN (iJ (a.bag.any fun v=>eqV v b.v))) (kH (x:=(iJ (a.bag.any fun v=>eqV v b.v))) rfl _) (hsH.put n6' _) ⟨by rw[hnd,e5,hab];rfl,rfl⟩
   obtain⟨⟨v,e⟩,ev⟩:∃x,gG op (l.map (·.v))=x:=⟨_,rfl⟩
   rw[ev]at hcl;simp only[go_sem,r3,r10,k3,d3,d4,d5];refine(hcl _).pthen ?_;simp only[go_sem,qI,aR];intro i13 h13;have n136:i13≠i6:=fun e=>aeS
   simp only[go_sem,r6,aj,n136.symm,k6];exact .mk (bN ⟨[],v,e⟩) (kH (x:=⟨[],v,e⟩) rfl _) ((hsH.trans (.ak h13)).put n6' _) ⟨by rw[hnd];simp only[if_neg (show¬op=3 by simpa using d3),if_neg (show¬op=4 by simpa using d4),if_neg (show¬op=5 by simpa using d5)];rw[ev]<;>rfl,rfl⟩
end Go.Proofs.YtcochaoekecfdaaGreatDoor
namespace Go.Bf
open Go Go.Ab Go.Proofs.YtcochaoekecfdaaGreatDoor
theorem BN{t:fU}(h:kR t=0):Me t:=by
 obtain⟨h1,h2⟩:=AL h;refine⟨abh,fun x hx=>?_⟩
 grind [zL,zK]
theorem M6.turn{m:aS}(h:M6 m):M6 (DU m):=by
 exact afX
theorem M6.indet{m:aS}(h:M6 m):M6 (gA m):=by
 exact afX
theorem M6.first{l:List aS}(h:∀m∈l,M6 m):M6 (firstM l):=by
 unfold firstM;cases hf:l.find? fun m=>decide (m≠naM)with
 |none=>decide
 |some m=>grind
theorem M6.only:∀(l:List aS) (j:aS),(∀m∈l,M6 m)→M6 j→M6 (nM l j)
 | [],j,_,hj=>hj
 |m::r,j,h,hj=>by
  simp only[nM];split
  ·decide
  ·refine M6.only r _ abi ?_
   split
   ·grind
   ·split
    ·decide
    omega
theorem FY{alg:Int}{l:List aS}(h:∀m∈l,M6 m):M6 (gI alg l):=by
 unfold gI;split
 ·exact Gv _
 ·split
  ·exact M6.turn (Gv _)
  ·split
   ·exact .first h
   ·split
    ·exact .only _ _ h abk
    ·split
     ·split<;>decide
     ·split
      ·split<;>decide
      decide
theorem zW(r:cM)(t c:Nat):M6 (mH r t c).1:=by
 unfold mH;cases r.deny
 all_goals
  simp only[if_true,Bool.false_eq_true,if_false];split
  ·decide
  ·split
   ·decide
   ·first|(show M6 bf;decide)|(show M6 cD;decide)
theorem MU(alg:Int)(obls:List cC)(t:Nat){parts:List jr}(h:∀x∈parts,M6 x.1):M6 (o7 alg obls t parts).1:=by
 have hc:M6 (gI alg (parts.map (·.1))):=FY fun m hm=>by
  grind
 unfold o7;simp only;split
 ·decide
 ·split
  ·exact hc.indet
  ·split
   ·exact hc
   ·exact hc
mutual
theorem Bj(gs:List bk):∀p:bI,M6 (fq gs p).1
 |.mk id set alg tgt rules kids obls=>by
  have ih:=Cu gs kids;simp only[fq];split
  ·decide
  ·refine MU alg obls _ fun x hx=>?_
   rcases List.mem_append.1 hx with hx|hx
   ·obtain⟨r,_,rfl⟩:=List.mem_map.1 hx
    exact zW _ _ _
   ·exact ih x hx
theorem Cu(gs:List bk):∀l:List bI,∀x∈lV gs l,M6 x.1
 | [],x,hx=>by simp[lV]at hx
 |k::r,x,hx=>by
  have h1:=Bj gs k;have h2:=Cu gs r;simp only[lV,List.mem_cons]at hx;rcases hx with rfl|hx
  ·exact h1
  ·exact h2 x hx
end
theorem JD{gs:List bk}(h:N0 gs):qY gs:=⟨by have:=h.len;omega,fun g hg=>by have:=(h.each g hg).2.2.2.1;omega⟩
theorem F6{α:Type}(B:Nat):∀(L:List (List α)),(∀x∈L,x.length≤B)→L.flatten.length≤L.length*B
 | [],_=>abp
 |x::L,h=>by
  have h1:=h x abp;have h2:=F6 B L fun y hy=>h y abi
  rw[List.flatten_cons,abb,List.length_cons,Nat.add_mul];omega
theorem tu{alg:Int}{m:aS}{parts:List jr}{B:Nat}(hp:∀x∈parts,x.2.length≤B)(hn:parts.length≤32):(eD alg m parts).length≤32*B+B:=by
 unfold eD;split
 ·cases hf:parts.find? fun x=>x.1==m with
  |none=>simp
  |some x=>grind
 ·have h1:=F6 B (((parts.filter fun x=>x.1==m).map (·.2))) fun x hx=>by
   grind
  have h2:((parts.filter fun x=>x.1==m).map (·.2)).length≤32:=by
   grind
  have:=Nat.mul_le_mul_right B h2;omega
theorem j6(l:List cC)(m:aS):(ew l m).length≤l.length:=List.length_filter_le _ _
theorem zV(r:cM)(t c:Nat):(mH r t c).2.length≤r.obls.length:=by
 unfold mH
 all_goals
  grind [j6]
def oB:Nat→Nat
 |0=>8
 |n+1=>8+33*oB n
theorem Tr(n:Nat):8≤oB n:=by
 cases n with
 |zero=>decide
 |succ n=>grind [oB]
theorem Bi(gs:List bk):∀(n d:Nat) (p:bI),d+n=5→mc d p→(fq gs p).2.length≤oB n
 |0,d,.mk id set alg tgt rules kids obls,hd,h=>by grind [mc]
 |n+1,d,.mk id set alg tgt rules kids obls,hd,h=>by
  simp only[mc,qk]at h;obtain⟨_,_,_,_,_,_,g2,g3,g4,g5,g6,g7⟩:=h;have hob:=(jX g3).1;have h8:=Tr n;simp only[fq];split
  ·simp
  ·unfold o7
   simp only;split
   ·simp
   ·split
    ·simp
    ·split
     ·simp
     ·have h1:=tu (alg:=alg) (m:=gI alg ((rules.map (gQ gs)++lV gs kids).map (·.1))) (parts:=rules.map (gQ gs)++lV gs kids) (B:=oB n) (fun x hx=>by
       rcases List.mem_append.1 hx with hx|hx
       ·obtain⟨r,hr,rfl⟩:=List.mem_map.1 hx
        have:=zV r (mb gs r.tgt) (pT gs r.cond);have:=(jX (g6 r hr).2.2.2).1
        show(mH r (mb gs r.tgt) (pT gs r.cond)).2.length≤_
        omega
       ·rw[sH]at hx
        obtain⟨k,hk,rfl⟩:=List.mem_map.1 hx;exact Bi gs n (d+1) k abh (g7 k hk)) (by grind [abb,aa7,sH])
      have h2:=j6 obls (gI alg ((rules.map (gQ gs)++lV gs kids).map (·.1)))
      simp only[abb,oB];omega
theorem J8(gs:List bk){p:bI}(h:mc 1 p):(fq gs p).2.length≤10000000:=Nat.le_trans (Bi gs 4 1 p rfl h) abk
theorem Jf{op:Int}{w:List Bool}(hw:hY op=some w):w.length=opsOf op∧1≤op∧op≤13:=by
 have h1:1≤op∧op≤13:=by
  grind [hY]
 refine⟨?_,h1⟩;rcases(show op=1∨op=2∨op=3∨op=4∨op=5∨op=6∨op=7∨op=8∨op=9∨op=10∨op=11∨op=12∨op=13 by omega)with rfl|rfl|rfl|rfl|rfl|rfl|rfl|rfl|rfl|rfl|rfl|rfl|rfl
 all_goals (simp[hY]at hw;subst hw;rfl)
theorem I3{bs bs' :List Bool}{n:aO}(h:gZ bs n=some bs'):(1≤n.op∧n.op≤13)∧opsOf n.op≤bs.length∧bs'.length=bs.length - opsOf n.op+1:=by
 unfold gZ at h;cases hw:hY n.op with
 |none=>grind
 |some w=>
  grind [Jf,abb,List.length_take,List.length_singleton]
theorem NH{l:List aO}{z bs:List Bool}{i:Nat}(hl:fK [] l=some z)(hi:i<l.length)(hb:fK [] (l.take i)=some bs):∃bs',gZ bs l[i]=some bs'∧fK [] (l.take (i+1))=some bs' :=by
 have h1:=jF [] l i;rw[hl,hb,List.drop_eq_getElem_cons hi]at h1;simp only[fK]at h1;cases hs:gZ bs l[i]with
 |none=>rw[hs]at h1;cases h1
 |some bs' =>
  rw[jF [] _ i,List.take_take,Nat.min_eq_left abh,hb,List.take_succ_eq_append_getElem hi,List.drop_append_of_le_length abi,List.drop_of_length_le abi]
  grind [fK]
theorem KP{gs:List bk}(hf:qY gs)(n:aO)(l:List jc):(kL gs n l).bag.length≤1000000:=by
 unfold kL zC iJ
 repeat' split
 all_goals first|exact hf.bag _|simp
def Tf(x:jc):AV:=.tup [aR x.v,.i x.e]
end Go.Bf
namespace Go.Proofs.YtcochaoekecfdaaGreatDoor
open Go Go.Ab Go.Bf
theorem J9(l:List aO)(hn:l≠ [])(he:jL l=0)(gs:List bk)(hf:qY gs)(h:Heap):ai Tryz.prog 273 [fj l,bH gs] h fun r h' =>r=Tf (vC gs l)∧h' =h:=by
 obtain⟨h32,hst⟩:=xy he hn;have hex:=fun G=>F3 l G
 rw[he]at hex;simp only[fj]at hex;have dl:((l.length:Int)==0)=false:=afh;refine abg Tryz.func273 51 [.cell 4 30,.tmp 5] fun hwf=>?_
 simp only[go_sem,fj,bH];intro i4 h4;simp only[go_sem,aa7,dl];refine(hex _).pthen ?_;simp only[go_sem,aa7];obtain⟨H0,eH⟩:∃H0,upd h i4 (some (.obj [.i 0,.i 0,.s []] 30))=H0:=⟨_,rfl⟩;have hH0:Ab.Sub h H0:=by rw[←eH];exact .ak h4
 have g4:H0 i4=some (.obj [.i 0,.i 0,.s []] 30):=acJ;rw[eH];clear eH;refine .intro (fun m ρ H=>∃(i:Nat) (y:AV) (st:List jc) (bs:List Bool),OwE 364 H0 H 5 y (st.map bN)∧Ab.Sub H0 H∧(l.take i).foldl (yO gs) []=st∧fK [] (l.take i)=some bs∧bs.length=st.length∧(∀x∈st,x.bag.length≤1000000)∧i≤l.length∧m=l.length - i∧lk ρ 1=some (.sl (gs.map kG) .no)∧lk ρ 4=some (.ptr i4 0)∧lk ρ 6=some y∧lk ρ 19=some (.sl (l.map dF) .no)∧lk ρ 20=some (.i l.length)∧lk ρ 21=some (.i i)) l.length ?_ ?_
 ·refine⟨0,_,[],[],.inl ⟨rfl,rfl⟩,.refl _,rfl,rfl,rfl,fun x hx=>abi,abh,rfl,?_,?_,?_,?_,?_,?_⟩<;>simp only[go_sem]
 ·rintro m ρ H ⟨i,y,st,bs,hw,hsH,hfo,hbs,hlen,hbag,hi,rfl,r1,r4,r6,r19,r20,r21⟩
  have hsl:bs.length≤i:=by have:=rE _ _ _ hbs;simpa[Nat.min_eq_left hi]using this
  simp only[go_sem,r20,r21];refine .intro (fun e=>?_) (fun e=>?_)
  ·have hlt:i<l.length:=abe e
   have w1:IntKind.i64.wrap ((i:Int)+1)=((i+1:Nat):Int):=abv;obtain⟨bs',hb1,hb2⟩:=NH hst hlt hbs;have hfs:(l.take (i+1)).foldl (yO gs) []=yO gs st l[i]:=by grind [List.take_succ_eq_append_getElem]
   have ix:=fun k=>fD.eq (xs:=l.map dF) (sz:=7) i abi aby k
   rw[aa8]at ix;obtain⟨n,en⟩:∃n,l[i]=n:=⟨_,rfl⟩;rw[en]at hb1 hfs ix;obtain⟨hop,hle,hln⟩:=I3 hb1;rw[hlen]at hle;obtain⟨k,ek⟩:∃k,st.length - opsOf n.op=k:=⟨_,rfl⟩;have wk:IntKind.i64.wrap ((st.length:Int) - (opsOf n.op:Int))=(k:Int):=abv;have hstep:yO gs st n=st.take k++ [kL gs n (st.drop k)]:=by grind [yO]
   simp only[dF]at ix;simp only[go_sem,r19,r21,ix];intro i8 h8;obtain⟨H8,eH⟩:∃H8,upd H i8 (some (.obj [.i n.op,.i n.val.kind,.i n.val.n,.s n.val.s,.i n.attr.cat,.s n.attr.name,.b n.attr.must] 229))=H8:=⟨_,rfl⟩;have hs8:Ab.Sub H H8:=by rw[←eH];exact .ak h8
   have k8:H8 i8=some (.obj [.i n.op,.i n.val.kind,.i n.val.n,.s n.val.s,.i n.attr.cat,.s n.attr.name,.b n.attr.must] 229):=acJ;have hw8:=hw.sub hs8;simp only[go_sem,r6,hw8.rd.len,aa7];refine(Ex n.op _).pthen ?_;rw[eH];clear eH;simp only[go_sem,wk];refine .calls (hm1 i8 (.obj [.i n.op,.i n.val.kind,.i n.val.n,.s n.val.s,.i n.attr.cat,.s n.attr.name,.b n.attr.must] 229)) [0,1,2,3,4,5,6,7,8,9,10,11] (.hm1 k8) abl rfl ?_;simp only[go_sem,r6];refine hw8.cut (U:=U) (x:=.i64) k abx rfl abi abx abk fun z hz hzy=>?_
   simp only[go_sem,r6,fR];refine hw8.from (U:=U) (x:=.i64) k abx rfl abi abx abk fun z2 hz2=>?_
   rw[←List.map_drop]at hz2;rw[←List.map_take]at hz;have hnd:=Ng n hop (st.drop k) hz2 abi (fun x hx=>hbag x (List.mem_of_mem_drop hx)) gs hf
   have hnb:=KP hf n (st.drop k);obtain⟨x,ex⟩:∃x,kL gs n (st.drop k)=x:=⟨_,rfl⟩;rw[ex]at hnd hnb hstep;simp only[dF,bH,bN]at hnd;simp only[go_sem,r1];refine hnd.pthen ?_;refine⟨.hm1 k8,?_⟩;simp only[go_sem];have hone:Rd H8 5 (.sl [bN x] .full) [bN x]:=.sl (fun z hz=>aea) .full
   simp only[bN]at hone;refine OwE.app (U:=U) (tb:=364) hz (hsH.trans hs8) hone abx abk abk abx abp abA fun id y' H' hid hor how hoth=>?_
   have n8:i8≠id:=by
    intro e8;rcases hor with ho|⟨lz,cz,ez⟩
    ·grind
    ·exact lg (hz.nid (id:=id) (by rw[ez];rfl)).2.2 k8 abk e8.symm
   have hsub' :Ab.Sub H0 H' :=fun j b hj=>by rw[hoth j (fun e=>abi)];exact(hsH.trans hs8) _ _ hj
   refine⟨.hm1 abi,?_⟩;simp only[go_sem,r21,w1];refine⟨_,?_,i+1,y',yO gs st n,bs',.inr ⟨id,hid,by rw[hstep,List.map_append];exact how⟩,hsub',hfs,hb2,abi,fun w hw=>?_,abh,rfl,?_,?_,?_,?_,?_,?_⟩
   ·omega
   ·grind
   all_goals simp only[go_sem,r1,r4,r19,r20]
  ·have hge:i=l.length:=by grind
   subst hge;rw[List.take_length]at hbs hfo;rw[hst]at hbs;cases hbs;obtain⟨x,rfl⟩:=List.length_eq_one_iff.1 hlen.symm;have hit:vC gs l=x:=by simp_all [vC,if_neg]
   obtain⟨id,hid,how⟩:=hw.ow abp;have hwp:Rd (pick H [id]) 5 y [bN x]:=(how.same (bz (List.mem_singleton.2 rfl))).rd;have n4:i4≠id:=fun e=>abi
   have k4:=hsH _ _ g4;simp only[go_sem];refine .calls (pick H [id]) [0,1,2,3,4,5,6,7,8,9] bw abl rfl ?_;simp only[go_sem,r6];refine hwp.idx (U:=U) (e:=364) 0 rfl abp abx abk fun p hp1=>?_
   simp only[go_sem];refine hp1.field (f:=1) (off:=1) (t:=30) rfl abk fun p2 hp2=>?_
   have hld:=hp2.part (U:=U) (ty:=30) abk adH;simp only[List.getElem_cons_zero,bN,AV.cells]at hld;simp only[go_sem,r6,hld];refine hwp.idx (U:=U) (e:=364) 0 rfl abp abx abk fun p3 hp3=>?_
   simp only[go_sem];refine hp3.field (f:=2) (off:=4) (t:=23) rfl abk fun p4 hp4=>?_
   have hld4:=hp4.part (U:=U) (ty:=23) abk adH;simp only[List.getElem_cons_zero,bN,AV.cells]at hld4;simp only[go_sem,r4,hld4,k4];refine⟨bw.put (by grind [pick]) _,?_⟩
   exact .mk _ (.refl _) ((hH0.trans hsH).put h4 _) ⟨by rw[hit];rfl,rfl⟩
theorem MB(l:List aO)(he:jL l=0)(gs:List bk)(hf:qY gs)(h:Heap):ai Tryz.prog 246 [fj l,bH gs] h fun r h' =>r= .i (pT gs l:Nat)∧h' =h:=by
 by_cases hn:l= []
 ·subst hn
  refine abg Tryz.func246 26 [.tmp 4] fun hwf=>?_
  simp only[go_sem,fj,bH,List.map_nil,List.length_nil];exact abu
 have hv:=fun G=>J9 l hn he gs hf G
 have hcd:pT gs l=if isI (vC gs l) 1 then 2 else if isI (vC gs l) 0 then 0 else 1:=by
  simp_all [pT,if_neg]
 obtain⟨x,ex⟩:∃x,vC gs l=x:=⟨_,rfl⟩;rw[ex]at hv hcd;simp only[fj,bH,Tf,aR]at hv;have hi1:∀(m:Int) G,ai Tryz.prog 274 [.agg [.sl [] .full,.i x.v.kind,.i x.v.n,.s x.v.s,.i x.e],.i m] G fun r h' =>r= .b (isI x m)∧h' =G:=fun m G=>MS x m G
 have dl:((l.length:Int)==0)=false:=afh;refine abg Tryz.func246 26 [.tmp 4] fun hwf=>?_
 simp only[go_sem,fj,bH,aa7,dl];refine(hv _).pthen ?_;simp only[go_sem];intro i5 h5;simp only[go_sem];intro i7 h7;have n7:=aB h7;have hs:∀x y,Ab.Sub h (upd (upd h i5 x) i7 y):=fun x y=>((Sub.refl h).put h5 x).put n7 y
 simp only[go_sem];refine(hi1 1 _).pthen ?_;cases d1:isI x 1
 case true=>
  rw[d1]at hcd;simp only[go_sem];exact .mk _ (.refl _) (hs _ _) ⟨by rw[hcd];rfl,rfl⟩
 simp only[go_sem];refine(hi1 0 _).pthen ?_;cases d0:isI x 0
 all_goals
  rw[d1,d0]at hcd;simp only[go_sem];exact .mk _ (.refl _) (hs _ _) ⟨by rw[hcd];rfl,rfl⟩
end Go.Proofs.YtcochaoekecfdaaGreatDoor
namespace Go.Bf
open Go Go.Ab Go.Proofs.YtcochaoekecfdaaGreatDoor
def jz(l:List aS)(p:Perm):AV:=.sl (l.map aQ) p
theorem M9.na:M9 naM:=abk
theorem Bu(l:List aS)(i:Nat)(h:i<l.length):(l.take (i+1)).foldl nH naM=nH ((l.take i).foldl nH naM) l[i]:=by
 grind [List.take_succ_eq_append_getElem]
theorem HN{l:List aS}{q:aS→Bool}(hq:∀m,q m=decide (m≠naM))(h:l.findIdx q<l.length):firstM l=l[l.findIdx q]:=by
 unfold firstM;have e:q=fun m=>decide (m≠naM):=funext hq
 subst e;rw[show l.find? (fun m=>decide (m≠naM))=some l[l.findIdx fun m=>decide (m≠naM)]from List.find?_eq_some_iff_getElem.2 ⟨List.findIdx_getElem (w:=h),_,h,rfl,fun j hj=>abi⟩]
 rfl
theorem HO{l:List aS}{q:aS→Bool}(hq:∀m,q m=decide (m≠naM))(h:¬l.findIdx q<l.length):firstM l=naM:=by
 unfold firstM;rw[List.find?_eq_none.2 fun x hx=>abi]
 rfl
def vM(j m:aS):aS:=if j=naM then m else if m≠naM then oA else j
theorem KT{l:List aS}{i:Nat}(h:i<l.length)(j:aS):nM (l.drop i) j=if yP l[i]=false then oA else nM (l.drop (i+1)) (vM j l[i]):=by
 rw[List.drop_eq_getElem_cons h];rfl
end Go.Bf
namespace Go.Proofs.YtcochaoekecfdaaGreatDoor
open Go Go.Ab Go.Bf
theorem TS:(U 34).sz=1:=abx
theorem Iq(ms:List aS)(hl:ms.length≤1000000000)(q:aS→Bool)(g:FuncId)(cap:List AV)(p:Perm)(h:Heap)(hp:∀m∈ms,ai Tryz.prog g (aQ m::cap) h fun r h' =>r= .b (q m)∧h' =h):
  ai Tryz.prog 305 [jz ms p,.fn g cap] h fun r h' =>r= .i (ixD q ms)∧h' =h:=by
 refine abg Tryz.func305 19 [.tmp 4] fun hwf=>?_
 simp only[go_sem,jz,aa7];refine .intro (fun m ρ h' =>h' =h∧∃i:Nat,i≤ms.length∧m=ms.length - i∧(∀j (hj:j<i) (h2:j<ms.length),q ms[j]=false)∧lk ρ 0=some (.sl (ms.map aQ) p)∧lk ρ 1=some (.fn g cap)∧lk ρ 7=some (.i ms.length)∧lk ρ 8=some (.i i)) ms.length ?_ ?_
 ·refine⟨rfl,0,abh,rfl,fun j hj=>abh,?_,?_,?_,?_⟩<;>simp only[go_sem]
 ·rintro m ρ h' ⟨rfl,i,hi,rfl,hc,r0,r1,r7,r8⟩
  simp only[go_sem,r7,r8];refine .intro (fun e=>?_) (fun e=>?_)
  ·have hlt:i<ms.length:=abe e
   have w1:IntKind.i64.wrap ((i:Int)+1)=((i+1:Nat):Int):=abv;have ix:=fun k=>fD.eq (xs:=ms.map aQ) (sz:=1) i abi aby k
   rw[aa8]at ix;have hg:=hp ms[i] (abc hlt);have hci:=fun(d:q ms[i]=false)=>(fun j (hj:j<i+1) (h2:j<ms.length)=>(by
    grind:q ms[j]=false))
   have hat:=fun(d:q ms[i]=true)=>nh hlt d fun j hj=>hc j hj abh
   obtain⟨m,em⟩:∃m,ms[i]=m:=⟨_,rfl⟩;rw[em]at ix hg hci hat;simp only[aQ]at ix;simp only[go_sem,r0,r1,r8,ix];refine(show ai Tryz.prog g (.v (.complex .f64 (hbit m.1) (hbit m.2))::cap) _ _ from hg).pthen ?_
   cases d1:q m
   ·simp only[go_sem,r8,w1]
    refine⟨_,?_,rfl,i+1,abh,rfl,hci d1,?_,?_,?_,?_⟩
    ·omega
    all_goals simp only[go_sem,r0,r1,r7]
   ·simp only[go_sem]
    exact .same (.refl _) ⟨afg,rfl⟩
  ·have hge:i=ms.length:=by grind
   simp only[go_sem];exact .same (.refl _) ⟨abK,rfl⟩
theorem EV(ms:List aS)(hl:ms.length≤1000000000)(hmm:∀m∈ms,M9 m)(x:aS)(hx:M9 x)(p:Perm)(h:Heap):
  ai Tryz.prog 320 [jz ms p,aQ x] h fun r h' =>r= .i (ixD (fun y=>x==y) ms)∧h' =h:=by
 refine abg Tryz.func320 19 [.tmp 4] fun hwf=>?_
 simp only[go_sem,jz,aa7];refine .intro (fun m ρ h' =>h' =h∧∃i:Nat,i≤ms.length∧m=ms.length - i∧(∀j (hj:j<i) (h2:j<ms.length),(x==ms[j])=false)∧lk ρ 0=some (.sl (ms.map aQ) p)∧lk ρ 1=some (aQ x)∧lk ρ 7=some (.i ms.length)∧lk ρ 8=some (.i i)) ms.length ?_ ?_
 ·refine⟨rfl,0,abh,rfl,fun j hj=>abh,?_,?_,?_,?_⟩<;>simp only[go_sem]
 ·rintro m ρ h' ⟨rfl,i,hi,rfl,hc,r0,r1,r7,r8⟩
  simp only[go_sem,r7,r8];refine .intro (fun e=>?_) (fun e=>?_)
  ·have hlt:i<ms.length:=abe e
   have w1:IntKind.i64.wrap ((i:Int)+1)=((i+1:Nat):Int):=abv;have ix:=fun k=>fD.eq (xs:=ms.map aQ) (sz:=1) i abi aby k
   rw[aa8]at ix;have hm9:=hmm ms[i] (abc hlt);have hci:=fun(d:(x==ms[i])=false)=>(fun j (hj:j<i+1) (h2:j<ms.length)=>(by
    grind:(x==ms[j])=false))
   have hat:=fun(d:(x==ms[i])=true)=>nh (q:=fun y=>x==y) hlt d fun j hj=>hc j hj abh
   obtain⟨m,em⟩:∃m,ms[i]=m:=⟨_,rfl⟩;rw[em]at ix hm9 hci hat;simp only[aQ]at ix r1;have ne:=yf hx hm9;cases d1:(x==m)
   ·simp only[go_sem,r0,r1,r8,ix,ne,d1,w1]
    refine⟨_,?_,rfl,i+1,abh,rfl,hci d1,?_,?_,?_,?_⟩
    ·omega
    all_goals simp only[go_sem,r0,r1,r7,aQ]
   ·simp only[go_sem,r0,r1,r8,ix,ne,d1]
    exact .same (.refl _) ⟨afg,rfl⟩
  ·have hge:i=ms.length:=by grind
   simp only[go_sem];exact .same (.refl _) ⟨abK,rfl⟩
theorem EO(ms:List aS)(hl:ms.length≤1000000000)(hmm:∀m∈ms,M9 m)(x:aS)(hx:M9 x)(p:Perm)(h:Heap):
  ai Tryz.prog 309 [jz ms p,aQ x] h fun r h' =>r= .b (decide (x∈ms))∧h' =h:=by
 refine abg Tryz.func309 9 [.tmp 4] fun hwf=>?_
 simp only[go_sem];refine(EV ms hl hmm x hx p _).pthen ?_;simp only[go_sem];exact .same (.refl _) ⟨by rw[tY,show(ms.any fun y=>x==y)=decide (x∈ms) by grind];rfl,rfl⟩
theorem Ec(m:aS)(hmm:M9 m)(h:Heap):ai Tryz.prog 306 [aQ m] h fun r h' =>r= .b (!(m==naM))∧h' =h:=by
 have n:=(nb hmm).nna;refine abg Tryz.func306 5 [.tmp 2] fun hwf=>?_
 simp only[go_sem,aQ,n];exact abu
theorem NJ(m:aS)(hmm:M9 m)(h:Heap):ai Tryz.prog 307 [aQ m] h fun r h' =>r= .b (yP m)∧h' =h:=by
 obtain⟨n1,n2,n3,_⟩:=nb hmm;refine abg Tryz.func307 13 [.tmp 2] fun hwf=>?_
 have es:yP m=(m==naM||(m==bf||m==cD)):=by
  unfold yP
  grind
 rw[es];cases d1:(m==naM)<;>cases d2:(m==bf)<;>cases d3:(m==cD)
 all_goals
  simp only[go_sem,aQ,n1,n2,n3,d1,d2,d3];exact abu
theorem Ke(ms:List aS)(hl:ms.length≤1000000000)(hmm:∀m∈ms,M9 m)(p:Perm)(h:Heap):ai Tryz.prog 279 [jz ms p] h fun r h' =>r=aQ (firstM ms)∧h' =h:=by
 refine abg Tryz.func279 12 [.tmp 2] fun hwf=>?_
 simp only[go_sem,jz];refine(Iq ms hl (fun m=> !(m==naM)) _ [] p _ fun m h=>Ec m (hmm m h) _).pthen ?_
 have hq:∀m:aS,(!(m==naM))=decide (m≠naM):=fun m=>abi
 by_cases hx:ms.findIdx (fun m=> !(m==naM))<ms.length
 ·obtain⟨i,ei⟩:∃i,ms.findIdx (fun m=> !(m==naM))=i:=⟨_,rfl⟩
  have ef:=HN hq hx;have e1:ixD (fun m=> !(m==naM)) ms=(i:Nat):=by rw[ixD,ei];omega
  simp only[ei]at ef;have d1:decide ((0:Int)≤((i:Nat):Int))=true:=decide_eq_true abh;have ix:=fun k=>fD.eq (xs:=ms.map aQ) (sz:=1) i abi aby k
  rw[aa8,←ef]at ix;rw[e1];simp only[go_sem,d1,ix];exact abu
 ·have e1:ixD (fun m=> !(m==naM)) ms= -1:=by simp_all [ixD,if_neg]
  have d1:decide ((0:Int)≤ -1)=false:=rfl;rw[e1];simp only[go_sem,d1];exact .same (.refl _) ⟨by rw[HO hq hx];rfl,rfl⟩
theorem LC(j m:aS)(hj:M9 j)(hmm:M9 m)(h:Heap):ai Tryz.prog 308 [.i 4,aQ j,aQ m] h fun r h' =>r=aQ (vM j m)∧h' =h:=by
 have n1:=(nb hj).na;have n2:=(nb hmm).nna;refine abg Tryz.func308 31 [.tmp 6] fun hwf=>?_
 cases d1:(j==naM)
 case true=>
  simp only[go_sem,aQ,n1,d1];exact .same (.refl _) ⟨by rw[vM,if_pos abi];rfl,rfl⟩
 cases d2:(m==naM)
 ·simp only[go_sem,aQ,n1,n2,d1,d2]
  exact .same (.refl _) ⟨by rw[vM,if_neg abi,if_pos abi];rfl,rfl⟩
 ·simp only[go_sem,aQ,n1,n2,d1,d2]
  exact .same (.refl _) ⟨by rw[vM,if_neg abi,if_neg abi];rfl,rfl⟩
theorem M9.step{j m:aS}(hj:M9 j)(hmm:M9 m):M9 (vM j m):=by
 unfold vM
 repeat' split
 ·omega
 ·decide
 omega
theorem Nn(ms:List aS)(hl:ms.length≤1000000000)(hmm:∀m∈ms,M9 m)(p:Perm)(h:Heap):ai Tryz.prog 280 [jz ms p] h fun r h' =>r=aQ (nM ms naM)∧h' =h:=by
 refine abg Tryz.func280 20 [.tmp 2] fun hwf=>?_
 simp only[go_sem,jz,aa7];refine .intro (fun m ρ h' =>h' =h∧∃(i:Nat) (j:aS),i≤ms.length∧m=ms.length - i∧M9 j∧nM (ms.drop i) j=nM ms naM∧lk ρ 3=some (aQ j)∧lk ρ 6=some (.sl (ms.map aQ) p)∧lk ρ 7=some (.i ms.length)∧lk ρ 8=some (.i i)) ms.length ?_ ?_
 ·refine⟨rfl,0,naM,abh,rfl,.na,rfl,?_,?_,?_,?_⟩<;>simp only[go_sem,aQ,naM,hbit]
 ·rintro m ρ h' ⟨rfl,i,j,hi,rfl,hj,ho,r3,r6,r7,r8⟩
  simp only[go_sem,r7,r8];refine .intro (fun e=>?_) (fun e=>?_)
  ·have hlt:i<ms.length:=abe e
   have w1:IntKind.i64.wrap ((i:Int)+1)=((i+1:Nat):Int):=abv;have ix:=fun k=>fD.eq (xs:=ms.map aQ) (sz:=1) i abi aby k
   rw[aa8]at ix;have hm9:=hmm ms[i] (abc hlt);rw[KT hlt]at ho;obtain⟨m,em⟩:∃m,ms[i]=m:=⟨_,rfl⟩;rw[em]at ix hm9 ho;have hsu:=fun G=>NJ m hm9 G
   have hst:=fun G=>LC j m hj hm9 G
   simp only[aQ]at ix hsu hst r3;simp only[go_sem,r6,r8,ix];refine(hsu _).pthen ?_;cases d1:yP m
   ·rw[if_pos d1]at ho
    simp only[go_sem];exact .same (.refl _) ⟨by rw[←ho];rfl,rfl⟩
   ·rw[if_neg abi]at ho
    simp only[go_sem,r3];refine(hst _).pthen ?_;simp only[go_sem,r8,w1];refine⟨_,?_,rfl,i+1,vM j m,abh,rfl,M9.step hj hm9,ho,?_,?_,?_,?_⟩
    ·omega
    all_goals simp only[go_sem,r6,r7,aQ]
  ·have hge:i=ms.length:=by grind
   subst hge;rw[List.drop_length]at ho;simp only[go_sem,r3];exact .same (.refl _) ⟨by rw[←ho];rfl,rfl⟩
theorem AO(ms:List aS)(hl:ms.length≤1000000000)(hmm:∀m∈ms,M9 m)(a b:aS)(hb:M9 b)(p:Perm)(h:Heap):ai Tryz.prog 281 [jz ms p,aQ a,aQ b] h fun r h' =>r=aQ (if b∈ms then b else a)∧h' =h:=by
 refine abg Tryz.func281 12 [.tmp 6] fun hwf=>?_
 simp only[go_sem];refine(EO ms hl hmm b hb p _).pthen ?_
 by_cases d:b∈ms
 ·simp only[go_sem,decide_eq_true d,if_pos d]
  exact abu
 ·simp only[go_sem,decide_eq_false d,if_neg d]
  exact abu
theorem Pg(alg:Int)(ha:1≤alg∧alg≤6)(ms:List aS)(hl:ms.length≤1000000000)(hmm:∀m∈ms,M6 m)(p:Perm)(h:Heap):ai Tryz.prog 247 [.i alg,jz ms p] h fun r h' =>r= .tup [aQ (gI alg ms),.i 0]∧h' =h:=by
 have hm9:=fun m h=>(hmm m h).m9
 refine abg Tryz.func247 49 [.tmp 4,.tmp 5] fun hwf=>?_
 simp only[go_sem,jz,aa7];refine .intro (fun m ρ h' =>h' =h∧∃i:Nat,i≤ms.length∧m=ms.length - i∧M9 ((ms.take i).foldl nH naM)∧lk ρ 0=some (.i alg)∧lk ρ 1=some (.sl (ms.map aQ) p)∧lk ρ 6=some (aQ ((ms.take i).foldl nH naM))∧lk ρ 9=some (.sl (ms.map aQ) p)∧lk ρ 10=some (.i ms.length)∧lk ρ 11=some (.i i)) ms.length ?_ ?_
 ·refine⟨rfl,0,abh,rfl,.na,?_,?_,?_,?_,?_,?_⟩<;>simp only[go_sem,aQ,naM,hbit,List.take_zero,List.foldl_nil]
 ·rintro m ρ h' ⟨rfl,i,hi,rfl,hj,r0,r1,r6,r9,r10,r11⟩
  obtain⟨j,ej⟩:∃j,(ms.take i).foldl nH naM=j:=⟨_,rfl⟩;rw[ej]at hj r6;simp only[go_sem,r10,r11];refine .intro (fun e=>?_) (fun e=>?_)
  ·have hlt:i<ms.length:=abe e
   have w1:IntKind.i64.wrap ((i:Int)+1)=((i+1:Nat):Int):=abv;have ix:=fun k=>fD.eq (xs:=ms.map aQ) (sz:=1) i abi aby k
   rw[aa8]at ix;have hm6:=hmm ms[i] (abc hlt);have hsn:=Bu ms i hlt;rw[ej]at hsn;obtain⟨m,em⟩:∃m,ms[i]=m:=⟨_,rfl⟩;rw[em]at ix hm6 hsn;have hri:=fun G=>Bx m hm6 G
   have hjo:=fun G=>MW j m hj hm6.m9 G
   simp only[aQ]at ix hri hjo r6;simp only[go_sem,r9,r11,ix];refine(hri _).pthen ?_;simp only[go_sem,r6];refine(hjo _).pthen ?_;simp only[go_sem,r11,w1];refine⟨_,?_,rfl,i+1,abh,rfl,by grind [M9.join],?_,?_,?_,?_,?_,?_⟩
   ·omega
   all_goals simp only[go_sem,r0,r1,r9,r10,aQ,hsn]
  ·have hge:i=ms.length:=by grind
   subst hge;rw[List.take_length]at ej;have ej' :wE ms=j:=ej;have hov:=fun G=>Gw j hj G
   have htu:=fun(x:aS) (G:Heap)=>NM x G
   have hov2:=fun G=>Gw (DU j) ⟨hj.2,hj.1⟩ G
   have h1:=Ke ms hl hm9 p;have h2:=Nn ms hl hm9 p;have h3:=AO ms hl hm9 cD bf abk p;have h4:=AO ms hl hm9 bf cD abk p;simp only[jz]at h1 h2 h3 h4;rcases(show alg=1∨alg=2∨alg=3∨alg=4∨alg=5∨alg=6 by omega)with rfl|rfl|rfl|rfl|rfl|rfl
   ·simp only[go_sem,r0,r6]
    refine(hov _).pthen ?_;simp only[go_sem];exact .same (.refl _) ⟨by simp only[gI,ej',if_true];rfl,rfl⟩
   ·simp only[go_sem,r0,r6]
    refine(htu _ _).pthen ?_;simp only[go_sem];refine(hov2 _).pthen ?_;simp only[go_sem];refine(htu _ _).pthen ?_;simp only[go_sem];exact .same (.refl _) ⟨by simp only[gI,ej'];rfl,rfl⟩
   ·simp only[go_sem,r0,r1]
    refine(h1 _).pthen ?_;exact afV
   ·simp only[go_sem,r0,r1]
    refine(h2 _).pthen ?_;exact afV
   ·simp only[go_sem,r0,r1]
    refine(h3 _).pthen ?_;exact ag6
   ·simp only[go_sem,r0,r1]
    refine(h4 _).pthen ?_;exact ag6
end Go.Proofs.YtcochaoekecfdaaGreatDoor
namespace Go.Bf
open Go Go.Ab Go.Proofs.YtcochaoekecfdaaGreatDoor
def rsA(r:jr):AV:=.agg [aQ r.1,aA r.2]
theorem HC(l:List cC)(m:aS)(i:Nat)(h:i<l.length):ew (l.take (i+1)) m=ew (l.take i) m++(if(l[i].on==1 && m==bf||l[i].on==2 && m==cD)=true then [l[i]]else []):=by
 grind [ew,List.take_succ_eq_append_getElem]
theorem qB(l:List cC)(m:aS){L:List AV}(hL:L=l.map bn)(q:Perm):Weak (.agg [aQ m,.sl L q]) (rsA (m,l)):=by
 subst hL;refine .agg _ _ rfl fun i a b=>?_
 rcases i with _|_|i
 ·exact acC
 ·exact adV
 grind
theorem yp(alg:Int)(m:aS)(l:List jr)(i:Nat)(h:i<l.length)(h3:alg≠3):eD alg m (l.take (i+1))=eD alg m (l.take i)++(if(l[i].1==m)=true then l[i].2 else []):=by
 unfold eD;rw[if_neg h3,if_neg h3,List.take_succ_eq_append_getElem h,List.filter_append,List.map_append,List.flatten_append]
 grind
theorem yo{m:aS}{l:List jr}(h:∀x∈l,(x.1==m)=false):eD 3 m l= []:=by
 unfold eD;rw[if_pos rfl,List.find?_eq_none.2 fun x hx=>abi]
 rfl
theorem vI{m:aS}{l:List jr}(i:Nat)(h:i<l.length)(h1:(l[i].1==m)=true)(h2:∀j (hj:j<i),((l[j]'abh).1==m)=false):eD 3 m l=l[i].2:=by
 unfold eD;rw[if_pos rfl,show(l.find? fun x=>x.1==m)=some l[i]from List.find?_eq_some_iff_getElem.2 ⟨h1,i,h,rfl,fun j hj=>abi⟩]
 rfl
end Go.Bf
namespace Go.Proofs.YtcochaoekecfdaaGreatDoor
open Go Go.Ab Go.Bf
theorem TT:(U 158).sz=3:=abx
theorem TU:(U 119).sz=2:=abx
theorem qO(l:List cC)(hl:l.length≤1000000)(m:aS)(hpd:m=bf∨m=cD)(h:Heap):ai Tryz.prog 249 [aA l,aQ m] h fun r h' =>r=aA (ew l m)∧h' =h:=by
 have h9:M9 m:=by rcases hpd with rfl|rfl<;>decide
 have pe:=(nb h9).pe;have de:=(nb h9).de;have uO:=TT;obtain⟨b,b1,b2⟩:∃b,(m==bf)=b∧(m==cD)= !b:=by
  rcases hpd with rfl|rfl
  ·exact⟨true,abk,abk⟩
  ·exact⟨false,abk,abk⟩
 refine abg Tryz.func249 36 [.tmp 4] fun hwf=>?_
 simp only[go_sem,aA,aQ,aa7];refine .intro (fun q ρ H=>∃(i:Nat) (y:AV),Acc U 158 h H y ((ew (l.take i) m).map bn)∧i≤l.length∧q=l.length - i∧lk ρ 1=some (.v (.complex .f64 (hbit m.1) (hbit m.2)))∧lk ρ 5=some y∧lk ρ 8=some (.sl (l.map bn) .no)∧lk ρ 9=some (.i l.length)∧lk ρ 10=some (.i i)) l.length ?_ ?_
 ·refine⟨0,.sl [] .full,by simpa[ew]using Acc.full (.refl _),abh,rfl,?_,?_,?_,?_,?_⟩<;>simp only[go_sem]
 ·rintro q ρ H ⟨i,y,hy,hi,rfl,r1,r5,r8,r9,r10⟩
  obtain⟨qy,eqy⟩:=hy.row;subst eqy;simp only[go_sem,r9,r10];refine .intro (fun e=>?_) (fun e=>?_)
  ·have hlt:i<l.length:=abe e
   have w1:=abd i abh;have hsn:=HC l m i hlt;have ix:=fun k=>fD.eq (xs:=l.map bn) (sz:=3) i abH aby k
   rw[aa8]at ix;obtain⟨o,eo⟩:∃o,l[i]=o:=⟨_,rfl⟩;rw[eo]at ix hsn;simp only[bn]at ix;simp only[go_sem,r8,r10,ix];intro i7 h7;cases b
   ·cases a3:(o.on==2)
    ·cases a1:(o.on==1)
     ·simp only[go_sem,r10,a1,a3,w1]
      exact afF
     ·simp only[go_sem,r1,r10,a1,a3,b1,pe,w1]
      exact afF
    ·cases a1:(o.on==1)
     ·simp only[go_sem,r1,r5,a1,a3,b2,de]
      exact afy
     ·simp only[go_sem,r1,r5,a1,a3,b1,b2,pe,de]
      exact afy
   ·cases a1:(o.on==1)
    ·cases a3:(o.on==2)
     ·simp only[go_sem,r10,a1,a3,w1]
      exact afF
     ·simp only[go_sem,r1,r10,a1,a3,b2,de,w1]
      exact afF
    ·cases a3:(o.on==2)
     ·simp only[go_sem,r1,r5,a1,b1,pe]
      exact afy
     ·simp only[go_sem,r1,r5,a1,b1,pe]
      exact afy
  ·have hge:i=l.length:=by have:=aba e;omega
   subst hge;rw[List.take_length]at hy;simp only[go_sem,r5];exact .mk (aA (ew l m)) (by rw[List.take_length];exact .sl _ _) hy.1 ⟨rfl,rfl⟩
theorem tri{t:Nat}(h:t≤2):t=0∨t=1∨t=2:=abh
theorem HD(r:cM)(hr:r.obls.length≤1000000)(t c:Nat)(ht:t≤2)(hc:c≤2)(h:Heap):ai Tryz.prog 245 [aC r,.i t,.i c] h fun x h' =>x=rsA (mH r t c)∧h' =h:=by
 obtain⟨id,deny,tgt,cond,obls⟩:=r;simp only at hr;have hdp:=fun G=>qO obls hr bf (.inl rfl) G
 have hdd:=fun G=>qO obls hr cD (.inr rfl) G
 have hip:=fun G=>xP bf abk G
 have hid:=fun G=>xP cD abk G
 simp only[aQ,bf,cD,hbit,aA]at hdp hdd hip hid;refine abg Tryz.func245 38 [.cell 6 119] fun hwf=>?_
 simp only[go_sem,aC];intro i3 h3;simp only[go_sem];intro i6 h6;have n63:=aH h6;have n6:=aB h6;have hs:∀x y,Ab.Sub h (upd (upd h i3 x) i6 y):=fun x y=>((Sub.refl h).put h3 x).put n6 y
 have hs2:∀x y z,Ab.Sub h (upd (upd (upd h i3 x) i6 y) i6 z):=fun x y z=>(hs x y).put n6 z
 cases deny
 ·rcases tri ht with rfl|rfl|rfl
  ·exact af7
  ·exact ago
  ·rcases tri hc with rfl|rfl|rfl
   ·exact af7
   ·exact ago
   ·simp only[go_sem,aj,n63.symm,aA]
    refine(hdp _).pthen ?_;simp only[go_sem];exact .mk (rsA (bf,ew obls bf)) (qB _ bf rfl _) (hs _ _) ⟨rfl,rfl⟩
 ·rcases tri ht with rfl|rfl|rfl
  ·exact af7
  ·exact agp
  ·rcases tri hc with rfl|rfl|rfl
   ·exact af7
   ·exact agp
   ·simp only[go_sem,aj,n63.symm,aA]
    refine(hdd _).pthen ?_;simp only[go_sem];exact .mk (rsA (cD,ew obls cD)) (qB _ cD rfl _) (hs _ _) ⟨rfl,rfl⟩
theorem KK(gs:List bk)(t:fU):mb gs t≤2:=(sJ (ze gs) t 2).1
theorem JU(gs:List bk)(l:List aO):pT gs l≤2:=by
 grind [pT]
theorem HF(r:cM)(hr:DD r)(gs:List bk)(hf:qY gs)(h:Heap):ai Tryz.prog 211 [aC r,bH gs] h fun x h' =>x=rsA (gQ gs r)∧h' =h:=by
 have hob:=(jX hr.2.2.2).1;have hmt:=fun G=>KL r.tgt (BN hr.2.1) gs hf G
 have hcd:=fun G=>MB r.cond hr.2.2.1 gs hf G
 have hef:=fun G=>HD r abh (mb gs r.tgt) (pT gs r.cond) (KK _ _) (JU _ _) G
 simp only[aC,bH]at hmt hcd hef;refine abg Tryz.func211 15 [.cell 4 119] fun hwf=>?_
 simp only[go_sem,aC,bH];intro i2 h2;simp only[go_sem];intro i4 h4;have n42:=aH h4;have n4:=aB h4;obtain⟨H,eH⟩:∃H,upd (upd h i2 (some (.obj [.s r.id,.b r.deny,aU r.tgt,fj r.cond,aA r.obls] 224))) i4 (some (.obj [.v (.complex .f64 0 0),.sl [] .full] 119))=H:=⟨_,rfl⟩;have hH:Ab.Sub h H:=by rw[←eH];exact((Sub.refl h).put h2 _).put n4 _
 have g2:H i2=some (.obj [.s r.id,.b r.deny,aU r.tgt,fj r.cond,aA r.obls] 224):=aeW;have g4:H i4=some (.obj [.v (.complex .f64 0 0),.sl [] .full] 119):=acJ;simp only[go_sem];rw[eH];clear eH;refine .calls (hm1 i2 (.obj [.s r.id,.b r.deny,aU r.tgt,fj r.cond,aA r.obls] 224)) [0,1,2,3,5,6,7,4,8,9,10] (.hm1 g2) abl rfl ?_;simp only[go_sem,fR];refine(hmt _).pthen ?_;refine⟨.hm1 g2,?_⟩;simp only[go_sem];refine(hcd _).pthen ?_;refine⟨.hm1 g2,?_⟩;simp only[go_sem];refine(hef _).pthen ?_;refine⟨.hm1 g2,?_⟩;simp only[go_sem,rsA,aA,aQ,g4];refine⟨.hm1 (by rw[ag _ _ n42.symm];exact g2),?_⟩
 exact .mk _ (.refl _) (hH.put n4 _) ⟨rfl,rfl⟩
end Go.Proofs.YtcochaoekecfdaaGreatDoor
