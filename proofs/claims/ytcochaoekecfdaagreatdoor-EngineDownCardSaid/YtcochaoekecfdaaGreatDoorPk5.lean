/- The law EngineDown: pack 5 of its texts. -/
import Derived.WalkKit
import Derived.Lib.Walk
import Derived.Lib.SliceRun
import Derived.Lib.AppendZerosOnto
import Derived.Test.YtcochaoekecfdaaGreatDoorPk1
import Derived.Test.YtcochaoekecfdaaGreatDoorPk2
import Derived.Test.YtcochaoekecfdaaGreatDoorPk3
import Derived.Test.YtcochaoekecfdaaGreatDoorPk4
set_option linter.unusedSimpArgs false
set_option linter.unusedVariables false
set_option maxRecDepth 100000
namespace Go.Bf
open Go Go.Ab
def IL(o:OpD):OpD:={o with subj:=o.subj.take 20,case:=o.case.take 20,field:=o.field.take 20,to:=o.to.take 20,val:={o.val with s:=o.val.s.take 70},reason:=o.reason.take 70,text:=if o.text.length≤4096 then o.text.take 1000 else o.text}
def qY(m:Int)(b:Nat):Nat:=(if m.tmod (b+1)<0 then m.tmod (b+1)+(b+1)else m.tmod (b+1)).toNat
theorem FN(m:Int)(b:Nat):qY m b≤b:=by
 have t1:=Int.tmod_lt_of_pos m (show(0:Int)<b+1 by omega)
 unfold qY;split<;>omega
end Go.Bf
namespace Go.Proofs.YtcochaoekecfdaaGreatDoor
open Go Go.Ab Go.Bf
theorem mg(s:Txt)(n:Nat)(hn:n≤1000000)(h:Heap):ai Tryz.prog 50 [.s s,.i n] h fun r h' =>r= .s (s.take n)∧h' =h:=by
 refine abH Tryz.func50 11 [.tmp 4] fun hwf=> ?_
 have e:(if(n:Int)<(s.length:Int)then(n:Int)else(s.length:Int))=((min n s.length:Nat):Int):=abI
 simp only[go_sem,e];refine⟨abI,abI,abI, ?_⟩;simp only[go_sem,Option.isSome_none,Option.isSome_some,sB,Int.toNat_natCast];exact .same (.refl _) ⟨by rw[List.take_eq_take_min (i:=n) (l:=s)];rfl,rfl⟩
theorem Jr(m:Int)(b:Nat)(h:Heap)(hm' : -9223372036854775808≤m∧m≤9223372036854775807)(hb:b≤1099511627776):
  ai Tryz.prog 25 [.i m,.i 0,.i b] h fun r h' =>r= .i (qY m b)∧h' =h:=by
 have w0:IntKind.i64.wrap ((b:Int) - 0)=b:=IntWalk.i64_in _ abI;have w1:IntKind.i64.wrap (b:Int)=b:=IntWalk.i64_in _ abI;have w2:IntKind.i64.wrap ((b:Int)+1)=(b:Int)+1:=IntWalk.i64_in _ abI;have t1:=Int.tmod_lt_of_pos m (show 0<(b:Int)+1 by omega)
 have t2:=Int.lt_tmod_of_pos m (show 0<(b:Int)+1 by omega)
 have hd:(qY m b:Int)=if m.tmod (b+1)<0 then m.tmod (b+1)+(b+1)else m.tmod (b+1):=by
  grind [qY]
 generalize hq:m.tmod ((b:Int)+1)=q at t1 t2 hd;have w3:IntKind.i64.wrap (q+b)=q+b:=IntWalk.i64_in _ abI;have w4:IntKind.i64.wrap (q+b - 0)=q+b:=abJ;have w5:IntKind.i64.wrap (q+b+1)=q+b+1:=IntWalk.i64_in _ abI;refine abH Tryz.func25 24 [.tmp 6] fun hwf=> ?_
 simp only[go_sem,w1,w2,hq,Int.sub_zero];refine⟨abI,.intro (fun e=> ?_) (fun e=> ?_)⟩
 ·have e:=abA e
  rw[if_pos e]at hd;simp only[go_sem,w3,w5,Int.sub_zero];have w6:IntKind.i64.wrap (0+(q+b+1))=q+b+1:=abJ;have w7:IntKind.i64.wrap (q+b+1)=q+b+1:=IntWalk.i64_in _ abI;simp only[go_sem,w7,Int.zero_add];exact .same (.refl _) ⟨by grind [au,Int.add_assoc],rfl⟩
 ·have e:=abB e
  rw[if_neg e]at hd;have w7:IntKind.i64.wrap q=q:=IntWalk.i64_in q abI;have w6:IntKind.i64.wrap (0+q)=q:=abJ;simp only[go_sem,w7,Int.zero_add];exact .same (.refl _) ⟨by rw[hd];rfl,rfl⟩
theorem QC(o:OpD)(h:Heap):ai Tryz.prog 21 [opA o] h fun r h' =>r=opA (IL o)∧h' =h:=by
 refine abH Tryz.func21 38 [.cell 2 32] fun hwf=> ?_
 simp only[go_sem,opA,opC];intro i1 h1;simp only[go_sem];intro i2 h2;have n21:=aH h2;have n2:=aC h2;simp only[go_sem];have hns:∀G,Ab.Sub cK G:=fun G _ _ e=>ab8
 have hs:∀a b,Ab.Sub h (upd (upd h i1 a) i2 b):=fun a b=>((Sub.refl h).put h1 a).put n2 b
 refine .stage (pick (upd (upd h i1 (some (.obj [.i o.kind,.s o.subj,.s o.case,.s o.field,.s o.to,.i o.val.kind,.i o.val.n,.s o.val.s,.i o.review,.s o.text,.s o.reason,.b o.glass] 32))) i2 _) [i1]) [0,1,3,4,6,7,9,10,2,12,5,8,11] [13,14,15,16,17,18,19] bw abM ?_;simp only[go_sem,bz (show i1∈ [i1] by simp),aj,n21.symm]
 refine(show ai Tryz.prog 50 [_,.i ((20:Nat):Int)] _ _ from(mg _ 20 abL _).mono fun r h' ⟨e1,e2⟩=> ?_)
 subst e1;subst e2
 refine⟨bw, ?_⟩;simp only[go_sem];refine(show ai Tryz.prog 50 [_,.i ((20:Nat):Int)] _ _ from(mg _ 20 abL _).mono fun r h' ⟨e1,e2⟩=> ?_)
 subst e1;subst e2
 refine⟨bw, ?_⟩;simp only[go_sem];refine(show ai Tryz.prog 50 [_,.i ((20:Nat):Int)] _ _ from(mg _ 20 abL _).mono fun r h' ⟨e1,e2⟩=> ?_)
 subst e1;subst e2
 refine⟨bw, ?_⟩;simp only[go_sem];refine(show ai Tryz.prog 50 [_,.i ((20:Nat):Int)] _ _ from(mg _ 20 abL _).mono fun r h' ⟨e1,e2⟩=> ?_)
 subst e1;subst e2
 refine⟨bw, ?_⟩;simp only[go_sem];refine⟨cK,hns _, ?_⟩;simp only[go_sem,aj,n21.symm];refine⟨hns _,hns _,hns _,hns _, ?_⟩;refine .stage (pick _ [i1]) [0,1,2,4,5,3,7,8,6] [9,10,11] bw abM ?_;simp only[go_sem,bz (show i1∈ [i1] by simp)]
 refine(show ai Tryz.prog 50 [_,.i ((70:Nat):Int)] _ _ from(mg _ 70 abL _).mono fun r h' ⟨e1,e2⟩=> ?_)
 subst e1;subst e2
 refine⟨bw, ?_⟩;simp only[go_sem];refine(show ai Tryz.prog 50 [_,.i ((70:Nat):Int)] _ _ from(mg _ 70 abL _).mono fun r h' ⟨e1,e2⟩=> ?_)
 subst e1;subst e2
 refine⟨bw, ?_⟩;simp only[go_sem];refine⟨cK,hns _, ?_⟩;simp only[go_sem];refine⟨hns _,hns _, ?_⟩;cases d1:decide ((o.text.length:Int)≤4096)
 ·have p1:¬o.text.length≤4096:=by grind
  exact ag0
 ·have p1:o.text.length≤4096:=by grind
  simp only[go_sem];refine(show ai Tryz.prog 50 [_,.i ((1000:Nat):Int)] _ _ from(mg _ 1000 abL _).mono fun r h' ⟨e1,e2⟩=> ?_)
  subst e1;subst e2
  exact ag0
end Go.Proofs.YtcochaoekecfdaaGreatDoor
namespace Go.Bf
open Go Go.Ab
def iE(cat:Int)(name:Txt)(g:bl):Bool:=g.cat==cat && g.name==name
def getD(l:List bl)(cat:Int)(name:Txt):List bA:=match l.find? (iE cat name)with
 |some g=>g.bag
 |none=>[]
end Go.Bf
namespace Go.Proofs.YtcochaoekecfdaaGreatDoor
open Go Go.Ab Go.Bf
theorem Ku{α:Type}(y:AV)(xs:List AV)(ds:List α)(q:α→Bool)(g:FuncId)(cap:List AV)(h:Heap)(hb:Rd h 3 y xs)(hn:xs.length=ds.length)(hl:xs.length≤1000000000)(hx:∀x∈xs,bx x=true)
  (hp:∀i (h1:i<xs.length) (h2:i<ds.length),ai Tryz.prog g (xs[i]::cap) h fun r h' =>r= .b (q ds[i])∧h' =h):
  ai Tryz.prog 310 [y,.fn g cap] h fun r h' =>r= .i (ixD q ds)∧h' =h:=by
 refine abH Tryz.func310 19 [.tmp 4] fun hwf=> ?_
 simp only[go_sem,hb.len];refine .intro (fun m ρ h' =>h' =h∧∃i:Nat,i≤xs.length∧m=xs.length - i∧(∀j (hj:j<i) (h2:j<ds.length),q ds[j]=false)∧lk ρ 0=some y∧lk ρ 1=some (.fn g cap)∧lk ρ 7=some (.i xs.length)∧lk ρ 8=some (.i i)) xs.length ?_ ?_
 ·refine⟨rfl,0,abI,rfl,fun j hj=>abI, ?_, ?_, ?_, ?_⟩<;>simp only[go_sem]
 ·rintro m ρ h' ⟨rfl,i,hi,rfl,hc,r0,r1,r7,r8⟩
  simp only[go_sem,r7,r8];refine .intro (fun e=> ?_) (fun e=> ?_)
  ·have hlt:i<xs.length:=abF e
   have hlt2:i<ds.length:=abI;have w1:IntKind.i64.wrap ((i:Int)+1)=((i+1:Nat):Int):=abV;simp only[go_sem,r0,r1,r8];refine hb.idx (e:=196) i rfl hlt abW abL fun p hp1=> ?_
   have hld:=hp1.all (U:=U) (ty:=196) abL acF adx;simp only[go_sem,hld];refine(show ai Tryz.prog g (xs[i]::cap) _ _ from hp i hlt hlt2).pthen ?_
   cases d1:q ds[i]
   ·simp only[go_sem,r8,w1]
    refine⟨_, ?_,rfl,i+1,abI,rfl,fun j hj h2=> ?_, ?_, ?_, ?_, ?_⟩
    ·omega
    ·grind
    all_goals simp only[go_sem,r0,r1,r7]
   ·simp only[go_sem]
    exact .same (.refl _) ⟨acr,rfl⟩
  ·have hge:i=xs.length:=by grind
   simp only[go_sem];exact .same (.refl _) ⟨acd,rfl⟩
theorem IT{h:Heap}(g:bl){k1 k2:Nat}{cat:Int}{name:Txt}(h1:h k1=some (.obj [.i cat] 3))(h2:h k2=some (.obj [.s name] 9)):ai Tryz.prog 311 [kJ g,.ptr k1 0,.ptr k2 0] h fun r h' =>r= .b (iE cat name g)∧h' =h:=by
 refine abH Tryz.func311 15 [.tmp 4] fun hwf=> ?_
 simp only[go_sem,kJ];intro i1 hi1;have n1:k1≠i1:=fun e=>abJ
 have n2:k2≠i1:=fun e=>abJ
 simp only[go_sem,aj,n1,h1];cases d1:(g.cat==cat)
 ·simp only[go_sem]
  exact .mk _ (.refl _) (.ak hi1) ⟨by simp only[iE,d1];rfl,rfl⟩
 ·simp only[go_sem,aj,n2,h2]
  exact .mk _ (.refl _) (.ak hi1) ⟨by simp only[iE,d1];rfl,rfl⟩
theorem Lf(gs:List bl)(cat:Int)(name:Txt)(hl:gs.length≤1000000000)(h:Heap):ai Tryz.prog 282 [bH gs,.i cat,.s name] h fun r h' =>r= .i (ixD (iE cat name) gs)∧h' =h:=by
 refine abH Tryz.func282 10 [.tmp 6] fun hwf=> ?_
 simp only[go_sem,bH];intro i1 h1;simp only[go_sem];intro i2 h2;have n2:=aC h2;have hs:∀a b,Ab.Sub h (upd (upd h i1 a) i2 b):=fun a b=>((Sub.refl h).put h1 a).put n2 b
 simp only[go_sem];refine(Ku _ _ gs (iE cat name) _ [.ptr i1 0,.ptr i2 0] _ (dN kJ 3 (fun _=>rfl) _ gs) abQ abJ (nR (fun _=>rfl) _) fun i a b=>by
  rw[abz];exact IT _ (by grind [ag,ah]) (ah ..)).pthen ?_
 simp only[go_sem];exact adl
theorem get_at{gs:List bl}{cat:Int}{name:Txt}(h:gs.findIdx (iE cat name)<gs.length):getD gs cat name=gs[gs.findIdx (iE cat name)].bag:=by
 unfold getD;rw[show gs.find? (iE cat name)=some gs[gs.findIdx (iE cat name)]from List.find?_eq_some_iff_getElem.2 ⟨List.findIdx_getElem (w:=h),_,h,rfl,fun j hj=>abJ⟩]
theorem P9{gs:List bl}{cat:Int}{name:Txt}(h:¬gs.findIdx (iE cat name)<gs.length):getD gs cat name= []:=by
 grind [getD,iE,List.findIdx_le_length,List.find?_eq_none,List.findIdx_eq_length]
end Go.Proofs.YtcochaoekecfdaaGreatDoor
namespace Go.Bf
open Go Go.Ab
def cT:Txt:=[99]
def stC(st:Txt)(log:List wN):aL:=⟨cT,SH,st,[],log⟩
def oL:List Txt:=[jl,vT,zY,gL]
abbrev lt(a b:Txt):Prop:=Op.bytesLess a b=true
theorem lt_irrefl:∀a:Txt,¬lt a a
 | []=>abL
 |a::x=>by
  have:=lt_irrefl x;simp only[lt,Op.bytesLess,Bool.or_eq_true,Bool.and_eq_true,decide_eq_true_eq,beq_self_eq_true,true_and,not_or];exact⟨UInt8.lt_irrefl a,this⟩
theorem lt_trans:∀ {a b c:Txt},lt a b→lt b c→lt a c
 |_,[],_,h,_=>by simp_all [Txt,lt,Op.bytesLess]
 | [],b::y,c,_,h=>by cases c<;>simp[lt,Op.bytesLess]at h⊢
 |a::x,b::y,[],_,h=>by simp[lt,Op.bytesLess]at h
 |a::x,b::y,c::z,h1,h2=>by
  simp only[lt,Op.bytesLess,Bool.or_eq_true,Bool.and_eq_true,decide_eq_true_eq,beq_iff_eq]at h1 h2⊢;rcases h1 with h1|⟨rfl,h1⟩
  ·grind
  ·rcases h2 with h2|⟨rfl,h2⟩
   ·grind
   ·exact .inr ⟨rfl,lt_trans h1 h2⟩
theorem Aq:∀a b:Txt,lt a b∨a=b∨lt b a
 | [],[]=>abQ
 | [],b::y=> .inl rfl
 |a::x,[]=> .inr (.inr rfl)
 |a::x,b::y=>by
  simp only[lt,Op.bytesLess,Bool.or_eq_true,Bool.and_eq_true,decide_eq_true_eq,beq_iff_eq];rcases UInt8.lt_or_lt_of_ne (a:=a) (b:=b)with h
  by_cases e:a=b
  ·subst e
   rcases Aq x y with h|rfl|h
   ·grind
   ·simp
   grind
  grind
def Asc(cs:List aL):Prop:=cs.Pairwise fun a b=>lt a.id b.id
theorem F7{c:aL}{cs:List aL}{id:Txt}(h:¬lt c.id id):findD (c::cs) id=0:=by
 simp_all [Op.bytesLess,false,findD,List.findIdx_cons,geB]
theorem F8{c:aL}{cs:List aL}{id:Txt}(h:lt c.id id):findD (c::cs) id=findD cs id+1:=by
 simp_all [Op.bytesLess,true,findD,List.findIdx_cons,geB]
theorem uW:∀ {cs:List aL},Asc cs→∀id,bY cs id=cs.any fun c=>c.id==id
 | [],_,id=>rfl
 |c::cs,h,id=>by
  obtain⟨h1,h2⟩:=List.pairwise_cons.1 h
  by_cases hl:lt c.id id
  ·have hne:(c.id==id)=false:=by
    grind [beq_eq_false_iff_ne,lt_irrefl]
   have e:bY (c::cs) id=bY cs id:=by
    grind [bY,F8]
   rw[e,uW h2 id,List.any_cons,hne,Bool.false_or]
  ·have e:bY (c::cs) id=(c.id==id):=by
    grind [bY,F7]
   rw[e,List.any_cons];cases hc:(c.id==id)
   ·have hlt:lt id c.id:=by
     rcases Aq c.id id with h|h|h
     ·grind
     ·grind
     omega
    grind
   ·simp
theorem FX:∀ {cs:List aL},Asc cs→∀c:aL,(cs.any fun d=>d.id==c.id)=false→Asc (cs.take (findD cs c.id)++ [c]++cs.drop (findD cs c.id))
 | [],_,c,_=>by simp[Asc,findD]
 |d::cs,h,c,hn=>by
  obtain⟨h1,h2⟩:=List.pairwise_cons.1 h;simp only[List.any_cons,Bool.or_eq_false_iff]at hn
  by_cases hl:lt d.id c.id
  ·rw[F8 hl]
   simp only[List.take_succ_cons,List.drop_succ_cons,List.cons_append];refine List.pairwise_cons.2 ⟨fun e he=> ?_,FX h2 c hn.2⟩
   grind
  ·rw[F7 hl]
   have hlt:lt c.id d.id:=by
    rcases Aq d.id c.id with h|h|h
    ·grind
    ·grind
    omega
   refine List.pairwise_cons.2 ⟨fun e he=> ?_,h⟩
   rcases List.mem_cons.1 he with rfl|he
   ·omega
   grind [lt_trans]
def D8(fs:List cV):Prop:=fs.Pairwise fun a b=>lt a.name b.name
theorem A3(name:Txt)(v:bA):eN [] name v= [⟨name,v⟩]:=rfl
theorem za{f:cV}{fs:List cV}{name:Txt}{v:bA}(h:lt f.name name):eN (f::fs) name v=f::eN fs name v:=by
 have hb:Op.bytesLess f.name name=true:=h;unfold eN;simp only[List.findIdx_cons,geB,hb,Bool.not_true,cond_false,List.getElem?_cons_succ];generalize hi:fs.findIdx (fun f=> !Op.bytesLess f.name name)=i
 cases e:fs[i]? with
 |none=>simp
 |some g=>
  by_cases hg:g.name=name
  ·simp[hg]
  ·simp[hg]
theorem yY{f:cV}{fs:List cV}{name:Txt}{v:bA}(h:f.name=name):eN (f::fs) name v=⟨f.name,v⟩::fs:=by
 subst h;have hb:Op.bytesLess f.name f.name=false:=by
  grind [Op.bytesLess,lt_irrefl]
 unfold eN;simp[List.findIdx_cons,geB,hb]
theorem yZ{f:cV}{fs:List cV}{name:Txt}{v:bA}(h:lt name f.name):eN (f::fs) name v=⟨name,v⟩::f::fs:=by
 have hb:Op.bytesLess f.name name=false:=by
  grind [Op.bytesLess,lt_irrefl,lt_trans]
 have hne:f.name≠name:=fun e=>by rw[e]at h;exact lt_irrefl _ h
 unfold eN;simp[List.findIdx_cons,geB,hb,hne]
theorem u0:∀ {fs:List cV} {name:Txt} {v:bA} {g:cV},g∈eN fs name v→g=⟨name,v⟩∨g∈fs
 | [],name,v,g,h=>by grind [A3,List.mem_singleton]
 |f::fs,name,v,g,h=>by
  rcases Aq f.name name with hl|hl|hl
  ·rw[za hl]at h
   rcases List.mem_cons.1 h with rfl|h
   ·simp
   ·rcases u0 h with h|h
    ·grind
    grind
  ·rw[yY hl]at h
   grind
  ·rw[yZ hl]at h
   grind
theorem A1:∀ {fs:List cV} {name:Txt} {v:bA},D8 fs→D8 (eN fs name v)
 | [],name,v,_=>by grind [A3,D8]
 |f::fs,name,v,h=>by
  obtain⟨h1,h2⟩:=List.pairwise_cons.1 h;rcases Aq f.name name with hl|hl|hl
  ·rw[za hl]
   refine List.pairwise_cons.2 ⟨fun g hg=> ?_,A1 h2⟩
   rcases u0 hg with rfl|hg
   ·omega
   grind
  ·rw[yY hl]
   exact List.pairwise_cons.2 ⟨h1,h2⟩
  ·rw[yZ hl]
   refine List.pairwise_cons.2 ⟨fun g hg=> ?_,h⟩
   rcases List.mem_cons.1 hg with rfl|hg
   ·omega
   grind [lt_trans]
theorem A2:∀ {fs:List cV} {name:Txt} {v:bA},D8 fs→(eN fs name v).length=if fs.any (fun f=>f.name==name)then fs.length else fs.length+1
 | [],name,v,_=>rfl
 |f::fs,name,v,h=>by
  obtain⟨h1,h2⟩:=List.pairwise_cons.1 h;rcases Aq f.name name with hl|hl|hl
  ·have hne:(f.name==name)=false:=by grind [beq_eq_false_iff_ne,lt_irrefl]
   rw[za hl,List.length_cons,A2 h2,List.any_cons,hne,Bool.false_or];split<;>simp
  ·grind [yY]
  ·have hne:(f.name==name)=false:=by grind [beq_eq_false_iff_ne,lt_irrefl]
   have hno:(fs.any fun f=>f.name==name)=false:=List.any_eq_false.2 fun g hg he=>by
    have:=lt_trans hl (h1 g hg);rw[beq_iff_eq.1 he]at this;exact lt_irrefl _ this
   rw[yZ hl,List.any_cons,hne,hno];simp
theorem ED(f:cV)(fs:List cV)(n:Txt):dZ (f::fs) n=if f.name=n then f.val else dZ fs n:=by
 grind [dZ]
def mkC(who id:Txt):aL:=⟨id,who,jl,[],[⟨0,who,[110,101,119]⟩]⟩
def V7(cs:List aL)(id:Txt):Bool:=cs.any fun c=>c.id==id
end Go.Bf
namespace Go.Ab
open Go
section
variable {α : Type}
def dget(l:List (List UInt8×α))(k:List UInt8):Option α:=(l.find? fun p=>p.1==k).map (·.2)
def dset(l:List (List UInt8×α))(k:List UInt8)(v:α):List (List UInt8×α):=if(dget l k).isSome then l.map (fun p=>if p.1==k then(p.1,v)else p)else l++ [(k,v)]
end
end Go.Ab
namespace Go.Bf
open Go Go.Ab Go.Proofs.YtcochaoekecfdaaGreatDoor
structure Own (cs:List aL) (own:List (Txt×Txt)):Prop where
 asc:Asc cs
 len:cs.length=own.length
 small:cs.length≤64
 mem:∀c∈cs,c=mkC c.owner c.id∧dget own c.id=some c.owner
 has:∀id,V7 cs id=(dget own id).isSome
 who:∀id w,dget own id=some w→w≠ []
 keys:∀p∈own,p.1.length≤3
theorem pM:∀ {cs:List aL},Asc cs→∀ {id:Txt},bY cs id=true→bu cs id∈cs∧(bu cs id).id=id:=by
 unfold bu
 grind [bY,List.getElem?_eq_getElem]
end Go.Bf
namespace Go.Proofs.YtcochaoekecfdaaGreatDoor
open Go Go.Ab Go.Bf
def o7(o:OpD):Prop:=i64 o.kind∧i64 o.val.kind∧i64 o.val.n∧i64 o.review
theorem J6{x:AV}(h:Dat U 30 x):∃v,x=aR v∧i64 v.kind∧i64 v.n:=by
 obtain⟨ys,rfl,hys⟩:=h.AP (show(U 30).k= .strct [(0,3),(1,3),(2,9)] by rfl)
 obtain⟨y0,_,rfl,d0,y1,_,rfl,d1,y2,_,rfl,d2,rfl⟩:=hys;obtain⟨n,rfl,hn⟩:=d0.i64 abW;obtain⟨m,rfl,hm⟩:=d1.i64 abW;obtain⟨s,rfl,_⟩:=d2.oO abW;exact⟨⟨n,m,s⟩,abW,hn,hm⟩
theorem PG{x:AV}(h:Dat U 32 x):∃o,x=opA o∧o7 o:=by
 obtain⟨ys,rfl,hys⟩:=h.AP (show(U 32).k= .strct [(0,3),(1,9),(2,9),(3,9),(4,9),(5,30),(8,3),(9,9),(10,9),(11,4)] by rfl)
 obtain⟨y0,_,rfl,d0,y1,_,rfl,d1,y2,_,rfl,d2,y3,_,rfl,d3,y4,_,rfl,d4,y5,_,rfl,d5,y6,_,rfl,d6,y7,_,rfl,d7,y8,_,rfl,d8,y9,_,rfl,d9,rfl⟩:=hys;obtain⟨a,rfl,ha⟩:=d0.i64 abW;obtain⟨b,rfl,_⟩:=d1.oO abW;obtain⟨c,rfl,_⟩:=d2.oO abW;obtain⟨d,rfl,_⟩:=d3.oO abW;obtain⟨e,rfl,_⟩:=d4.oO abW;obtain⟨v,rfl,hv1,hv2⟩:=J6 d5;obtain⟨r,rfl,hr⟩:=d6.i64 abW;obtain⟨t,rfl,_⟩:=d7.oO abW;obtain⟨s,rfl,_⟩:=d8.oO abW;obtain⟨g,rfl⟩:=d9.JT abW;exact⟨⟨a,b,c,d,e,v,r,t,s,g⟩,abW,ha,hv1,hv2,hr⟩
theorem inH{P:Program}{f:FuncId}{args:List AV}{h:Heap}{Q:AV→Heap→Prop}(hh:∀H2,H2=h→ai P f args H2 Q):ai P f args h Q:=hh h rfl
end Go.Proofs.YtcochaoekecfdaaGreatDoor
namespace Go.Bf
open Go Go.Ab Go.Proofs.YtcochaoekecfdaaGreatDoor
def V8(v:Int):bA:=⟨2,v,[]⟩
structure Last (fs:List cV) (last:List (Txt×Int)):Prop where
 asc:D8 fs
 len:fs.length=last.length
 small:fs.length≤16
 kind:∀f∈fs,f.val.kind=2
 get:∀n,dZ fs n=((dget last n).map V8).getD ax
 keys:∀p∈last,p.1.length=2
end Go.Bf
namespace Go.Bf
open Go Go.Ab
def Fine(n:Nat)(st:PS):Prop:=(st.bad=0∨st.bad=5∨st.bad=6)∧0≤st.place∧st.place≤n
def A5(n:Nat)(ts:List rf):Prop:=∀i,0≤(ts.getD i ⟨7,0,0,[]⟩).pos∧(ts.getD i ⟨7,0,0,[]⟩).pos≤n
theorem xC{n:Nat}{st:PS}{e p:Int}(h:Fine n st)(he:e=5∨e=6)(h0:0≤p)(h1:p≤n):Fine n (bG st e p):=by
 unfold bG;split
 ·exact⟨.inr he,h0,h1⟩
 omega
theorem CE{n:Nat}{a b:PS}(h:Rch a b)(ht:A5 n a.ts)(hf:Fine n a):Fine n b:=by
 induction h with
 |refl=>omega
 |wrong e p h1 he hp ih=>
  obtain⟨i,_,rfl⟩:=hp;rw[(qT h1).1];exact xC ih he (ht i).1 (ht i).2
 |next _ _ _ ih=>exact ih
theorem GK{a b:PS}(h:mY a b):b.ts=a.ts:=by
 induction h with
 |refl=>rfl
 |small _ h1 ih=>grind [qT,trans]
 |rule _ _ _ _ ih=>exact ih
theorem HP{n:Nat}{a b:PS}(h:mY a b)(ht:A5 n a.ts)(hf:Fine n a):Fine n b:=by
 induction h with
 |refl=>omega
 |small h1 h2 ih=>grind [CE,GK]
 |rule _ _ _ _ ih=>exact ih
theorem xM{s:Txt}{ts:List rf}(h:rS s= .ok ts):A5 s.length ts:=by
 obtain⟨pre,rfl,_,h3,_⟩:=Ao h;intro i
 grind
theorem Kj{s:Txt}{ts:List rf}(h:rS s= .ok ts):Fine s.length (pg s (gu 4 ⟨ts,0,0,0,0⟩)):=by
 have h0:Fine s.length ⟨ts,0,0,0,0⟩:=⟨.inl rfl,Int.le_refl _,abQ⟩;have hr:=BO 4 ⟨ts,0,0,0,0⟩;have h1:=HP hr (xM h) h0;have ht:A5 s.length (gu 4 ⟨ts,0,0,0,0⟩).2.ts:=by rw[GK hr];exact xM h
 have h2:Fine s.length (if(aJ (gu 4 ⟨ts,0,0,0,0⟩).2).kind=7 then(gu 4 ⟨ts,0,0,0,0⟩).2 else bk (gu 4 ⟨ts,0,0,0,0⟩).2):=by
  grind [CE,j0]
 unfold pg;generalize (if(aJ (gu 4 ⟨ts,0,0,0,0⟩).2).kind=7 then(gu 4 ⟨ts,0,0,0,0⟩).2 else bk (gu 4 ⟨ts,0,0,0,0⟩).2)=st1 at h2⊢
 split
 ·exact xC h2 (.inl rfl) abI (Int.le_refl _)
 ·exact afM
theorem Dk(s:Txt):(aP s).2.1=0∧(aP s).2.2=0∧gm (aP s).1=0∨
  ((aP s).2.1=5∨(aP s).2.1=6)∧0≤(aP s).2.2∧(aP s).2.2≤s.length∧(aP s).1=nP:=by
 unfold aP;cases h:rS s with
 |bad e a=>
  have:=xU h;exact .inr ⟨this.1,this.2.1,this.2.2,rfl⟩
 |ok ts=>
  have hf:=Kj h;simp only[yh];split
  ·rename_i hb
   refine .inl ⟨rfl,rfl, ?_⟩;simp only;unfold pg at hb;generalize (if(aJ (gu 4 ⟨ts,0,0,0,0⟩).2).kind=7 then(gu 4 ⟨ts,0,0,0,0⟩).2 else bk (gu 4 ⟨ts,0,0,0,0⟩).2)=st1 at hb
   split at hb
   ·simp_all [bG,if_pos,absurd,Int]
   omega
  ·rename_i hb
   exact .inr ⟨hf.1.resolve_left hb,hf.2.1,hf.2.2,rfl⟩
end Go.Bf
namespace Go.Bf
open Go Go.Ab Go.Proofs.YtcochaoekecfdaaGreatDoor
theorem qA{p:bJ}(h:gm p=0):mc 1 p:=by
 cases hw:jZ ⟨[],0⟩ 1 p with
 |bad e=>
  have:=tC 4 1 _ _ e rfl hw;rw[gm,hw]at h;exact(this h).elim
 |ok m=>grind [GD]
theorem Pr{fs:List cV}(h:∀f∈fs,eqV f.val ax=false)(n:Txt):(fs.any fun f=>f.name==n)= !(eqV (dZ fs n) ax):=by
 induction fs with
 |nil=>rfl
 |cons f fs ih=>
  rw[ED,List.any_cons]
  grind
structure tU (c:aL):Prop where
 id:br c.id=true
 owner:br c.owner=true
 state:c.state∈oL
 asc:D8 c.fields
 nfields:c.fields.length≤16
 field:∀f∈c.fields,br f.name=true∧bI f.val=true∧eqV f.val ax=false
 log1:1≤c.log.length
 log2:c.log.length≤256
 actor:∀x∈c.log,br x.actor=true∧i64 x.tick
structure cY (k:Nat) (s:an):Prop where
 tick:0≤s.tick∧s.tick≤1099511627776
 asc:Asc s.cases
 ncases:s.cases.length≤64
 case:∀c∈s.cases,tU c
 nrev:s.reviews.length≤1000
 nnot:s.notices.length≤1000
 roles:s.roles.length≤64
 role:∀r∈s.roles,br r.subj=true∧br r.role=true
 pol:gm s.policy=0
 ver:0≤s.version∧s.version≤k
theorem cY.few{k:Nat}{s:an}(h:cY k s):Few s:=by
 have h1:=h.ncases;have h2:=h.nrev;have h3:=h.nnot;have h4:=h.roles;refine⟨abI,fun c hc=> ?_,fun c hc=> ?_,abI,abI,abI⟩
 ·have:=(h.case c hc).nfields;omega
 ·have:=(h.case c hc).log2;omega
theorem cY.mc{k:Nat}{s:an}(h:cY k s):mc 1 s.policy:=qA h.pol
theorem cY.FH{k:Nat}{s:an}(h:cY k s):i64 s.tick:=by
 have:=h.tick;constructor<;>omega
theorem Jd:cY 0 rj:=by
 refine⟨abL,.nil,abL,fun c h=>acD,abL,abL,abL,fun r h=>acD,abW,abL⟩
theorem jU{s:Txt}(h:iK s=true)(hn:s≠ []):br s=true:=by
 simp_all [iK,Bool.or_eq_true,beq_iff_eq]
structure O5 (o:OpD):Prop where
 subj:br o.subj=true
 kind:1≤o.kind∧o.kind≤8
 case:iK o.case=true
 field:iK o.field=true
 to:iK o.to=true
 val:eqV o.val ax=true∨bI o.val=true
 text:o.text.length≤4096
 ok:okD o=true
theorem sP{o:OpD}(h:eO o=true):O5 o:=by
 simp only[eO,Bool.and_eq_true,decide_eq_true_eq,Bool.or_eq_true,dF]at h;obtain⟨⟨⟨⟨⟨⟨⟨h1,h2⟩,h3⟩,h4⟩,h5⟩,h6⟩,h7⟩,⟨⟨h8,h9⟩,h10⟩,h11⟩:=h;exact⟨h1,⟨h8,h9⟩,h4,h5,h6,h7,h3,h10⟩
theorem xE{a b:Txt}(h:lW a b=true):b∈oL:=by
 unfold lW at h;simp only[oL,List.mem_cons,List.not_mem_nil,or_false]
 grind
theorem mem_modify{α:Type}{l:List α}{i:Nat}{f:α→α}{x:α}(h:x∈l.modify i f):x∈l∨∃hi:i<l.length,x=f l[i]:=by
 obtain⟨j,hj,rfl⟩:=List.mem_iff_getElem.1 h
 grind
theorem jX{α β:Type}{l:List α}{i:Nat}{f:α→α}{g:α→β}(h:∀x,g (f x)=g x):(l.modify i f).map g=l.map g:=by
 refine List.ext_getElem abQ fun j h1 h2=> ?_
 grind
theorem Bi{cs cs' :List aL}(h:cs'.map (·.id)=cs.map (·.id))(ha:Asc cs):Asc cs' :=by
 unfold Asc at*;have h1:(cs.map (·.id)).Pairwise lt:=abJ
 rw[←h,List.pairwise_map]at h1;exact h1
theorem Nn{cs:List aL}{i:Nat}{c d:aL}(h:d∈cs.take i++ [c]++cs.drop i):d=c∨d∈cs:=by
 grind
theorem LH{k:Nat}{s:an}{o:OpD}(hs:cY k s)(hr:bM s o=0):cY (k+1) (doD aP s o):=by
 have hf:eO o=true:=by
  unfold bM at hr
  grind
 have F:=sP hf;have vk:0≤s.version∧s.version≤((k+1:Nat):Int):=⟨hs.ver.1,by have:=hs.ver.2;omega⟩
 unfold bM at hr;rw[hf]at hr;simp only[Bool.true_eq_false,if_false]at hr;have hok:=F.ok;unfold okD at hok;have t64:=hs.FH;unfold doD
 by_cases k1:o.kind=1
 ·simp only[k1,if_true]at hr hok⊢
  have hno:bY s.cases o.case=false:=by
   grind
  rw[hno]at hr;simp only[Bool.false_eq_true,if_false]at hr;have hlt:¬64≤s.cases.length:=fun h=>afy
  have hc:br o.case=true:=jU F.case abJ;rw[uW hs.asc]at hno;refine {hs with asc:= ?_,ncases:= ?_,case:= ?_,ver:=vk}
  ·exact FX hs.asc (iX s ⟨o.case,o.subj,jl,[],[]⟩ o.subj [110,101,119]) hno
  ·grind
  ·intro c h
   rcases Nn h with rfl|h
   ·exact⟨hc,F.subj,by simp[iX,oL],.nil,afO,fun f h=>acD,afO,afO,fun x h=>by
     simp only[iX,List.nil_append,List.mem_singleton]at h;subst h;exact⟨F.subj,t64⟩⟩
   ·exact hs.case c h
 ·simp only[k1,if_false]at hr hok⊢
  by_cases k3:o.kind=3
  ·have hk:2≤o.kind∧o.kind≤4:=by omega
   simp only[hk,and_self,if_true]at hr;simp only[k3,if_true];have e2:¬(o.kind=2∨o.kind=6):=abI;simp only[k3,if_true,show¬((3:Int)=2∨(3:Int)=6) by decide,if_false,Bool.and_eq_true,Bool.not_eq_true']at hok
   have hth:bY s.cases o.case=true:=by
    unfold bX at hr
    grind
   unfold bX at hr;rw[hth]at hr;simp only[Bool.true_eq_false,if_false,k3,true_and]at hr;obtain⟨hm,hid⟩:=pM hs.asc hth;have hlt:=jn hth;have hce:bu s.cases o.case=s.cases[findD s.cases o.case]:=by
    simp_all [bu,if_pos]
   rw[hce]at hr hm;generalize hcc:s.cases[findD s.cases o.case]=c at hr hm;have hc:=hs.case c hm;have h16:¬(c.fields.length≥16∧eqV (dZ c.fields o.field) ax=true):=fun h=>by simp[h.1,h.2]at hr
   rw[if_neg h16]at hr;have hlg:¬c.log.length≥256:=fun h=>afy
   have hnf:br o.field=true:=jU F.field abJ;have hvz:eqV o.val ax=false:=hok.2;have hv:bI o.val=true:=F.val.resolve_left abJ;refine {hs with asc:= ?_,ncases:= ?_,case:= ?_,ver:=vk}
   ·exact Bi (jX fun x=>rfl) hs.asc
   ·simpa using hs.ncases
   ·intro d hd
    rcases mem_modify hd with hd|⟨hi,rfl⟩
    ·exact hs.case d hd
    ·rw[hcc]
     have hany:=Pr (fun f hf=>(hc.field f hf).2.2) o.field
     have hlen:=A2 (v:=o.val) (name:=o.field) hc.asc;refine⟨hc.id,hc.owner,hc.state,A1 hc.asc, ?_, ?_,afO, ?_, ?_⟩
     ·simp only[iX]
      rw[hlen,hany];have:=hc.nfields;cases he:eqV (dZ c.fields o.field) ax
      ·simp;omega
      ·rw[he]at h16;simp at h16⊢;omega
     ·intro f hf
      rcases u0 hf with rfl|hf
      ·grind
      ·exact hc.field f hf
     ·grind [iX,abC,List.length_singleton]
     ·intro x hx
      exact agS
  ·simp only[k3,if_false]at hok⊢
   by_cases k4:o.kind=4
   ·have hk:2≤o.kind∧o.kind≤4:=by omega
    simp only[hk,and_self,if_true]at hr;simp only[k4,if_true];have hth:bY s.cases o.case=true:=by
     unfold bX at hr
     grind
    unfold bX at hr;rw[hth]at hr;simp only[Bool.true_eq_false,if_false,k4]at hr;obtain⟨hm,hid⟩:=pM hs.asc hth;have hlt:=jn hth;have hce:bu s.cases o.case=s.cases[findD s.cases o.case]:=by
     simp_all [bu,if_pos]
    rw[hce]at hr hm;generalize hcc:s.cases[findD s.cases o.case]=c at hr hm;have hc:=hs.case c hm;simp only[show¬((4:Int)=3) by decide,false_and,if_false,show((4:Int)≠2) by decide,ne_eq,not_false_eq_true,true_and,false_or]at hr
    have hlg:¬c.log.length≥256:=fun h=>afy
    rw[if_neg hlg]at hr;have hfo:lW c.state o.to=true:=by
     grind
    refine {hs with asc:= ?_,ncases:= ?_,case:= ?_,ver:=vk}
    ·exact Bi (jX fun x=>rfl) hs.asc
    ·simpa using hs.ncases
    ·intro d hd
     rcases mem_modify hd with hd|⟨hi,rfl⟩
     ·exact hs.case d hd
     ·rw[hcc]
      refine⟨hc.id,hc.owner,xE hfo,hc.asc,hc.nfields,hc.field,afO, ?_, ?_⟩
      ·grind [iX,abC,List.length_singleton]
      ·intro x hx
       exact agS
   ·simp only[k4,if_false]at hok⊢
    by_cases k5:o.kind=5
    ·simp only[k5,if_true]
     refine {hs with nrev:= ?_,ver:=vk}
     simpa using hs.nrev
    ·simp only[k5,if_false]at hok⊢
     by_cases k6:o.kind=6
     ·have hk:¬(2≤o.kind∧o.kind≤4):=by omega
      simp only[k6,if_true]at hr;simp only[k6,if_true];simp only[k6,or_true,if_true,Bool.and_eq_true]at hok;have hc:br o.case=true:=jU F.case abJ;have hfd:br o.field=true:=jU F.field abJ;cases hh:xJ s.roles ⟨o.case,o.field⟩with
      |true=>simp only[if_true];exact {hs with ver:=vk}
      |false=>
       rw[hh]at hr;have hlt:¬s.roles.length≥64:=fun h=>afy
       simp only[Bool.false_eq_true,if_false];refine {hs with roles:= ?_,role:= ?_,ver:=vk}
       ·grind
       ·intro r h
        rcases List.mem_append.1 h with h|h
        ·exact hs.role r h
        grind
     ·simp only[k6,if_false]
      by_cases k7:o.kind=7
      ·simp only[k7,if_true]
       by_cases hp:(aP o.text).2.1=0
       ·simp only[hp,if_true]
        have hr0:gm (aP o.text).1=0:=by
         grind [Dk,absurd]
        refine {hs with pol:=hr0,ver:= ?_}
        have:=hs.ver;constructor
        ·grind
        grind
       ·simp only[hp,if_false]
        exact {hs with ver:=vk}
      ·simp only[k7,if_false]
       by_cases k8:o.kind=8
       ·simp only[k8,if_true]
        have hk:¬(2≤o.kind∧o.kind≤4):=abI;simp only[k8,if_true]at hr;have hlt:¬s.tick>1099511627776 - o.review:=fun h=>afy
        simp only[k8,show¬((8:Int)=2∨(8:Int)=6) by decide,if_false,if_true,Bool.and_eq_true,decide_eq_true_eq]at hok
        refine {hs with tick:= ?_,ver:=vk}
        have:=hs.tick;constructor
        ·grind
        grind
       ·simp only[k8,if_false]
        exact {hs with ver:=vk}
theorem oN{k:Nat}{s:an}(o:OpD)(hs:cY k s):cY (k+1) (dJ aP s o):=by
 unfold dJ
 by_cases h:bM s o=0
 ·simp_all [if_pos,LH]
 ·rw[if_neg h]
  exact {hs with ver:=⟨hs.ver.1,by have:=hs.ver.2;omega⟩}
def rV(l:List OpD)(n:Nat):List OpD:=(l.take n).map IL
theorem fm.eq{xs:List AV}{sz:Nat}(j:Nat)(hj:j<xs.length)(hz:xs[j].cells.length=sz)(k:AV→Prop):fm xs (j:Int) sz k=k (.pe xs[j] 0):=propext ⟨fun h=>by
 obtain⟨_,b,hb,_,hk⟩:=h;have:xs[j]? =some xs[j]:=abQ;rw[show((j:Int).toNat)=j by simp,this]at hb
 cases hb;exact hk,fun h=>fm.at j hj hz h⟩
end Go.Bf
namespace Go.Proofs.YtcochaoekecfdaaGreatDoor
open Go Go.Ab Go.Bf
theorem QD(l:List OpD)(n:Nat)(hn:n≤1000)(h:Heap):ai Tryz.prog 27 [.sl (l.map opA) .no,.i n] h fun r h' =>r= .sl ((rV l n).map opA) .no∧h' =h:=by
 refine abH Tryz.func27 27 [.tmp 4] fun hwf=> ?_
 simp -implicitDefEqProofs only[go_sem];have hsz:(U 32).sz=12:=abW;refine wO.wf fun hw=> ?_
 refine .intro (fun m ρ H=>∃(i:Nat) (y:AV),Acc U 32 h H y ((rV (l.take i) n).map opA)∧i≤l.length∧i≤n∧m=l.length - i∧lk ρ 0=some (.sl (l.map opA) .no)∧lk ρ 1=some (.i n)∧lk ρ 5=some y∧lk ρ 6=some (.i i)) l.length ?_ ?_
 ·refine⟨0,.sl [] .full,by simpa[rV]using Acc.full (.refl _),abI,abI,rfl, ?_, ?_, ?_, ?_⟩<;>simp -implicitDefEqProofs only[go_sem]
 ·rintro m ρ H ⟨i,y,hy,hi,hin,rfl,r0,r1,r5,r6⟩
  obtain⟨q,eq⟩:=hy.row;subst eq
  by_cases hgo:i<l.length∧i<n
  ·have d1:decide ((i:Int)<(l.length:Int))=true:=decide_eq_true abI
   have d2:decide ((i:Int)<(n:Int))=true:=decide_eq_true abI;have w1:IntKind.i64.wrap ((i:Int)+1)=((i+1:Nat):Int):=abV;have hsn:rV (l.take (i+1)) n=rV (l.take i) n++ [IL l[i]]:=by
    grind [rV,Nat.min_eq_right,List.take_append_getElem]
   simp -implicitDefEqProofs only[go_sem,r0,r1,r5,r6,aby,d1,d2];refine .at i abJ abY ?_;have hok:=fun(G:Heap)=>QC l[i] G
   simp only[opA,opC]at hok;simp -implicitDefEqProofs only[go_sem,abz,opA,opC];refine(hok _).pthen ?_;simp -implicitDefEqProofs only[go_sem];refine Acc.app hy (zs:=[opA (IL l[i])]) abI abL (fun k hk=>hk) (by rw[hsz];exact bp (f:=opA) (fun _=>rfl) _) (by rw[hsz];intro z hz;rw[List.mem_singleton.1 hz];rfl) (by simp only[go_sem,rV,aby,List.length_take,List.length_cons,List.length_nil]<;>omega) fun yz Gz hyz kpz=> ?_
   simp -implicitDefEqProofs only[go_sem,r6,w1];refine⟨_, ?_,i+1,yz,abJ,abI,abI,rfl, ?_, ?_, ?_, ?_⟩
   ·omega
   all_goals simp -implicitDefEqProofs only[go_sem,r0,r1]
  ·have hall:rV (l.take i) n=rV l n:=by
    grind [rV,Nat.lt_or_ge,Nat.min_self,List.take_of_length_le]
   rw[hall]at hy;cases d1:decide ((i:Int)<(l.length:Int))
   ·simp -implicitDefEqProofs only[go_sem,r0,r5,r6,aby,d1]
    exact .mk _ (by rw[hall];exact .sl _ _) hy.1 ⟨rfl,rfl⟩
   ·have d2:decide ((i:Int)<(n:Int))=false:=decide_eq_false fun h3=>hgo ⟨abJ,abI⟩
    simp -implicitDefEqProofs only[go_sem,r0,r1,r5,r6,aby,d1,d2];exact .mk _ (by rw[hall];exact .sl _ _) hy.1 ⟨rfl,rfl⟩
end Go.Proofs.YtcochaoekecfdaaGreatDoor
namespace Go.Bf
open Go Go.Ab Go.Proofs.YtcochaoekecfdaaGreatDoor
def zI(l:List bA):Prop:=l.length≤16∧∀v∈l,bI v=true∧∀w∈l.head?,v.kind=w.kind
structure N6 (gs:List bl):Prop where
 len:gs.length≤64
 each:∀g∈gs,1≤g.cat∧g.cat≤4∧br g.name=true∧zI g.bag
 dist:gs.Pairwise fun a b=>iE b.cat b.name a=false
def we(g:bl):Int×Txt:=(g.cat,g.name)
theorem J8(gs:List bl):(gs.Pairwise fun a b=>iE b.cat b.name a=false)↔(gs.map we).Nodup:=by
 simp[List.Nodup,List.pairwise_map,bl,iE,false,we]
theorem iV{v:bA}(h:bI v=true):zI [v]:=⟨abQ,fun w hw=>abJ⟩
theorem og{s:Txt}(h:br s=true):bI (idV s)=true:=by grind [bI,idV]
theorem Hq{l:List gR}(h:∀r∈l,br r.role=true)(s:Txt):zI (cU l s):=by
 have hv:∀v∈cU l s,bI v=true∧v.kind=5:=fun v hv=>by
  have:=List.mem_of_mem_take hv;obtain⟨r,hr,rfl⟩:=List.mem_map.1 this;exact⟨og abJ,rfl⟩
 refine⟨by grind [cU,List.length_take],fun v hm=>⟨(hv v hm).1,fun w hw=> ?_⟩⟩
 grind
theorem JY{c:UInt8}{i j:Nat}(h:sA c j=true)(hi:i≠0):sA c i=true:=by
 simp only[sA,Bool.or_eq_true,Bool.and_eq_true,decide_eq_true_eq]at h⊢
 grind
theorem EE{n:Txt}(h:br n=true)(hl:n.length≤14):br ([102,95]++n)=true:=by
 simp only[br,Bool.and_eq_true,decide_eq_true_eq]at h⊢;obtain⟨⟨h1,h2⟩,h3⟩:=h;refine⟨⟨?_,abQ⟩,abJ⟩;unfold vi at h1⊢;rw[List.all_eq_true]at h1⊢
 rintro⟨c,i⟩ hp
 rw[List.mk_mem_zipIdx_iff_getElem?]at hp
 match i,hp with
 |0,hp=>cases hp;rfl
 |1,hp=>cases hp;rfl
 |i+2,hp=>
  exact JY (h1 (c,i) (List.mk_mem_zipIdx_iff_getElem?.2 hp)) abI
theorem FD{s:Txt}(h:s∈oL):br s=true:=by
 simp only[oL,List.mem_cons,List.not_mem_nil,or_false]at h;rcases h with rfl|rfl|rfl|rfl<;>kernel_rfl
theorem B3(k:Int)(h:1≤k∧k≤8):br (js k)=true:=by
 have:(List.range 9).all (fun n=>br (js n))=true:=abW
 have h2:=List.all_eq_true.1 this k.toNat abJ
 rwa [show((k.toNat:Nat):Int)=k by omega]at h2
theorem LO(l:List wN)(s:Txt):bI (tN l s)=true:=by
 unfold tN;cases l.any fun x=>x.actor==s<;>rfl
theorem Hw{c:aL}(hc:tU c)(s:Txt):∀g∈cD c s,g.cat=3∧br g.name=true∧zI g.bag:=by
 intro g hg;simp only[cD,List.mem_append,List.mem_cons,List.not_mem_nil,or_false]at hg;rcases hg with((rfl|rfl|rfl|rfl|rfl)|hg)|hg
 ·exact⟨rfl,abW,iV (og hc.id)⟩
 ·exact⟨rfl,abW,iV (og hc.owner)⟩
 ·exact⟨rfl,abW,iV (og (FD hc.state))⟩
 ·exact⟨rfl,abW,iV abW⟩
 ·exact⟨rfl,abW,iV (LO _ _)⟩
 ·cases hl:c.log.getLast? with
  |none=>grind
  |some x=>
   rw[hl]at hg;rw[List.mem_singleton.1 hg];exact⟨rfl,abW,iV (og (hc.actor x (List.mem_of_getLast? hl)).1)⟩
 ·obtain⟨f,hf,rfl⟩:=List.mem_map.1 hg
  obtain⟨hf1,hf2⟩:=List.mem_filter.1 hf;have hf2:f.name.length≤14:=abJ;obtain⟨h1,h2,_⟩:=hc.field f hf1;exact⟨rfl,EE h1 hf2,iV h2⟩
theorem Hv{c:aL}(hc:tU c)(s:Txt):((cD c s).map we).Nodup:=by
 have hfn:(((c.fields.filter fun f=>decide (f.name.length≤14)).map fun f=>(⟨3,[102,95]++f.name,[f.val]⟩:bl)).map we).Nodup:=by
  rw[List.map_map,List.Nodup,List.pairwise_map];refine((List.Pairwise.filter _ hc.asc).imp fun {a b} hab he=> ?_)
  simp_all [Function.comp,we,Prod.mk.injEq,true_and,List.append_cancel_left_eq,lt_irrefl]
 have hff:∀x∈((c.fields.filter fun f=>decide (f.name.length≤14)).map fun f=>(⟨3,[102,95]++f.name,[f.val]⟩:bl)).map we,∃t,x=(3,102::t):=by
  intro x hx;obtain⟨g,hg,rfl⟩:=List.mem_map.1 hx;obtain⟨f,hf,rfl⟩:=List.mem_map.1 hg;exact⟨_,rfl⟩
 unfold cD;rw[List.map_append,List.nodup_append];refine⟨?_,hfn, ?_⟩
 ·cases c.log.getLast? with
  |none=>simp[we,idT]
  |some x=>simp[we,idT]
 ·intro a ha b hb
  obtain⟨t,rfl⟩:=hff b hb;intro e;cases hl:c.log.getLast? with
  |none=>
   simp_all [we,idT]
  |some x=>
   simp_all [we,idT]
theorem Hp{k:Nat}{s:an}{o:OpD}(hs:cY k s)(hf:eO o=true):N6 (fo s o):=by
 have F:=sP hf;have hcs:∀g∈(if bY s.cases o.case=true∧o.kind≠6 then cD (bu s.cases o.case) o.subj else []),g.cat=3∧br g.name=true∧zI g.bag:=by
  intro g hg;split at hg
  ·rename_i ht
   exact Hw (hs.case _ (pM hs.asc ht.1).1) _ g hg
  ·cases hg
 have hcd:((if bY s.cases o.case=true∧o.kind≠6 then cD (bu s.cases o.case) o.subj else []).map we).Nodup:=by
  split
  ·rename_i ht
   exact Hv (hs.case _ (pM hs.asc ht.1).1) _
  ·exact .nil
 have hcl:(if bY s.cases o.case=true∧o.kind≠6 then cD (bu s.cases o.case) o.subj else []).length≤22:=by
  split
  ·rename_i ht
   have hc:=hs.case _ (pM hs.asc ht.1).1;have h16:=hc.nfields;have:((bu s.cases o.case).fields.filter fun f=>decide (f.name.length≤14)).length≤(bu s.cases o.case).fields.length:=List.length_filter_le _ _
   simp only[cD,abC,aby,List.length_cons,List.length_nil];cases (bu s.cases o.case).log.getLast? <;>simp<;>omega
  ·simp
 unfold fo;generalize (if bY s.cases o.case=true∧o.kind≠6 then cD (bu s.cases o.case) o.subj else [])=C at hcs hcd hcl⊢
 have e1:(if o.field= []then []else [(⟨2,[102,105,101,108,100],[idV o.field]⟩:bl)])=if o.field= []then []else [(⟨2,[102,105,101,108,100],[idV o.field]⟩:bl)]:=rfl
 have hro:zI (cU s.roles o.subj):=Hq (fun r hr=>(hs.role r hr).2) _
 have htk:bI ⟨4,s.tick,[]⟩=true:=by
  have:=hs.tick;simp[bI,this]
 have hac:=og (B3 o.kind F.kind);have hsu:=og F.subj;refine⟨?_, ?_, ?_⟩
 ·by_cases p1:o.field= []<;>by_cases p2:o.to= []<;>simp[p1,p2]<;>omega
 ·intro g hg
  simp only[List.mem_append,List.mem_cons,List.not_mem_nil,or_false]at hg;rcases hg with((((rfl|rfl|rfl)|hg)|hg)|rfl)|hg
  ·exact⟨abQ,abQ,abM,iV hsu⟩
  ·exact⟨abQ,abQ,abM,hro⟩
  ·exact⟨abQ,abQ,abM,iV hac⟩
  ·split at hg
   ·cases hg
   ·rename_i hne
    rw[List.mem_singleton.1 hg];exact⟨abQ,abQ,abM,iV (og (jU F.field hne))⟩
  ·split at hg
   ·cases hg
   ·rename_i hne
    rw[List.mem_singleton.1 hg];exact⟨abQ,abQ,abM,iV (og (jU F.to hne))⟩
  ·exact⟨abQ,abQ,abM,iV htk⟩
  ·obtain⟨h1,h2,h3⟩:=hcs g hg
   exact⟨abI,abI,h2,h3⟩
 ·rw[J8,List.map_append,List.nodup_append]
  refine⟨?_,hcd, ?_⟩
  ·by_cases p1:o.field= []<;>by_cases p2:o.to= []<;>simp[p1,p2,we,idT]
  ·intro a ha b hb e
   subst e;obtain⟨g,hg,rfl⟩:=List.mem_map.1 hb;have h3:=(hcs g hg).1;have hne:∀x∈([⟨1,idT,[idV o.subj]⟩,⟨1,[114,111,108,101],cU s.roles o.subj⟩,⟨2,[110,97,109,101],[idV (js o.kind)]⟩]++(if o.field= []then []else [⟨2,[102,105,101,108,100],[idV o.field]⟩])++(if o.to= []then []else [⟨2,[116,111],[idV o.to]⟩])++ [⟨4,[110,111,119],[⟨4,s.tick,[]⟩]⟩]:List bl),x.cat≠3:=by
    intro x hx;simp only[List.mem_append,List.mem_cons,List.not_mem_nil,or_false]at hx;rcases hx with(((rfl|rfl|rfl)|hx)|hx)|rfl
    ·simp
    ·simp
    ·simp
    ·split at hx
     ·cases hx
     ·rw[List.mem_singleton.1 hx];simp
    ·split at hx
     ·cases hx
     ·rw[List.mem_singleton.1 hx];simp
    ·simp
   obtain⟨x,hx,he⟩:=List.mem_map.1 ha;have:x.cat=g.cat:=congrArg Prod.fst he;exact hne x hx (by rw[this,h3])
def sL:an→List AV
 |⟨tick,cs,rv,nt,ro,.mk pid set alg tgt rules kids obls,ver⟩=>[.i tick,fP cs,jQ rv,kP nt,dO ro,.s pid,.b set,.i alg,aU tgt,.sl (rules.map aB) .no,.sl (fk kids) .no,aA obls,.i ver]
theorem uS(s:an):cy s= .agg (sL s):=by
 obtain⟨tick,cs,rv,nt,ro,⟨pid,set,alg,tgt,rules,kids,obls⟩,ver⟩:=s;rfl
end Go.Bf
namespace Go.Proofs.YtcochaoekecfdaaGreatDoor
open Go Go.Ab Go.Bf
theorem MK{x:AV}(h:Dat U 54 x):∃l:List OpD,x= .sl (l.map opA) .no∧l.length≤maxLen∧∀o∈l,o7 o:=h.list abW fun y hy=>PG hy
theorem TO{l:List OpD}{n:Nat}(h:∀o∈l,o7 o):∀o∈rV l n,o7 o:=fun o ho=>by
 obtain⟨a,ha,rfl⟩:=List.mem_map.1 ho;exact h a abJ
end Go.Proofs.YtcochaoekecfdaaGreatDoor
namespace Go.Bf
open Go Go.Ab Go.Proofs.YtcochaoekecfdaaGreatDoor
structure Stays (cs cs' :List aL) (id:Txt):Prop where
 len:cs'.length≤cs.length+1
 ids:∀c∈cs,∃d∈cs',d.id=c.id
 rest:∀c∈cs,c.id≠id→c∈cs'
abbrev aS:=Nat×Nat
def naM:aS:=(0,0)
def bh:aS:=(2,0)
def cF:aS:=(0,2)
def Am:aS:=(1,0)
def Al:aS:=(0,1)
def oh:aS:=(1,1)
def uv:List aS:=[naM,bh,cF,Am,Al,oh]
abbrev jr:=aS×List cE
def gE(m:aS):aS:=if m=bh then Am else if m=cF then Al else m
def nD(a b:aS):aS:=(max a.1 b.1,max a.2 b.2)
def DX(m:aS):aS:=(m.2,m.1)
def qt(j:aS):aS:=
 if j.2=2 then cF else if j.2=1∧1≤j.1 then oh else if j.2=1 then Al else if j.1=2 then bh else if j.1=1 then Am else naM
def wC(l:List aS):aS:=l.foldl nD naM
def firstM(l:List aS):aS:=(l.find? fun m=>decide (m≠naM)).getD naM
def yP(m:aS):Bool:=decide (m=naM∨m=bh∨m=cF)
def nJ:List aS→aS→aS
 | [],j=>j
 |m::r,j=>if yP m=false then oh else nJ r (if j=naM then m else if m≠naM then oh else j)
def gM(alg:Int)(l:List aS):aS:=
 if alg=1 then qt (wC l)
 else if alg=2 then DX (qt (DX (wC l)))
 else if alg=3 then firstM l
 else if alg=4 then nJ l naM
 else if alg=5 then(if bh∈l then bh else cF)
 else if alg=6 then(if cF∈l then cF else bh)
 else naM
def xb(gs:List bl)(a:pz):List bA:=getD gs a.cat a.name
def mK(a b:bA):Option Bool:=
 if bI a=false∨bI b=false∨a.kind≠b.kind∨a.kind=1 then none
 else if a.kind=3∨a.kind=5 then some (Op.bytesLess a.s b.s)else some (decide (a.n<b.n))
def cN(m:bP)(v:bA):Option Bool:=
 if m.op=1 then(if v.kind=m.val.kind then some (eqV v m.val)else none)
 else if m.op=2 then mK v m.val else mK m.val v
def jB(gs:List bl)(m:bP):Nat:=
 if xb gs m.attr= []∧m.attr.must=true then 1
 else if(xb gs m.attr).any fun v=>cN m v==some true then 2
 else if(xb gs m.attr).any fun v=>cN m v==none then 1 else 0
def B5(gs:List bl)(l:List bP):Nat:=l.foldl (fun a m=>min a (jB gs m)) 2
def zf(gs:List bl)(l:List (List bP)):Nat:=l.foldl (fun a x=>max a (B5 gs x)) 0
def mb(gs:List bl)(t:fT):Nat:=t.foldl (fun a x=>min a (zf gs x)) 2
structure jg where
 bag:List bA
 v:bA
 e:Int
def eL(b:Bool):bA:=⟨1,if b then 1 else 0,[]⟩
def iL(b:Bool):jg:=⟨[],eL b,0⟩
def isI(x:jg)(n:Int):Bool:=x.e==0 && eqV x.v ⟨1,n,[]⟩
abbrev w64(n:Int):Int:=IntKind.i64.wrap n
def JE(a b:Int):Bool:=decide (0<b) && decide (w64 (9223372036854775807 - b)<a)||decide (b<0) && decide (a<w64 (-9223372036854775808 - b))
def LI(a b:Int):Bool:=decide (0<b) && decide (a<w64 (-9223372036854775808+b))||decide (b<0) && decide (w64 (9223372036854775807+b)<a)
def ID(a b:Int):Bool:=a== -1 && b== -9223372036854775808||b== -1 && a== -9223372036854775808||a !=0 && w64 ((w64 (a*b)).tdiv a) !=b
def nc(e:Int):bA×Int:=(ax,e)
def zu(o:Bool)(n:Int):bA×Int:=if o then nc 3 else(⟨2,w64 n,[]⟩,0)
def gK(op:Int)(l:List bA):bA×Int:=
 if¬(6≤op∧op≤13)∨l.length≠(if op=11 then 1 else 2)∨(l.all bI)=false then nc 1
 else
  let a:=l.getD 0 ax;let b:=l.getD 1 ax
  if op=6 then(if a.kind=b.kind then(eL (eqV a b),0)else nc 2)
  else if op=7 then(match mK a b with
   |some x=>(eL x,0)
   |none=>nc 2)
  else if op=8∨op=9∨op=10 then
   (if l.all fun v=>v.kind==2 then(if op=8 then zu (JE a.n b.n) (a.n+b.n)else if op=9 then zu (LI a.n b.n) (a.n - b.n)else zu (ID a.n b.n) (a.n*b.n))else nc 2)
  else if(l.all fun v=>v.kind==1)=false then nc 2
  else if op=11 then(eL (a.n==0),0)
  else if op=12 then(eL (a.n==1 && b.n==1),0)
  else(eL (a.n==1||b.n==1),0)
def opsOf(op:Int):Nat:=if op=1∨op=2 then 0 else if op=3∨op=4∨op=11 then 1 else 2
def zG(r:bA×Int):jg:=⟨[],r.1,r.2⟩
def kO(gs:List bl)(n:aO)(l:List jg):jg:=
 if n.op=1 then⟨[],n.val,0⟩
 else if n.op=2 then(if xb gs n.attr= []∧n.attr.must=true then⟨[],ax,4⟩else⟨xb gs n.attr,ax,0⟩)
 else if(n.op=12∨n.op=13)∧(l.any fun x=>isI x (n.op - 12))=true then iL (n.op==13)
 else match l.find? fun x=>x.e !=0 with
  |some x=>⟨[],ax,x.e⟩
  |none=>
   if n.op=3 then(match (l.headD ⟨[],ax,0⟩).bag with
    | [v]=>⟨[],v,0⟩
    |_=>⟨[],ax,4⟩)
   else if n.op=4 then⟨[],⟨2,(l.headD ⟨[],ax,0⟩).bag.length,[]⟩,0⟩
   else if n.op=5 then iL ((l.headD ⟨[],ax,0⟩).bag.any fun v=>eqV v (l.getD 1 ⟨[],ax,0⟩).v)
   else zG (gK n.op (l.map (·.v)))
def yO(gs:List bl)(st:List jg)(n:aO):List jg:=st.take (st.length - opsOf n.op)++ [kO gs n (st.drop (st.length - opsOf n.op))]
def vC(gs:List bl)(l:List aO):jg:=if l= []then zG (nc 1)else(l.foldl (yO gs) []).headD (zG (nc 1))
def pQ(gs:List bl)(l:List aO):Nat:=if l.isEmpty then 2 else if isI (vC gs l) 1 then 2 else if isI (vC gs l) 0 then 0 else 1
def dY(l:List cE)(m:aS):List cE:=l.filter fun o=>o.on==1 && m==bh||o.on==2 && m==cF
def mI(r:cM)(t c:Nat):jr:=
 let m:=if r.deny then cF else bh
 if t=0∨t=2∧c=0 then(naM,[])else if t=1∨c=1 then(gE m,[])else(m,dY r.obls m)
def gU(gs:List bl)(r:cM):jr:=mI r (mb gs r.tgt) (pQ gs r.cond)
def eu(alg:Int)(m:aS)(parts:List jr):List cE:=
 if alg=3 then((parts.find? fun x=>x.1==m).map (·.2)).getD []else((parts.filter fun x=>x.1==m).map (·.2)).flatten
def oW(alg:Int)(obls:List cE)(t:Nat)(parts:List jr):jr:=
 let m:=gM alg (parts.map (·.1))
 if t=0 then(naM,[])else if t=1 then(gE m,[])else if m≠bh∧m≠cF then(m,[])
 else(m,eu alg m parts++dY obls m)
mutual
def fj(gs:List bl):bJ→jr
 |.mk id set alg tgt rules kids obls=>if mb gs tgt=0 then(naM,[])else oW alg obls (mb gs tgt) (rules.map (gU gs)++lV gs kids)
def lV(gs:List bl):List bJ→List jr
 | []=>[]
 |k::r=>fj gs k::lV gs r
end
theorem sM(gs:List bl):∀l:List bJ,lV gs l=l.map (fj gs)
 | []=>abW
 |k::r=>by simp[lV,sM gs r]
def rY:bJ→fT
 |.mk _ _ _ t _ _ _=>t
def nE:fT→Option bP
 | []=>none
 | [l]::r=>match l.find? fun m=>m.op==1 && !m.attr.must with
  |some m=>some m
  |none=>nE r
 |_::r=>nE r
def rU(gs:List bl)(p:bJ):Bool:=match nE (rY p)with
 |none=>true
 |some m=>decide (jB gs m≠0)
mutual
def kQ(gs:List bl):bJ→bJ
 |.mk id set alg tgt rules kids obls=> .mk id set alg tgt rules (jP gs kids) obls
def jP(gs:List bl):List bJ→List bJ
 | []=>[]
 |k::r=>if rU gs k then kQ gs k::jP gs r else jP gs r
end
end Go.Bf
namespace Go.Bf
open Go Go.Ab
def uZ:Nat→Nat→Txt
 |0,_=>[]
 |f+1,u=>if u<128 then [UInt8.ofNat u]else UInt8.ofNat (u % 128+128)::uZ f (u / 128)
def zig(n:Int):Nat:=if 0≤n then 2*n.toNat else 2*(-n).toNat - 1
def ov(n:Int):Txt:=uZ 10 (zig n)
def fl(s:Txt):Txt:=ov s.length++s
def yV(v:bA):Txt:=ov v.kind++(if v.kind=3∨v.kind=5 then fl v.s else ov v.n)
def uK(o:OpD):Txt:=ov o.kind++(fl o.subj++(fl o.case++(fl o.field++(fl o.to++(yV o.val++(ov o.review++(fl o.text++(fl o.reason++yV (eL o.glass)))))))))
theorem Rc{n:Int}(h:i64 n):zig n<128 ^ 10:=by
 grind [i64,zig,Nat]
structure VA (v:bA):Prop where
 kind:i64 v.kind
 n:i64 v.n
 s:v.s.length≤1000000
 one:(v.kind=3∨v.kind=5→v.n=0)∧(¬(v.kind=3∨v.kind=5)→v.s= [])
structure OpC (o:OpD):Prop where
 kind:i64 o.kind
 subj:o.subj.length≤1000000
 case:o.case.length≤1000000
 field:o.field.length≤1000000
 to:o.to.length≤1000000
 val:VA o.val
 review:i64 o.review
 text:o.text.length≤1000000
 reason:o.reason.length≤1000000
structure RS where
 b:Txt
 at_:Nat
 bad:Bool
def unzig(u:Nat):Int:=if u % 2=1 then -((u / 2:Nat):Int) - 1 else((u / 2:Nat):Int)
def uL:Nat→Nat→Nat→Txt→Int×Nat
 |0,_,_,_=>(0,0)
 |_+1,_,_,[]=>(0,0)
 |f+1,i,u,c::r=>
  if(i=9∧1<c.toNat)∨(0<i∧c.toNat=0)then(0,0)
  else if c.toNat<128 then(unzig (u+c.toNat*128 ^ i),i+1)
  else uL f (i+1) (u+c.toNat % 128*128 ^ i) r
def lu(s:RS)(a:Nat):RS:=if s.bad=false∧a≤s.at_ then {s with at_:=a,bad:=true} else s
def rIn(s:RS)(lo hi:Int):Int×RS:=
 if s.bad then(0,s)else
 let x:=uL 10 0 0 (s.b.drop s.at_)
 if x.2=0∨x.1<lo∨hi<x.1 then(0,lu s s.at_)else(x.1,{s with at_:=s.at_+x.2})
def gj(s:RS):Int×RS:=rIn s (-9223372036854775808) 9223372036854775807
def bW(s:RS)(most:Int):Txt×RS:=
 let x:=rIn s 0 most
 if x.2.bad∨(x.2.b.length:Int) - x.2.at_<x.1 then([],lu x.2 s.at_)else((x.2.b.drop x.2.at_).take x.1.toNat,{x.2 with at_:=x.2.at_+x.1.toNat})
def sV(k:Int):Bool:=k==3||k==5
def rq(s:RS):bA×RS:=
 let x:=rIn s 1 5
 let y:bA×RS:=if sV x.1 then(let t:=bW x.2 64;(⟨x.1,0,t.1⟩,t.2))else(let t:=gj x.2;(⟨x.1,t.1,[]⟩,t.2))
 if y.2.bad then(ax,y.2)else if bI y.1=false then(ax,lu y.2 s.at_)else y
def rm(s:RS):bA×RS:=
 if s.at_<s.b.length∧s.b.getD s.at_ 0=0 then(ax,(rIn (rIn s 0 0).2 0 0).2)else rq s
def rOp(b:Txt):OpD×RS:=
 let k:=gj ⟨b,0,false⟩
 let s1:=bW k.2 16
 let s2:=bW s1.2 16
 let s3:=bW s2.2 16
 let s4:=bW s3.2 16
 let v:=rm s4.2
 let r:=gj v.2
 let t:=bW r.2 4096
 let w:=bW t.2 64
 let g:=rq w.2
 (⟨k.1,s1.1,s2.1,s3.1,s4.1,v.1,r.1,t.1,w.1,eqV g.1 (eL true)⟩,g.2)
def Ln(s:RS):Bool:=decide (s.b.length≤s.at_) && !s.bad
def pn(b:Txt):Option OpD:=if Ln (rOp b).2 && eO (rOp b).1 && decide (uK (rOp b).1=b)then some (rOp b).1 else none
theorem Mb{n:Int}(h:i64 n):zig n<18446744073709551616:=by
 grind [i64,zig]
theorem N0:∀(f v:Nat),0<f→uZ f v≠ []
 |0,_,h=>abI
 |f+1,v,_=>by grind [uZ]
end Go.Bf
namespace Go.Bf
open Go Go.Ab Go.Proofs.YtcochaoekecfdaaGreatDoor
theorem AW{v:bA}(h:bI v=true)(hk:v.kind=3∨v.kind=5):v.n=0∧v.s.length≤64:=by
 unfold bI at h;rcases hk with e|e
 ·grind
 ·rw[if_neg abI,if_neg abI,if_neg abI,if_neg abI,if_pos e]at h
  simp only[br,Bool.and_eq_true,beq_iff_eq,decide_eq_true_eq]at h;omega
theorem Jn{v:bA}(h:bI v=true)(hk:¬(v.kind=3∨v.kind=5)):v.s= []:=by
 unfold bI at h
 grind
theorem uc{t:Txt}(h:iK t=true):t.length≤16:=by
 unfold iK at h;simp only[Bool.or_eq_true,beq_iff_eq]at h;rcases h with rfl|h
 ·simp
 simp_all [br,Bool.and_eq_true,decide_eq_true_eq]
structure OpF (o:OpD):Prop where
 subj:o.subj.length≤16
 case:o.case.length≤16
 field:o.field.length≤16
 to:o.to.length≤16
 val:o.val=ax∨bI o.val=true
 text:o.text.length≤4096
 reason:o.reason.length≤64
theorem pX{o:OpD}(h:eO o=true):OpF o:=by
 simp only[eO,Bool.and_eq_true,decide_eq_true_eq]at h;obtain⟨⟨⟨⟨⟨⟨⟨h1,h2⟩,h3⟩,h4⟩,h5⟩,h6⟩,h7⟩,h8⟩:=h;simp only[br,Bool.and_eq_true,decide_eq_true_eq]at h1;refine⟨h1.2,uc h4,uc h5,uc h6, ?_,h3, ?_⟩
 ·simp only[Bool.or_eq_true]at h7
  rcases h7 with h7|h7
  ·left
   generalize o.val=v at h7;obtain⟨k,n,s⟩:=v;simp only[eqV,ax,Bool.and_eq_true,beq_iff_eq]at h7;obtain⟨rfl,rfl,rfl⟩:=h7;rfl
  grind
 ·unfold lF at h2
  grind
theorem LP(b:Bool):bI (eL b)=true:=by cases b<;>rfl
theorem get_some{b:Txt}{o:OpD}(h:pn b=some o):eO o=true∧uK o=b:=by
 unfold pn at h
 grind
theorem sO{α:Type}(f:α→Nat):∀(l:List α) (a:Nat),l.foldl (fun a x=>min a (f x)) a≤a∧∀x∈l,l.foldl (fun a x=>min a (f x)) a≤f x
 | [],a=>abQ
 |y::l,a=>by
  obtain⟨h1,h2⟩:=sO f l (min a (f y))
  grind
theorem M7{gs:List bl}:∀ {t:fT} {m:bP},nE t=some m→jB gs m=0→mb gs t=0:=by
 intro t;have main:∀(t:fT) (m:bP),nE t=some m→jB gs m=0→∃x∈t,zf gs x=0:=by
  intro t
  induction t with
  |nil=>intro m h;cases h
  |cons x r ih=>
   intro m h h0
   match x,h with
   | [],h=>obtain⟨y,hy,e⟩:=ih m h h0;exact⟨y,List.mem_cons_of_mem _ hy,e⟩
   | [l],h=>
    simp only[nE]at h;cases hf:l.find? fun m=>m.op==1 && !m.attr.must with
    |none=>rw[hf]at h;obtain⟨y,hy,e⟩:=ih m h h0;exact⟨y,List.mem_cons_of_mem _ hy,e⟩
    |some k=>
     rw[hf]at h;cases h;have hm:=List.mem_of_find?_eq_some hf;have hall:B5 gs l=0:=by
      have:=(sO (jB gs) l 2).2 _ hm;rw[h0]at this;exact Nat.le_zero.1 this
     exact⟨[l],List.mem_cons_self ..,by grind [zf]⟩
   |a::b::c,h=>obtain⟨y,hy,e⟩:=ih m h h0;exact⟨y,List.mem_cons_of_mem _ hy,e⟩
 intro m h h0;obtain⟨x,hx,e⟩:=main t m h h0;have:=(sO (zf gs) t 2).2 x hx;rw[e]at this;exact Nat.le_zero.1 this
theorem Np{gs:List bl}{p:bJ}(h:rU gs p=false):fj gs p=(naM,[]):=by
 obtain⟨id,set,alg,tgt,rules,kids,obls⟩:=p;unfold rU at h;simp only[rY]at h;cases hk:nE tgt with
 |none=>grind
 |some m=>
  simp_all [jB,fj,M7,if_true]
theorem M3(j:aS):nD j naM=j:=by simp[nD,naM]
inductive Drop:List jr→List jr→Prop
 |nil:Drop [] []
 |keep (x:jr) {a b:List jr} (h:Drop a b):Drop (x::a) (x::b)
 |skip {a b:List jr} (h:Drop a b):Drop a ((naM,[])::b)
theorem Drop.app{a b c:List jr}(h:Drop a b):Drop (c++a) (c++b):=by
 induction c with
 |nil=>exact h
 |cons x c ih=>grind [keep]
theorem Drop.join{a b:List jr}(h:Drop a b):∀j,(a.map (·.1)).foldl nD j=(b.map (·.1)).foldl nD j:=by
 induction h with
 |nil=>simp
 |keep x h ih=>grind
 |skip h ih=>grind [M3]
theorem Drop.first{a b:List jr}(h:Drop a b):firstM (a.map (·.1))=firstM (b.map (·.1)):=by
 unfold firstM
 congr 1
 induction h with
 |nil=>rfl
 |keep x h ih=>grind
 |skip h ih=>simpa using ih
theorem Drop.only{a b:List jr}(h:Drop a b):∀j,nJ (a.map (·.1)) j=nJ (b.map (·.1)) j:=by
 induction h with
 |nil=>simp
 |keep x h ih=>grind [nJ]
 |skip h ih=>
  intro j;have hs:yP naM=true:=abL;simp only[List.map_cons,nJ,hs,Bool.true_eq_false,if_false];rw[←ih]
  congr 1
  simp
theorem Drop.mem{a b:List jr}(h:Drop a b){m:aS}(hm:m≠naM):m∈a.map (·.1)↔m∈b.map (·.1):=by
 exact agN
theorem Drop.comb{a b:List jr}(h:Drop a b)(alg:Int):gM alg (a.map (·.1))=gM alg (b.map (·.1)):=by
 unfold gM wC;rw[h.join,h.first,h.only];simp only[h.mem (show bh≠naM by decide),h.mem (show cF≠naM by decide)]
theorem Drop.parts{a b:List jr}(h:Drop a b)(alg:Int){m:aS}(hm:m≠naM):eu alg m a=eu alg m b:=by
 have h1:(a.find? fun x=>x.1==m)=b.find? fun x=>x.1==m:=by
  exact agN
 have h2:(a.filter fun x=>x.1==m)=b.filter fun x=>x.1==m:=by
  clear h1;exact agN
 simp only[eu,h1,h2]
theorem Drop.oW{a b:List jr}(h:Drop a b)(alg:Int)(obls:List cE)(t:Nat):oW alg obls t a=oW alg obls t b:=by
 unfold Go.Bf.oW;simp only[h.comb alg]
 by_cases hp:gM alg (b.map (·.1))=bh
 ·rw[hp,h.parts alg abL]
 ·by_cases hd:gM alg (b.map (·.1))=cF
  ·rw[hd,h.parts alg abL]
  grind
mutual
theorem Ay(gs:List bl):∀p:bJ,fj gs (kQ gs p)=fj gs p
 |.mk id set alg tgt rules kids obls=>by
  simp only[kQ,fj]
  by_cases h:mb gs tgt=0
  ·simp only[h,if_true]
  ·simp only[h,if_false]
   exact(Az gs kids).app.oW alg obls _
theorem Az(gs:List bl):∀l:List bJ,Drop (lV gs (jP gs l)) (lV gs l)
 | []=>by simp only[jP,lV];exact .nil
 |k::r=>by
  have ih1:=Ay gs k;have ih2:=Az gs r;simp only[jP,lV]
  by_cases h:rU gs k=true
  ·simp only[h,if_true,lV,ih1]
   exact .keep _ ih2
  ·have h:rU gs k=false:=by simpa using h
   simp only[h,Bool.false_eq_true,if_false,Np h];exact .skip ih2
end
structure kX where
 err:Int
 mark:aS
 glass:Bool
 val:bA
 hidden:Bool
 at_:Int
structure o6 where
 op:OpD
 version:Int
 mark:aS
 glass:Bool
 obls:List cE
def N3:OpD:=⟨0,[],[],[],[],ax,0,[],[],false⟩
def wM:o6:=⟨N3,0,naM,false,[]⟩
def Bx:Txt:=[103,108,97,115,115]
def qu(s:an)(r:pE):Bool:=r.isOpen && decide (100≤s.tick - r.tick)
def KH(s:an)(subj:Txt):Bool:=s.reviews.any fun r=>r.subj==subj && qu s r
def sw(s:an)(o:OpD)(m:aS):Bool:=o.glass && (m==cF||m==naM) && xJ s.roles ⟨o.subj,Bx⟩ && !KH s o.subj
def AK(s:an)(o:OpD)(reason:Txt):pE:=⟨(s.reviews.length:Int)+1,s.tick,o.subj,o.case,js o.kind,reason,true⟩
def bV(s:an)(o:OpD)(reason:Txt):an:={s with reviews:=s.reviews++ [AK s o reason]}
def jy(l:List cE)(field:Txt):Bool:=l.any fun x=>x.kind==2 && x.arg==field
def iB(cs:List aL)(id:Txt):Nat:=cs.findIdx fun c=>c.id==id
def iG(s:an)(o:OpD)(what:Txt):an:=
 if iB s.cases o.case<s.cases.length∧o.kind≠6 then {s with cases:=s.cases.modify (iB s.cases o.case) fun c=>iX s c o.subj what} else s
def fh(o:OpD)(done:Bool)(s:an)(x:cE):an:=
 if x.kind=1∧done=true then iG s o x.arg
 else if x.kind=3 then bV s o x.arg
 else if x.kind=4 then {s with notices:=s.notices++ [⟨s.tick,o.case,x.arg⟩]}
 else s
def di(s:an)(o:OpD)(l:List cE)(done:Bool):an:=l.foldl (fh o done) s
def rC(s:an):Bool:=decide (256<s.reviews.length)||decide (256<s.notices.length)||s.cases.any fun c=>decide (256<c.log.length)
def gF(s:an)(o:OpD):jr:=fj (fo s o) s.policy
def jL(s:an)(o:OpD):Int×Int:=if bM s o=0∧o.kind=7 then((aP o.text).2.1,(aP o.text).2.2)else(bM s o,0)
def fq(s:an)(o:OpD):Bool:=sw s o (gF s o).1
def sC(s:an)(o:OpD):Bool:=decide ((gF s o).1=bh)||fq s o
def cS(s:an)(o:OpD):an:=
 let s1:=if fq s o then bV s o o.reason else s
 di (if sC s o then dJ aP s1 o else s1) o (gF s o).2 (sC s o)
def oI(s:an)(o:OpD):kX:=
 ⟨if sC s o then 0 else 12,(gF s o).1,fq s o,if sC s o && o.kind==2 && !jy (gF s o).2 o.field then dZ (bu s.cases o.case).fields o.field else ax,sC s o && o.kind==2 && jy (gF s o).2 o.field,0⟩
def bt(s:an)(o:OpD):an×kX×o6×Int:=
 if(jL s o).1≠0 then(s,⟨(jL s o).1,naM,false,ax,false,(jL s o).2⟩,wM,(jL s o).1)
 else if rC (cS s o)then(s,⟨6,naM,false,ax,false,0⟩,wM,6)
 else(cS s o,oI s o,⟨o,s.version,(gF s o).1,fq s o,(gF s o).2⟩,0)
theorem xY(s:an)(o:OpD)(w:Txt):(iG s o w).tick=s.tick∧(iG s o w).roles=s.roles∧(iG s o w).policy=s.policy∧(iG s o w).version=s.version∧(iG s o w).reviews=s.reviews∧(iG s o w).notices=s.notices:=by
 grind [iG]
theorem Ct(o:OpD)(done:Bool)(s:an)(x:cE):(fh o done s x).tick=s.tick∧(fh o done s x).roles=s.roles∧(fh o done s x).policy=s.policy∧(fh o done s x).version=s.version:=by
 unfold fh;split
 ·grind [xY]
 ·split
  ·exact⟨rfl,rfl,rfl,rfl⟩
  grind
theorem Ex(o:OpD)(done:Bool):∀(l:List cE) (s:an),(di s o l done).tick=s.tick∧(di s o l done).roles=s.roles∧(di s o l done).policy=s.policy∧(di s o l done).version=s.version
 | [],s=>⟨rfl,rfl,rfl,rfl⟩
 |x::l,s=>by
  obtain⟨a1,a2,a3,a4⟩:=Ct o done s x;obtain⟨b1,b2,b3,b4⟩:=Ex o done l (fh o done s x);exact⟨b1.trans a1,b2.trans a2,b3.trans a3,b4.trans a4⟩
def gD(o:OpD)(a b:List pE):Prop:=∃c,b=a++c∧∀i (h:i<c.length),c[i].id=((a.length+i+1:Nat):Int)∧c[i].isOpen=true∧c[i].subj=o.subj
theorem gD.refl(o:OpD)(a:List pE):gD o a a:=⟨[],abQ,fun i h=>acD⟩
theorem gD.trans{o:OpD}{a b c:List pE}(h1:gD o a b)(h2:gD o b c):gD o a c:=by
 obtain⟨x,rfl,hx⟩:=h1;obtain⟨y,rfl,hy⟩:=h2;refine⟨x++y,abQ,fun i h=> ?_⟩
 grind
theorem gD.open(s:an)(o:OpD)(w:Txt):gD o s.reviews (bV s o w).reviews:=⟨[AK s o w],rfl,fun i h=>by
 have:i=0:=abJ;subst this;exact⟨abW,rfl,rfl⟩⟩
theorem gD.duties(o:OpD)(done:Bool):∀(l:List cE) (s:an),gD o s.reviews (di s o l done).reviews
 | [],s=> .refl o _
 |x::l,s=>by
  have:gD o s.reviews (fh o done s x).reviews:=by
   unfold fh;split
   ·grind [xY,refl]
   ·split
    ·exact .open s o _
    grind [refl]
  exact this.trans (gD.duties o done l _)
structure FQ (c:aL):Prop where
 id:br c.id=true
 owner:br c.owner=true
 state:c.state∈oL
 asc:D8 c.fields
 nfields:c.fields.length≤16
 field:∀f∈c.fields,br f.name=true∧bI f.val=true∧eqV f.val ax=false
 log1:1≤c.log.length
 actor:∀x∈c.log,br x.actor=true∧i64 x.tick
theorem tU.w{c:aL}(h:tU c):FQ c:=⟨h.id,h.owner,h.state,h.asc,h.nfields,h.field,h.log1,h.actor⟩
theorem FQ.ok{c:aL}(h:FQ c)(hl:c.log.length≤256):tU c:=⟨h.id,h.owner,h.state,h.asc,h.nfields,h.field,h.log1,hl,h.actor⟩
structure kY (k:Nat) (s:an):Prop where
 tick:0≤s.tick∧s.tick≤1099511627776
 asc:Asc s.cases
 ncases:s.cases.length≤64
 case:∀c∈s.cases,FQ c
 roles:s.roles.length≤64
 role:∀r∈s.roles,br r.subj=true∧br r.role=true
 pol:gm s.policy=0
 ver:0≤s.version∧s.version≤k
theorem cY.w{k:Nat}{s:an}(h:cY k s):kY k s:=⟨h.tick,h.asc,h.ncases,fun c hc=>(h.case c hc).w,h.roles,h.role,h.pol,h.ver⟩
theorem kY.ok{k:Nat}{s:an}(h:kY k s)(ho:rC s=false):cY k s:=by
 unfold rC at ho;simp only[Bool.or_eq_false_iff,decide_eq_false_iff_not]at ho;refine⟨h.tick,h.asc,h.ncases,fun c hc=>(h.case c hc).ok ?_,abI,abI,h.roles,h.role,h.pol,h.ver⟩
 grind
theorem FG{k:Nat}{s:an}(o:OpD)(w:Txt)(h:kY k s):kY k (bV s o w):={h with}
theorem FF{k:Nat}{s:an}{o:OpD}(hn:br o.subj=true)(w:Txt)(h:kY k s):kY k (iG s o w):=by
 unfold iG;split
 ·refine {h with asc:=Bi (jX fun x=>rfl) h.asc,ncases:=by simpa using h.ncases,case:= ?_}
  intro d hd;rcases mem_modify hd with hd|⟨hi,rfl⟩
  ·exact h.case d hd
  ·have hc:=h.case _ (abD hi)
   refine⟨hc.id,hc.owner,hc.state,hc.asc,hc.nfields,hc.field,afO, ?_⟩;intro x hx;simp only[iX,List.mem_append,List.mem_singleton]at hx;rcases hx with hx|rfl
   ·exact hc.actor x hx
   ·exact⟨hn,by have:=h.tick;constructor<;>simp only<;>omega⟩
 omega
theorem FE{k:Nat}{o:OpD}(hn:br o.subj=true)(done:Bool){s:an}(x:cE)(h:kY k s):kY k (fh o done s x):=by
 unfold fh;split
 ·grind [FF]
 ·split
  ·grind [FG]
  ·split
   ·exact {h with}
   omega
theorem tI{k:Nat}{o:OpD}(hn:br o.subj=true)(done:Bool):∀(l:List cE) {s:an},kY k s→kY k (di s o l done)
 | [],s,h=>h
 |x::l,s,h=>tI hn done l (FE hn done x h)
theorem BJ{k:Nat}{s:an}(o:OpD)(w:Txt)(h:cY k s)(hr:s.reviews.length≤999):cY k (bV s o w):={h with nrev:=by grind [bV]}
structure j5 (k:Nat) (s:an):Prop extends cY k s where
 ids:∀i (h:i<s.reviews.length),s.reviews[i].id=((i+1:Nat):Int)
 nr:s.reviews.length≤256
 nn:s.notices.length≤256
theorem Ij:j5 0 rj:={Jd with ids:=fun i h=>acD,nr:=abL,nn:=abL}
theorem tD{s:an}{o:OpD}(h:(jL s o).1=0):bM s o=0∧eO o=true∧(o.kind=7→(aP o.text).2.1=0):=by
 unfold jL at h;have hr:bM s o=0:=by
  grind
 have hf:eO o=true:=by
  unfold bM at hr
  grind
 exact⟨hr,hf,fun hk=>abJ⟩
theorem JQ{k:Nat}{s:an}{o:OpD}(h:j5 k s)(hp:(jL s o).1=0):kY (k+1) (cS s o):=by
 have hn:=(sP (tD hp).2.1).subj;have h1:cY k (if fq s o then bV s o o.reason else s):=by
  split
  ·exact BJ o _ h.tocY (by have:=h.nr;omega)
  ·exact h.tocY
 refine tI hn _ _ ?_;split
 ·exact(oN o h1).w
 ·have:=h1.w
  exact {this with ver:=⟨this.ver.1,by have:=this.ver.2;omega⟩}
def shut(r:pE):pE:={r with isOpen:=false}
theorem ua(par:Txt→bJ×Int×Int)(s:an)(o:OpD):(dJ par s o).reviews=if bM s o=0∧o.kind=5 then s.reviews.modify (o.review - 1).toNat shut else s.reviews:=by
 unfold dJ
 by_cases hr:bM s o=0
 ·rw[if_pos hr]
  unfold doD
  by_cases k1:o.kind=1
  ·grind
  ·by_cases k3:o.kind=3
   ·grind
   ·by_cases k4:o.kind=4
    ·grind
    ·by_cases k5:o.kind=5
     ·simp[k5,hr];rfl
     grind
 grind
theorem xF{o:OpD}(h:eO o=true)(hg:o.glass=true):1≤o.kind∧o.kind≤4:=by
 simp_all [eO,Bool.and_eq_true,lF,if_true,uA,decide_eq_true_eq]
theorem CJ{s:an}{o:OpD}(h:fq s o=true):o.glass=true:=by
 simp_all [fq,sw,Bool.and_eq_true]
structure Eb (s:an) (o:OpD) (t:an) (r:kX) (e:Int):Prop where
 len:s.reviews.length≤t.reviews.length
 old:∀i (h:i<s.reviews.length) (h' :i<t.reviews.length),(e=0∧r.err=0∧o.kind=5∧o.review=((i+1:Nat):Int)→o.subj≠s.reviews[i].subj∧s.reviews[i].isOpen=true∧t.reviews[i].isOpen=false∧t.reviews[i].id=s.reviews[i].id)∧
  (¬(e=0∧r.err=0∧o.kind=5∧o.review=((i+1:Nat):Int))→t.reviews[i]=s.reviews[i])
 new:∀i (h:i<t.reviews.length),s.reviews.length≤i→t.reviews[i].id=((i+1:Nat):Int)∧t.reviews[i].isOpen=true∧t.reviews[i].subj=o.subj
 glass:r.glass=true→∃h:s.reviews.length<t.reviews.length,t.reviews[s.reviews.length].reason=o.reason
theorem Eb.same(s:an)(o:OpD)(e:Int)(r:kX)(he:e≠0)(hg:r.glass=false):Eb s o s r e:=
 ⟨Nat.le_refl _,fun i h h' =>⟨fun hc=>(he hc.1).elim,fun _=>rfl⟩,fun i h h' =>abI,fun h=>abJ⟩
theorem Gx{o:OpD}{a b:List pE}(h:gD o a b):a.length≤b.length∧(∀i (h1:i<a.length) (h2:i<b.length),b[i]=a[i])∧∀i (h1:i<b.length),a.length≤i→b[i].id=((i+1:Nat):Int)∧b[i].isOpen=true∧b[i].subj=o.subj:=by
 obtain⟨c,rfl,hc⟩:=h;refine⟨abQ,fun i h1 h2=>abJ,fun i h1 h2=> ?_⟩
 grind
theorem Cj{s:an}{o:OpD}(hr:bM s o=0)(hf:eO o=true)(hk:o.kind=5):1≤o.review∧∃h:(o.review - 1).toNat<s.reviews.length,s.reviews[(o.review - 1).toNat].isOpen=true∧s.reviews[(o.review - 1).toNat].subj≠o.subj:=by
 have F:=sP hf;have hok:=F.ok;unfold okD at hok;simp only[hk,show¬(5:Int)=1 by decide,show¬((5:Int)=2∨(5:Int)=6) by decide,show¬(5:Int)=3 by decide,show¬(5:Int)=4 by decide,if_false,if_true,decide_eq_true_eq]at hok
 unfold bM at hr;simp only[hk,Bool.true_eq_false,show¬(5:Int)=1 by decide,show¬(2≤(5:Int)∧(5:Int)≤4) by decide,if_false,if_true]at hr
 unfold fH vK at hr;rw[if_pos (by omega:1≤o.review)]at hr
 refine⟨abI, ?_⟩;cases hx:s.reviews[(o.review - 1).toNat]? with
 |none=>simp_all
 |some r=>
  rw[hx]at hr;obtain⟨h,rfl⟩:=List.getElem?_eq_some_iff.1 hx;refine⟨h, ?_, ?_⟩
  ·grind
  ·intro e
   simp only[e,if_true]at hr;omega
theorem Fp{k:Nat}{s:an}{o:OpD}(h:j5 k s):Eb s o (bt s o).1 (bt s o).2.1 (bt s o).2.2.2:=by
 unfold bt
 by_cases hp:(jL s o).1=0
 ·rw[if_neg abI]
  by_cases ho:rC (cS s o)=true
  ·rw[if_pos ho];exact .same _ _ _ _ abQ rfl
  ·rw[if_neg ho]
   obtain⟨hr,hf,_⟩:=tD hp;simp only
   by_cases hk:o.kind=5
   ·have hg:fq s o=false:=by
     cases hg:fq s o with
     |false=>rfl
     |true=>have:=xF hf (CJ hg);omega
    obtain⟨hv1,hlt,hop,hsu⟩:=Cj hr hf hk
    by_cases hd:sC s o=true
    ·have hb:cS s o=di (dJ aP s o) o (gF s o).2 true:=by
      grind [cS]
     have hrev:(dJ aP s o).reviews=s.reviews.modify (o.review - 1).toNat shut:=by
      simp_all [ua,if_pos]
     have hon:=gD.duties o true (gF s o).2 (dJ aP s o);rw[←hb,hrev]at hon;obtain⟨a1,a2,a3⟩:=Gx hon;have hlm:(s.reviews.modify (o.review - 1).toNat shut).length=s.reviews.length:=abQ;rw[hlm]at a1;refine⟨a1,fun i h1 h2=>⟨fun hc=> ?_,fun hc=> ?_⟩,fun i h1 h2=>a3 i h1 abI,fun hgl=> ?_⟩
     ·have hi:(o.review - 1).toNat=i:=by omega
      subst hi;rw[a2 _ abI h2,List.getElem_modify,if_pos rfl];exact⟨fun e=>hsu e.symm,hop,rfl,rfl⟩
     ·have hi:(o.review - 1).toNat≠i:=fun e=>hc ⟨rfl,by simp[oI,hd],hk,abI⟩
      rw[a2 _ abI h2,List.getElem_modify,if_neg hi]
     simp_all [oI]
    ·have hd:sC s o=false:=by grind
     have hb:cS s o=di s o (gF s o).2 false:=by
      grind [cS]
     have hon:=gD.duties o false (gF s o).2 s;rw[←hb]at hon;obtain⟨a1,a2,a3⟩:=Gx hon;refine⟨a1,fun i h1 h2=>⟨fun hc=> ?_,fun hc=>a2 i h1 h2⟩,a3,fun hgl=> ?_⟩
     ·simp_all [oI]
     simp_all [oI]
   ·have hs1:gD o s.reviews (if fq s o then bV s o o.reason else s).reviews:=by
     split
     ·exact .open s o _
     ·exact .refl o _
    have hs2:(if sC s o then dJ aP (if fq s o then bV s o o.reason else s) o else(if fq s o then bV s o o.reason else s)).reviews=(if fq s o then bV s o o.reason else s).reviews:=by
     split
     ·simp_all [ua,if_neg]
     ·rfl
    have hd:=gD.duties o (sC s o) (gF s o).2 (if sC s o then dJ aP (if fq s o then bV s o o.reason else s) o else(if fq s o then bV s o o.reason else s))
    rw[hs2]at hd;have hon:gD o s.reviews (cS s o).reviews:=hs1.trans hd;obtain⟨a1,a2,a3⟩:=Gx hon;refine⟨a1,fun i h1 h2=>⟨fun hc=>(hk hc.2.2.1).elim,fun hc=>a2 i h1 h2⟩,a3,fun hgl=> ?_⟩
    have hg:fq s o=true:=hgl;have hd' :=hd;simp only[hg,↓reduceIte]at hd';obtain⟨b1,b2,_⟩:=Gx hd';have hb:(cS s o)=di (if sC s o then dJ aP (bV s o o.reason) o else bV s o o.reason) o (gF s o).2 (sC s o):=by
     grind [cS]
    rw[←hb]at b1 b2;have hl:(bV s o o.reason).reviews.length=s.reviews.length+1:=by simp[bV]
    refine⟨abI, ?_⟩
    grind [bV,AK]
 ·rw[if_pos abI]
  exact .same _ _ _ _ abI rfl
theorem j5.up{k:Nat}{s:an}(h:j5 k s):j5 (k+1) s:={h with ver:=⟨h.ver.1,by have:=h.ver.2;omega⟩}
theorem EO{k:Nat}{s:an}(o:OpD)(h:j5 k s):j5 (k+1) (bt s o).1:=by
 have hrl:=Fp (o:=o) h;unfold bt at hrl⊢
 by_cases hp:(jL s o).1=0
 ·rw[if_neg abI]at hrl⊢
  by_cases ho:rC (cS s o)=true
  ·rw[if_pos ho];exact h.up
  ·rw[if_neg ho]at hrl⊢
   have ho:rC (cS s o)=false:=abJ;have hw:=(JQ h hp).ok ho;unfold rC at ho;refine {hw with ids:=fun i hi=> ?_,nr:=abJ,nn:=abJ}
   by_cases hlt:i<s.reviews.length
   ·obtain⟨h1,h2⟩:=hrl.old i hlt hi
    by_cases hc:(0:Int)=0∧(oI s o).err=0∧o.kind=5∧o.review=((i+1:Nat):Int)
    ·rw[(h1 hc).2.2.2];exact h.ids i hlt
    ·rw[h2 hc];exact h.ids i hlt
   ·exact(hrl.new i hi abI).1
 ·rw[if_pos abI];exact h.up
structure Uq (s:an) (o:OpD):Prop where
 err:(bt s o).2.2.2≠0→(bt s o).1=s∧(bt s o).2.1.err=(bt s o).2.2.2∧(bt s o).2.1.mark=naM
 ok:(bt s o).2.2.2=0→(bt s o).2.1.mark=(gF s o).1∧(bt s o).2.2.1=⟨o,s.version,(gF s o).1,fq s o,(gF s o).2⟩∧(bt s o).2.1.glass=fq s o∧(bt s o).1=cS s o∧(bt s o).2.1=oI s o
theorem xp(o:OpD)(done:Bool):∀(l:List cE) (s:an),(di s o l done).cases.length=s.cases.length
 | [],s=>rfl
 |x::l,s=>by
  have:(fh o done s x).cases.length=s.cases.length:=by
   unfold fh;split
   ·grind [iG]
   ·split
    ·rfl
    grind
  exact(xp o done l _).trans this
end Go.Bf
namespace Go.Ab
open Go
section
variable {U : TypeId → TI} {ρ : Env} {h0 h h' : Heap} {sz id : Nat} {tb : TypeId} {y : AV} {xs : List AV} {e : TypeId} {K : AV → Prop} {x : IntKind} {m : Int}
theorem ue(xs:List AV)(j:Nat):aq xs=aq (xs.take j)++aq (xs.drop j):=ae2
theorem OwE.cut(hw:OwE tb h0 h sz y xs){hi:Operand}(j:Nat)(hm:ev ρ hi=some (.v (.int x m)))(hj:m=j)(hl:j≤xs.length)(hz:(U tb).sz=sz)(h1:sz≠0)
  (hk:∀z,OwE tb h0 h sz z (xs.take j)→(z=y∨∃id l l' c,y= .ob id 0 l c sz∧z= .ob id 0 l' c sz)→K z):gG U ρ y none (some hi) none K (.slice tb):=by
 subst hj;subst hz
 rcases hw with⟨rfl,rfl⟩|⟨id,h2,cap,rest,rfl,h3,h4,h5,h6⟩
 ·rw[qB,fz,hm]
  refine⟨h1, ?_⟩;have:j=0:=abJ;subst this;refine⟨abI,abQ, ?_⟩;exact hk _ (.inl ⟨rfl,rfl⟩) (.inl rfl)
 ·rw[AN]
  refine⟨h1,rfl, ?_⟩;simp only[lP,fz,hm,cZ,mJ];refine⟨abI,abI,abI, ?_⟩;simp only[Int.toNat_natCast,Nat.zero_mul,Nat.add_zero,Nat.sub_zero,show(((0:Nat):Int)).toNat=0 from rfl]
  have e1:(xs.take j).length=j:=abJ;have hs:Sized (U tb).sz (xs.drop j):=fun z hz=>h6 z (List.mem_of_mem_drop hz)
  refine hk _ (.inr ⟨id,h2,cap,aq (xs.drop j)++rest,by rw[e1],by grind [ue,List.append_assoc], ?_,abI,fun z hz=>h6 z (List.mem_of_mem_take hz)⟩) (.inr ⟨id,_,_,cap,rfl,rfl⟩)
  rw[abC,aV hs,h4,List.length_drop,e1,←Nat.add_mul]
  grind
theorem OwE.from(hw:OwE tb h0 h sz y xs){lo:Operand}(j:Nat)(hm:ev ρ lo=some (.v (.int x m)))(hj:m=j)(hl:j≤xs.length)(hz:(U tb).sz=sz)(h1:sz≠0)
  (hk:∀z,Rd h sz z (xs.drop j)→K z):gG U ρ y (some lo) none none K (.slice tb):=by
 subst hj;subst hz
 rcases hw with⟨rfl,rfl⟩|⟨id,h2,cap,rest,rfl,h3,h4,h5,h6⟩
 ·have:j=0:=by grind
  subst this;rw[qC,fz,hm];refine⟨h1,by simp[Sized], ?_⟩
  exact⟨abI,abQ,abQ,hk _ (.sl (by intro z hz;grind [nS]) _)⟩
 ·rw[AN]
  refine⟨h1,rfl, ?_⟩;simp only[lP,fz,hm,cZ,mJ];refine⟨abI,abI,abI, ?_⟩;simp only[Int.toNat_natCast,Nat.zero_add];have e1:(xs.drop j).length=xs.length - j:=abQ;have hs:Sized (U tb).sz (xs.drop j):=fun z hz=>h6 z abJ
  have ht:Sized (U tb).sz (xs.take j):=fun z hz=>h6 z abJ
  have e2:=aV hs;have e3:=aV ht;refine hk _ ⟨hs,.inr ⟨id,j*(U tb).sz,cap - j,_,tb,by rw[e1],h3, ?_, ?_⟩⟩
  ·grind [ue,abC]
  grind [ue,List.append_assoc,List.drop_left,List.take_left]
end
end Go.Ab
namespace Go.Bf
open Go Go.Ab Go.Proofs.YtcochaoekecfdaaGreatDoor
def hbit:Nat→Nat
 |0=>0
 |1=>4602678819172646912
 |_=>4607182418800017408
def aQ(m:aS):AV:=.v (.complex .f64 (hbit m.1) (hbit m.2))
def M9(m:aS):Prop:=m.1≤2∧m.2≤2
def M6(m:aS):Prop:=m∈uv
instance (m:aS):Decidable (M9 m):=inferInstanceAs (Decidable (_∧_))
instance (m:aS):Decidable (M6 m):=inferInstanceAs (Decidable (m∈uv))
theorem M6.m9{m:aS}(h:M6 m):M9 m:=by
 exact agp
theorem le2{n:Nat}(h:n≤2):n=0∨n=1∨n=2:=abI
theorem ye{m n:aS}(hmm:M9 m)(hn:M9 n)(K:AV→Prop):fZ .eql (.complex .f64 (hbit m.1) (hbit m.2)) (.complex .f64 (hbit n.1) (hbit n.2)) K=K (.b (m==n)):=
 nI (fun P ty w=>by
  exact agm) K
theorem C9{m n:aS}(hmm:M9 m)(hn:M9 n)(K:AV→Prop):fZ .neq (.complex .f64 (hbit m.1) (hbit m.2)) (.complex .f64 (hbit n.1) (hbit n.2)) K=K (.b (!(m==n))):=
 nI (fun P ty w=>by
  exact agm) K
structure Nb (m:aS):Prop where
 na:∀K,fZ .eql (.complex .f64 (hbit m.1) (hbit m.2)) (.complex .f64 0 0) K=K (.b (m==naM))
 pe:∀K,fZ .eql (.complex .f64 (hbit m.1) (hbit m.2)) (.complex .f64 4607182418800017408 0) K=K (.b (m==bh))
 de:∀K,fZ .eql (.complex .f64 (hbit m.1) (hbit m.2)) (.complex .f64 0 4607182418800017408) K=K (.b (m==cF))
 ip:∀K,fZ .eql (.complex .f64 (hbit m.1) (hbit m.2)) (.complex .f64 4602678819172646912 0) K=K (.b (m==Am))
 id:∀K,fZ .eql (.complex .f64 (hbit m.1) (hbit m.2)) (.complex .f64 0 4602678819172646912) K=K (.b (m==Al))
 ib:∀K,fZ .eql (.complex .f64 (hbit m.1) (hbit m.2)) (.complex .f64 4602678819172646912 4602678819172646912) K=K (.b (m==oh))
 nna:∀K,fZ .neq (.complex .f64 (hbit m.1) (hbit m.2)) (.complex .f64 0 0) K=K (.b (!(m==naM)))
 npe:∀K,fZ .neq (.complex .f64 (hbit m.1) (hbit m.2)) (.complex .f64 4607182418800017408 0) K=K (.b (!(m==bh)))
 nde:∀K,fZ .neq (.complex .f64 (hbit m.1) (hbit m.2)) (.complex .f64 0 4607182418800017408) K=K (.b (!(m==cF)))
theorem nb{m:aS}(h:M9 m):Nb m:=
 ⟨ye (n:=naM) h abL,ye (n:=bh) h abL,ye (n:=cF) h abL,ye (n:=Am) h abL,ye (n:=Al) h abL,ye (n:=oh) h abL,
  C9 (n:=naM) h abL,C9 (n:=bh) h abL,C9 (n:=cF) h abL⟩
theorem OE{a b:Nat}(ha:a≤2)(hb:b≤2)(k:AV→Prop):zo [.v (.float .f64 (hbit a)),.v (.float .f64 (hbit b))] k=k (.v (.float .f64 (hbit (max a b)))):=
 E4 (fun P ts ty w=>by
  rcases le2 ha with rfl|rfl|rfl<;>rcases le2 hb with rfl|rfl|rfl<;>rfl) k
structure Fb (a:Nat):Prop where
 one:∀K,fZ .eql (.float .f64 (hbit a)) (.float .f64 4607182418800017408) K=K (.b (a==2))
 half:∀K,fZ .eql (.float .f64 (hbit a)) (.float .f64 4602678819172646912) K=K (.b (a==1))
 ge:∀K,fZ .geq (.float .f64 (hbit a)) (.float .f64 4602678819172646912) K=K (.b (decide (1≤a)))
theorem fb{a:Nat}(h:a≤2):Fb a:=by
 rcases le2 h with rfl|rfl|rfl<;>
  exact⟨nI fun P ty w=>rfl,nI fun P ty w=>rfl,nI fun P ty w=>rfl⟩
end Go.Bf
namespace Go.Proofs.YtcochaoekecfdaaGreatDoor
open Go Go.Ab Go.Bf
theorem BF(m:aS)(hmm:M6 m)(h:Heap):ai Tryz.prog 275 [aQ m] h fun r h' =>r= .b true∧h' =h:=by
 have hn:ai Tryz.prog 150 [aQ m] h fun r h' =>(∃c l,r= .s (c::l))∧h' =h:=by
  obtain⟨n1,n2,n3,n4,n5,n6⟩:=nb hmm.m9;refine abH Tryz.func150 16 [.tmp 2] fun hwf=> ?_
  cases d1:(m==naM)
  case true=>simp only[go_sem,aQ,n1,d1];exact .same (.refl _) ⟨⟨_,_,rfl⟩,rfl⟩
  cases d2:(m==bh)
  case true=>simp only[go_sem,aQ,n1,n2,d1,d2];exact .same (.refl _) ⟨⟨_,_,rfl⟩,rfl⟩
  cases d3:(m==cF)
  case true=>simp only[go_sem,aQ,n1,n2,n3,d1,d2,d3];exact .same (.refl _) ⟨⟨_,_,rfl⟩,rfl⟩
  cases d4:(m==Am)
  case true=>simp only[go_sem,aQ,n1,n2,n3,n4,d1,d2,d3,d4];exact .same (.refl _) ⟨⟨_,_,rfl⟩,rfl⟩
  cases d5:(m==Al)
  case true=>simp only[go_sem,aQ,n1,n2,n3,n4,n5,d1,d2,d3,d4,d5];exact .same (.refl _) ⟨⟨_,_,rfl⟩,rfl⟩
  have d6:(m==oh)=true:=by
   unfold M6 uv at hmm
   grind
  simp only[go_sem,aQ,n1,n2,n3,n4,n5,n6,d1,d2,d3,d4,d5,d6];exact .same (.refl _) ⟨⟨_,_,rfl⟩,rfl⟩
 refine abH Tryz.func275 6 [.tmp 2] fun hwf=> ?_
 simp only[go_sem];refine hn.mono ?_
 rintro r h' ⟨⟨c,l,rfl⟩,rfl⟩
 exact age
theorem xN(m:aS)(hmm:M9 m)(h:Heap):ai Tryz.prog 248 [aQ m] h fun r h' =>r=aQ (gE m)∧h' =h:=by
 obtain⟨n1,n2,n3,n4,n5,n6⟩:=nb hmm;refine abH Tryz.func248 9 [.tmp 2] fun hwf=> ?_
 cases d2:(m==bh)
 case true=>simp only[go_sem,aQ,n2,d2];exact .same (.refl _) ⟨by rw[gE,if_pos abJ];rfl,rfl⟩
 cases d3:(m==cF)
 case true=>simp only[go_sem,aQ,n2,n3,d2,d3];exact .same (.refl _) ⟨by rw[gE,if_neg abJ,if_pos abJ];rfl,rfl⟩
 simp only[go_sem,aQ,n2,n3,d2,d3];exact .same (.refl _) ⟨by rw[gE,if_neg abJ,if_neg abJ];rfl,rfl⟩
theorem tu(m:aS)(h:Heap):ai Tryz.prog 303 [aQ m] h fun r h' =>r= .tup [.v (.float .f64 (hbit m.1)),.v (.float .f64 (hbit m.2))]∧h' =h:=by
 refine abH Tryz.func303 10 [.tmp 2,.tmp 3] fun hwf=> ?_
 simp only[go_sem,aQ];exact abU
theorem OK(a b:Nat)(h:Heap):ai Tryz.prog 304 [.v (.float .f64 (hbit a)),.v (.float .f64 (hbit b))] h fun r h' =>r=aQ (a,b)∧h' =h:=by
 refine abH Tryz.func304 8 [.tmp 4] fun hwf=> ?_
 exact age
theorem NT(m:aS)(h:Heap):ai Tryz.prog 278 [aQ m] h fun r h' =>r=aQ (DX m)∧h' =h:=by
 refine abH Tryz.func278 13 [.tmp 2] fun hwf=> ?_
 simp only[go_sem];refine(tu m _).pthen ?_;simp only[go_sem];refine(OK m.2 m.1 _).pthen ?_;exact age
theorem M4(a b:aS)(ha:M9 a)(hb:M9 b)(h:Heap):ai Tryz.prog 276 [aQ a,aQ b] h fun r h' =>r=aQ (nD a b)∧h' =h:=by
 have m1:=OE ha.1 hb.1;have m2:=OE ha.2 hb.2;refine abH Tryz.func276 26 [.tmp 4] fun hwf=> ?_
 simp only[go_sem];refine(tu a _).pthen ?_;simp only[go_sem];refine(tu b _).pthen ?_;simp only[go_sem,m1,m2];refine(OK _ _ _).pthen ?_;exact age
theorem M9.join{a b:aS}(ha:M9 a)(hb:M9 b):M9 (nD a b):=⟨Nat.max_le.2 ⟨ha.1,hb.1⟩,Nat.max_le.2 ⟨ha.2,hb.2⟩⟩
theorem GA(j:aS):M6 (qt j):=by
 unfold qt
 repeat' split
 all_goals decide
theorem GC(j:aS)(hj:M9 j)(h:Heap):ai Tryz.prog 277 [aQ j] h fun r h' =>r=aQ (qt j)∧h' =h:=by
 obtain⟨p1,p2,p3⟩:=fb hj.1;obtain⟨q1,q2,q3⟩:=fb hj.2;refine abH Tryz.func277 29 [.tmp 2] fun hwf=> ?_
 simp only[go_sem];refine(tu j _).pthen ?_;cases d1:(j.2==2)
 case true=>simp only[go_sem,q1,d1];exact .same (.refl _) ⟨by rw[qt,if_pos abJ];rfl,rfl⟩
 have e1:¬j.2=2:=abJ;cases d2:(j.2==1)
 case true=>
  have e2:j.2=1:=abJ;cases d3:decide (1≤j.1)
  ·simp only[go_sem,p3,q1,q2,d1,d2,d3];exact .same (.refl _) ⟨by rw[qt,if_neg e1,if_neg abJ,if_pos e2];rfl,rfl⟩
  ·simp only[go_sem,p3,q1,q2,d1,d2,d3];exact .same (.refl _) ⟨by rw[qt,if_neg e1,if_pos ⟨e2,abA d3⟩];rfl,rfl⟩
 have e2:¬j.2=1:=abJ;cases d4:(j.1==2)
 case true=>simp only[go_sem,p1,q1,q2,d1,d2,d4];exact .same (.refl _) ⟨by rw[qt,if_neg e1,if_neg (fun h=>e2 h.1),if_neg e2,if_pos abJ];rfl,rfl⟩
 cases d5:(j.1==1)
 case true=>simp only[go_sem,p1,p2,q1,q2,d1,d2,d4,d5];exact .same (.refl _) ⟨by rw[qt,if_neg e1,if_neg (fun h=>e2 h.1),if_neg e2,if_neg abJ,if_pos abJ];rfl,rfl⟩
 simp only[go_sem,p1,p2,q1,q2,d1,d2,d4,d5];exact .same (.refl _) ⟨by rw[qt,if_neg e1,if_neg (fun h=>e2 h.1),if_neg e2,if_neg abJ,if_neg abJ];rfl,rfl⟩
def OwR(h0 h:Heap)(y:AV)(rs:List gR):Prop:=y=dO rs∨OwE 149 h0 h 2 y (rs.map dW)
theorem OwR.rd{h0 h:Heap}{y:AV}{rs:List gR}(hr:OwR h0 h y rs):Rd h 2 y (rs.map dW):=by
 rcases hr with rfl|hr
 ·exact dN dW 2 (fun _=>rfl) h rs
 ·exact hr.rd
theorem OwR.nid{h0 h:Heap}{y:AV}{rs:List gR}(hr:OwR h0 h y rs){k:Nat}(e:Ab.nid y=some k):h0 k=none∧h k≠none:=by
 rcases hr with rfl|hr
 ·cases e
 ·exact⟨(hr.nid e).1,(hr.nid e).2.1⟩
theorem OwR.keep{h0 h h' :Heap}{y:AV}{rs:List gR}(hr:OwR h0 h y rs)(hk:∀id,Ab.nid y=some id→h' id=h id):OwR h0 h' y rs:=by
 rcases hr with hr|hr
 ·exact .inl hr
 ·exact .inr (hr.keep hk)
theorem OwR.bL{g h0 h:Heap}{y:AV}{rs:List gR}(hr:OwR h0 h y rs)(hg:∀i,h0 i=none→g i=none):OwR g h y rs:=by
 rcases hr with hr|hr
 ·exact .inl hr
 ·exact .inr (hr.bL hg)
theorem OwR.frz{g h:Heap}{y:AV}{rs:List gR}(hr:OwR g h y rs):Frz g h y (dO rs):=by
 rcases hr with rfl|hr
 ·exact .pure (by simp only[dO,cG];exact bf (fun _=>rfl) _)
 ·exact hr.frz (bf (fun _=>rfl) _)
structure ij (h0 h:Heap) (y1 y2 y3 y4:AV) (s:an) (j:Nat):Prop where
 cs:lB h0 h [y1,y2,y3,y4] y1 s.cases j
 rv:OwE 143 h0 h 7 y2 (s.reviews.map iD)
 nt:OwE 146 h0 h 3 y3 (s.notices.map mu)
 rl:OwR h0 h y4 s.roles
 a12:apart y1 y2
 a13:apart y1 y3
 a14:apart y1 y4
 a23:apart y2 y3
 a24:apart y2 y4
 a34:apart y3 y4
def stC(s:an)(y1 y2 y3 y4:AV):List AV:=[.i s.tick,y1,y2,y3,y4]++fN s.policy++ [.i s.version]
theorem so.parts{h0 h:Heap}{x:AV}{s:an}{j:Nat}(ho:so h0 h x s j):∃y1 y2 y3 y4,x= .agg (stC s y1 y2 y3 y4)∧ij h0 h y1 y2 y3 y4 s j:=by
 obtain⟨y1,y2,y3,y4,e,a,b,c,d,r1,r2,r3,r4,r5,r6⟩:=ho;exact⟨y1,y2,y3,y4,e,a,b,c,.inr d,r1,r2,r3,r4,r5,r6⟩
theorem ij.rd{h0 h:Heap}{y1 y2 y3 y4:AV}{s:an}{j:Nat}(ho:ij h0 h y1 y2 y3 y4 s j):RdS h (.agg (stC s y1 y2 y3 y4)) s:=
 ⟨y1,y2,y3,y4,rfl,ho.cs.rd,ho.rv.rd,ho.nt.rd,ho.rl.rd⟩
theorem ij.frz{g h:Heap}{y1 y2 y3 y4:AV}{s:an}{j:Nat}(ho:ij g h y1 y2 y3 y4 s j):Frz g h (.agg (stC s y1 y2 y3 y4)) (cy s):=
 ug (ho.cs.frz (.refl _)) (ho.rv.frz (bf (fun _=>rfl) _)) (ho.nt.frz (bf (fun _=>rfl) _)) ho.rl.frz
theorem ij.bL{g h0 h:Heap}{y1 y2 y3 y4:AV}{s:an}{j:Nat}(ho:ij h0 h y1 y2 y3 y4 s j)(hg:∀i,h0 i=none→g i=none):ij g h y1 y2 y3 y4 s j:=
 {ho with cs:=ho.cs.bL hg,rv:=ho.rv.bL hg,nt:=ho.nt.bL hg,rl:=ho.rl.bL hg}
theorem ij.keep{h0 h h' :Heap}{y1 y2 y3 y4:AV}{s:an}{j:Nat}(ho:ij h0 h y1 y2 y3 y4 s j)(hk:∀id,h0 id=none→h id≠none→h' id=h id):ij h0 h' y1 y2 y3 y4 s j:=
 {ho with cs:=ho.cs.keepb hk,rv:=ho.rv.keepb hk,nt:=ho.nt.keepb hk,rl:=ho.rl.keep fun id e=>hk id (ho.rl.nid e).1 (ho.rl.nid e).2}
theorem ij.mem{h0 h:Heap}{y1 y2 y3 y4:AV}{s:an}{j:Nat}(ho:ij h0 h y1 y2 y3 y4 s j){w:AV}(hw:w∈ [y1,y2,y3,y4]){k:Nat}(e:Ab.nid w=some k):h0 k=none∧h k≠none:=by
 obtain⟨xs,a,_⟩:=ho.cs;simp only[List.mem_cons,List.not_mem_nil,or_false]at hw;rcases hw with rfl|rfl|rfl|rfl
 ·exact⟨(a.nid e).1,(a.nid e).2.1⟩
 ·exact⟨(ho.rv.nid e).1,(ho.rv.nid e).2.1⟩
 ·exact⟨(ho.nt.nid e).1,(ho.nt.nid e).2.1⟩
 ·exact ho.rl.nid e
theorem ij.revs{h0 h h' :Heap}{y1 y2 y3 y4 z:AV}{s:an}{j:Nat}{rs:List pE}(ho:ij h0 h y1 y2 y3 y4 s j)(hz:OwE 143 h0 h' 7 z (rs.map iD))(hn:∀k,Ab.nid z=some k→h k=none∨Ab.nid y2=some k)
  (hk:∀id,h0 id=none→h id≠none→Ab.nid y2≠some id→h' id=h id):ij h0 h' y1 z y3 y4 {s with reviews:=rs} j:=by
 obtain⟨hcs,hrv,hnt,hrl,a12,a13,a14,a23,a24,a34⟩:=id ho;have ap:∀ {w:AV},w∈ [y1,y2,y3,y4]→apart w y2→apart w z:=fun hw ha k e1 e2=>(hn k e2).elim (fun h=>(ho.mem hw e1).2 h) (fun h=>ha k e1 h)
 refine⟨hcs.move (z:=y2) abQ a12 hk fun w hw k e=> ?_,hz,hnt.keep fun id e=>hk id (hnt.nid e).1 (hnt.nid e).2.1 fun e1=>a23 id e1 e,hrl.keep fun id e=>hk id (hrl.nid e).1 (hrl.nid e).2 fun e1=>a24 id e1 e,ap abQ a12,a13,a14,(ap abQ a23.symm).symm,(ap abQ a24.symm).symm,a34⟩
 grind
theorem ij.nots{h0 h h' :Heap}{y1 y2 y3 y4 z:AV}{s:an}{j:Nat}{rs:List Hi}(ho:ij h0 h y1 y2 y3 y4 s j)(hz:OwE 146 h0 h' 3 z (rs.map mu))(hn:∀k,Ab.nid z=some k→h k=none∨Ab.nid y3=some k)
  (hk:∀id,h0 id=none→h id≠none→Ab.nid y3≠some id→h' id=h id):ij h0 h' y1 y2 z y4 {s with notices:=rs} j:=by
 obtain⟨hcs,hrv,hnt,hrl,a12,a13,a14,a23,a24,a34⟩:=id ho;have ap:∀ {w:AV},w∈ [y1,y2,y3,y4]→apart w y3→apart w z:=fun hw ha k e1 e2=>(hn k e2).elim (fun h=>(ho.mem hw e1).2 h) (fun h=>ha k e1 h)
 refine⟨hcs.move (z:=y3) abQ a13 hk fun w hw k e=> ?_,hrv.keep fun id e=>hk id (hrv.nid e).1 (hrv.nid e).2.1 fun e1=>a23 id e e1,hz,hrl.keep fun id e=>hk id (hrl.nid e).1 (hrl.nid e).2 fun e1=>a34 id e1 e,a12,ap abQ a13,a14,ap abQ a23,a24,(ap abQ a34.symm).symm⟩
 grind
end Go.Proofs.YtcochaoekecfdaaGreatDoor
namespace Go.Bf
open Go Go.Ab Go.Proofs.YtcochaoekecfdaaGreatDoor
def gS(s:an):Prop:=∀r∈s.reviews,0≤r.tick∧r.tick≤1099511627776
theorem AS{s:an}(o:OpD)(w:Txt)(h:gS s)(ht:0≤s.tick∧s.tick≤1099511627776):gS (bV s o w):=fun r hr=>by
 simp only[bV,List.mem_append,List.mem_singleton]at hr;rcases hr with hr|rfl
 ·exact h r hr
 ·exact ht
theorem Ji{s:an}(o:OpD)(w:Txt)(h:gS s):gS (iG s o w):=fun r hr=>h r (by grind [xY])
theorem Jh{s:an}(o:OpD)(done:Bool)(x:cE)(h:gS s)(ht:0≤s.tick∧s.tick≤1099511627776):gS (fh o done s x):=by
 unfold fh;split
 ·grind [Ji]
 ·split
  ·grind [AS]
  ·split<;>exact h
theorem vP(o:OpD)(done:Bool):∀(l:List cE) {s:an},gS s→(0≤s.tick∧s.tick≤1099511627776)→gS (di s o l done)
 | [],s,h,_=>h
 |x::l,s,h,ht=>vP o done l (by grind [Jh]) (by grind [Ct])
theorem LM{s:an}(par:Txt→bJ×Int×Int)(o:OpD)(h:gS s):gS (dJ par s o):=fun r hr=>by
 rw[ua]at hr;split at hr
 ·rcases mem_modify hr with hr|⟨hi,rfl⟩
  ·exact h r hr
  ·have h2:=h _ (abD hi)
   exact afM
 ·exact h r hr
theorem FI{k:Nat}{s:an}(o:OpD)(h:j5 k s)(ht:gS s):gS (bt s o).1:=by
 unfold bt;split
 ·omega
 ·split
  ·omega
  ·show gS (cS s o)
   have h1:cY k (if fq s o then bV s o o.reason else s):=by
    split
    ·exact BJ o _ h.tocY (by have:=h.nr;omega)
    ·exact h.tocY
   have t1:gS (if fq s o then bV s o o.reason else s):=by
    split
    ·exact AS o _ ht h.tick
    omega
   refine vP o _ _ ?_ ?_
   ·grind [LM]
   ·split
    ·exact(oN o h1).tick
    ·exact h1.tick
structure lS (k:Nat) (s:an):Prop extends j5 k s where
 ticks:gS s
theorem nZ:lS 0 rj:={Ij with ticks:=fun r h=>acD}
theorem CL{k:Nat}{s:an}(o:OpD)(h:lS k s):lS (k+1) (bt s o).1:={EO o h.toj5 with ticks:=FI o h.toj5 h.ticks}
theorem M0{cs:List aL}{id:Txt}(h:iB cs id<cs.length):cs[iB cs id].id=id:=by
 have:=List.findIdx_getElem (p:=fun c:aL=>c.id==id) (w:=h)
 exact eq_of_beq this
theorem EY{cs:List aL}(ha:Asc cs){id:Txt}(h:iB cs id<cs.length):findD cs id=iB cs id:=by
 have hid:=M0 h;have hin:bY cs id=true:=by grind [uW,List.any_eq_true,abD]
 have hir:Op.bytesLess id id=false:=by simpa[lt]using lt_irrefl id
 have h1:∃hl:findD cs id<cs.length,cs[findD cs id].id=id:=by
  unfold bY at hin
  grind
 rcases Nat.lt_trichotomy (findD cs id) (iB cs id)with hlt|heq|hgt
 ·exact absurd (List.not_of_lt_findIdx (p:=fun c:aL=>c.id==id) hlt) abJ
 ·exact heq
 ·have:=List.not_of_lt_findIdx (p:=fun c:aL=>geB c.id id) hgt
  exact absurd this (by grind [geB])
theorem Kw{cs ds:List aL}(h:ds.map (·.id)=cs.map (·.id))(id:Txt):iB ds id=iB cs id:=by
 have e:∀l:List aL,iB l id=(l.map (·.id)).findIdx fun x=>x==id:=fun l=>by
  rw[List.findIdx_map];rfl
 rw[e,e,h]
theorem Iv(s:an)(o:OpD)(w:Txt)(id:Txt):iB (iG s o w).cases id=iB s.cases id∧(iG s o w).cases.length=s.cases.length:=by
 unfold iG;split
 ·exact⟨Kw (jX (f:=fun c=>iX s c o.subj w) (g:=fun c:aL=>c.id) fun c=>rfl) id,abQ⟩
 omega
theorem Iu(o:OpD)(done:Bool)(s:an)(x:cE)(id:Txt):iB (fh o done s x).cases id=iB s.cases id∧(fh o done s x).cases.length=s.cases.length:=by
 unfold fh;split
 ·grind [Iv]
 ·split
  ·exact⟨rfl,rfl⟩
  grind
end Go.Bf
namespace Go.Proofs.YtcochaoekecfdaaGreatDoor
open Go Go.Ab
abbrev By:=Bytes 5
theorem u5:(U 5).sz=1:=abW
theorem u5a:(U 5).k.agg=false:=abW
theorem pP(y:AV)(l:List UInt8)(h:Heap)(hb:By h y l)(hl:l.length≤140737488355328):
  ai Tryz.prog 92 [y] h fun r h' =>h' =h∧r= .sl (l.map aK) .no:=by
 refine abH Tryz.func92 8 [.tmp 2] fun hwf=> ?_
 simp -implicitDefEqProofs only[go_sem];refine hb.Qu fun b hbn=> ?_
 simp -implicitDefEqProofs only[go_sem];refine mw.intro (fun e=> ?_) (fun e=> ?_)
 ·have hl0:l= []:=Classical.byContradiction fun hh=>by grind
  subst hl0;simp -implicitDefEqProofs only[go_sem];exact adX
 ·simp -implicitDefEqProofs only[go_sem]
  rw[hb.src u5];simp -implicitDefEqProofs only[go_sem];refine⟨abI,fun hn=> ?_,fun hn=> ?_⟩
  ·have hl0:l= []:=by simp_all
   subst hl0;simp -implicitDefEqProofs only[go_sem];exact adX
  ·refine .own fun id hid=> ?_
   simp -implicitDefEqProofs only[go_sem];exact .mk _ (.sl _ _) (.ak hid) ⟨rfl,rfl⟩
theorem J1(y:AV)(l:List UInt8)(h:Heap)(hb:By h y l)(hl:l.length≤140737488355328):
  ai Tryz.prog 92 [y] h fun r h' =>(l= []∧r= .sl [] .no∧h' =h)∨(l≠ []∧∃id m,h id=none∧r= .oa id 0 l.length∧h' =upd h id (some (.obj (l.map aK++List.replicate m (aK 0)) 5))):=by
 refine abH Tryz.func92 8 [.tmp 2] fun hwf=> ?_
 simp -implicitDefEqProofs only[go_sem];refine hb.Qu fun b hbn=> ?_
 simp -implicitDefEqProofs only[go_sem];refine mw.intro (fun e=> ?_) (fun e=> ?_)
 ·have hl0:l= []:=Classical.byContradiction fun hh=>by grind
  subst hl0;simp -implicitDefEqProofs only[go_sem];exact .mk (.sl [] .no) (.sl _ _) (.refl _) abQ
 ·simp -implicitDefEqProofs only[go_sem]
  rw[hb.src u5];simp -implicitDefEqProofs only[go_sem];refine⟨abI,fun hn=> ?_,fun hn=> ?_⟩
  ·have hl0:l= []:=by simp_all
   subst hl0;simp -implicitDefEqProofs only[go_sem];exact .mk (.sl [] .no) (.sl _ _) (.refl _) abQ
  ·refine .oa u5 ?_ ?_ (vF l) fun id m hid=> ?_
   ·simp -implicitDefEqProofs only[go_sem]
   ·rfl
   ·simp -implicitDefEqProofs only[go_sem]
    exact .mk _ (.refl _) (.refl _) (.inr ⟨abJ,id,m,hid,rfl,rfl⟩)
end Go.Proofs.YtcochaoekecfdaaGreatDoor
namespace Go.Proofs.YtcochaoekecfdaaGreatDoor
open Go Go.Ab Go.RowKit Go.Lib
theorem i5:∃i z,Tryz.prog.info? 5=some i∧i.zero=some z∧i.size=1∧i.bytes=1∧z.cells.size=1:=by
 obtain⟨i,h1,h2,h3,z,h4,h5,_⟩:=(hU 5).info abL;exact⟨i,z,h1,h4,h2,by rw[h3];rfl,h5⟩
set_option maxHeartbeats 1000000 in
theorem Ii(a:Option Addr)(w:World):Calls Tryz.prog 149 #[.slice a 0 0,.int .i64 0] w fun e w' =>e= .returned (.slice a 0 0)∧w' =w:=by
 go_enter Tryz.func149,Tryz.ntmps149
 go_wp2
 go_ret
 simp
set_option maxHeartbeats 1000000 in
theorem Ih(a:Option Addr)(n:Nat)(h0:0<n)(hn:n≤20000000)(w:World):Calls Tryz.prog 149 #[.slice a 0 0,.int .i64 n] w fun e w' =>
  ∃z:Value,z.cells.size=1∧e= .returned (.slice (some ⟨w.heap.size,0,none⟩) 0 (grownCap w n 0 5))∧
   w' =w.drew.alloc (.cells (Builtin.zeroCells z.cells n++Builtin.zeroCells z.cells (grownCap w n 0 5 - n)) 5):=by
 obtain⟨i,z,e1,e2,e3,e4,e5⟩:=i5;have hsl:Tryz.prog.underlying 41=some (.slice 5):=by
  rfl
 have hin:Tryz.prog.underlying 3=some (.int .i64):=by
  rfl
 have hold:(Builtin.firstCells i.size 0 (.slice a 0 0)).run Tryz.prog w.drew= .ok (#[]:Array Value) w.drew:=by
  cases a<;>simp[Builtin.firstCells,loadCells,loadCellsFrom]
 have hrz:∀ty,(Builtin.append_ #[41,3] ty #[.slice a 0 0,.int .i64 (n:Int)]).run Tryz.prog w=
   .ok (.slice (some ⟨w.heap.size,0,none⟩) n (grownCap w n 0 5)) (w.drew.alloc (.cells (Builtin.zeroCells z.cells n++Builtin.zeroCells z.cells (grownCap w n 0 5 - n)) 5)):=fun ty=>by
  have h:=Lib.run_append_grow_zeros w 41 3 ty 5 i z .i64 .i64 hsl hin e1 e2 a 0 0 [] abI n h0 abI abI abI
   abJ
   (by rw[e4];exact growslice_fits abI abI)
  simpa using h
 have hG:=grownCap_ge w n 0 5;have hG63:grownCap w n 0 5≤9223372036854775807:=by
  grind [grownCap_le_maxLen,maxLen]
 obtain⟨G,hGe⟩:∃G,G=grownCap w n 0 5:=⟨_,rfl⟩;rw[←hGe]at hrz hG hG63⊢;have h3:wrap64 ((n:Int) - 0)=(n:Int):=by grind [wrap64]
 have h4:¬((n:Int)<0):=abI;have h5:(n:Int)>0:=abI;refine Calls.mono (R:=fun e w' =>e= .returned (.slice (some ⟨w.heap.size,0,none⟩) 0 G)∧w' =w.drew.alloc (.cells (Builtin.zeroCells z.cells n++Builtin.zeroCells z.cells (G - n)) 5)) ?_ abJ
 clear hold hGe
 go_enter Tryz.func149,Tryz.ntmps149
 cases a with
 |none=>
  go_wp2_with (at_builtin;refine Lib.wpList_append_run _ rfl _ _ _ _ rfl _ _ rfl rfl _ _ (hrz _) ?_)
  all_goals (go_ret;simp)
 |some q=>
  obtain⟨ab,ao,asp⟩:=q
  go_wp2_with (at_builtin;refine Lib.wpList_append_run _ rfl _ _ _ _ rfl _ _ rfl rfl _ _ (hrz _) ?_)
  all_goals (go_ret;simp)
end Go.Proofs.YtcochaoekecfdaaGreatDoor
namespace Go.Proofs.YtcochaoekecfdaaGreatDoor
open Go Go.Ab
theorem Q2:(U 5).bytes=1:=abW
theorem MW(n:Nat)(hn:n≤20000000)(h:Heap):ai Tryz.prog 149 [.sl [] .full,.i n] h fun r h' =>Acc U 5 h h' r []∧fC h h' :=by
 refine fun c vs hs g hv hr=> .inl ⟨⟨_,Tryz.func149,abW,rfl⟩, ?_⟩
 have h0:=hr 0 abQ;have h1:=hr 1 abQ;obtain⟨a,cap,sz,val,e0,sl⟩:=h0.ia;have hcap:cap=0:=sl.hp;subst hcap;have e1:=h1.bR;have ev:vs= #[.slice a 0 0,.int .i64 n]:=by
  apply Array.ext
  ·omega
  ·intro i h2 h3
   have h3' :i<2:=h3;have:i=0∨i=1:=abI;rcases this with rfl|rfl
   ·simpa[Array.getD,h2]using e0
   ·simpa[Array.getD,h2]using e1
 subst ev
 by_cases hn0:n=0
 ·subst hn0
  refine(Ii a c.w).mono ?_
  rintro e w' ⟨rfl,rfl⟩
  exact⟨_,rfl,c,.sl [] .full,h,rfl,g,.refl c,h0,hs,.full (.refl h),.refl h⟩
 ·refine(Ih a n abI hn c.w).mono ?_
  rintro e w' ⟨z,hz,rfl,rfl⟩
  refine⟨_,rfl, ?_⟩;have hG:=grownCap_ge c.w n 0 5;have hG63:grownCap c.w n 0 5≤9223372036854775807:=by
   grind [grownCap_le_maxLen,maxLen]
  generalize hGe:grownCap c.w n 0 5=G at hG hG63;generalize hcells:Builtin.zeroCells z.cells n++Builtin.zeroCells z.cells (G - n)=cells;have hcs:cells.size=G:=by grind [size_zeroCells]
  obtain⟨id,hid⟩:=g.fresh;have g1:Ab.Good ({c with w:=c.w.drew}:Cx):=g.draw rfl rfl rfl rfl
  have e1:Ext c {c with w:=c.w.drew}:=Ext.draw rfl rfl rfl rfl
  have hh:h id=none:=xH hs hid;refine⟨Cx.ay {c with w:=c.w.drew} (.cells cells 5) id ⟨c.w.heap.size,0,none⟩ (.spare 0 1),.sl [] (.own id),upd h id (some (.spare 0 1)),rfl, ?_,e1.trans (Ext.ay _ _ id _ _ rfl (.inl hid)), ?_,hs.upd id _, ?_, ?_⟩
  ·exact g1.ay _ _ _ id _ _ rfl (.inl hid) abQ abQ
  ·refine .sl [] _ (some ⟨c.w.heap.size,0,none⟩) G 1 (fun _ _=>undef) (Nat.zero_le _) (by grind [lim]) abQ (fun q hq _=>by cases hq;exact⟨rfl,by simp[Cx.ay]⟩)
    abQ abQ abQ abQ ?_
   exact⟨0,ad1,Nat.le_refl _,fun _=>⟨_,rfl,ad1,cells,5,(0,0),heap_alloc_new c.w.drew _,abJ⟩⟩
  ·exact⟨(Sub.refl h).new hh _,.inr ⟨id,hh,rfl,by grind [ah,u5]⟩⟩
  ·exact((Sub.refl h).new hh _).fF
theorem NJ(x y:AV)(a b:List UInt8)(h:Heap)(hx:By h x a)(hy:By h y b)(ha:a.length≤1000000000):
  ai Tryz.prog 17 [x,y] h fun r h' =>r= .b (decide (a=b))∧h' =h:=by
 refine abH Tryz.func17 26 [.tmp 4] fun hwf=> ?_
 simp -implicitDefEqProofs only[go_sem,hx.len,hy.len];refine .intro (fun e=> ?_) (fun e=> ?_)
 ·simp -implicitDefEqProofs only[go_sem]
  refine .same (.refl _) ⟨?_,rfl⟩;have:a≠b:=fun hh=>by simp[hh]at e
  simp[this,au]
 ·have hl:a.length=b.length:=by simpa[Int.natCast_inj]using e
  simp -implicitDefEqProofs only[go_sem];refine .intro (fun m ρ h' =>h' =h∧∃i:Nat,i≤a.length∧m=a.length - i∧a.take i=b.take i∧lk ρ 0=some x∧lk ρ 1=some y∧lk ρ 5=some (.i i)) a.length ?_ ?_
  ·refine⟨rfl,0,Nat.zero_le _,rfl,rfl, ?_, ?_, ?_⟩<;>simp -implicitDefEqProofs only[go_sem]
   all_goals rfl
  ·rintro m ρ h' ⟨rfl,i,hi,rfl,hab,r0,r1,r5⟩
   simp -implicitDefEqProofs only[go_sem,r0,r1,r5,hx.len];refine .intro (fun e=> ?_) (fun e=> ?_)
   ·have hlt:i<a.length:=by simpa using e
    have hltb:i<b.length:=abI;simp -implicitDefEqProofs only[go_sem,r0,r1,r5];refine⟨.of abM,hx.idx i rfl hlt u5 u5a fun p hp=> ?_⟩
    simp -implicitDefEqProofs only[go_sem,r0,r1,r5,hp _];refine hy.idx i rfl hltb u5 u5a fun p' hp' => ?_
    simp -implicitDefEqProofs only[go_sem,r0,r1,r5,hp' _];refine .intro (fun e=> ?_) (fun e=> ?_)
    ·simp -implicitDefEqProofs only[go_sem]
     refine .same (.refl _) ⟨?_,rfl⟩;have:a≠b:=fun hh=>by subst hh;simp at e
     simp[this,au]
    ·have hc:a[i]=b[i]:=by
      have:(a[i].toNat:Int)=b[i].toNat:=afG;exact UInt8.toNat_inj.1 abI
     have w1:IntKind.i64.wrap ((i:Int)+1)=((i+1:Nat):Int):=acp;simp -implicitDefEqProofs only[go_sem,r0,r1,r5,w1];refine⟨a.length - (i+1),abI,rfl,i+1,hlt,rfl, ?_, ?_, ?_, ?_⟩
     ·rw[List.take_succ_eq_append_getElem hlt,List.take_succ_eq_append_getElem hltb,hab,hc]
     all_goals simp -implicitDefEqProofs only[go_sem,r0,r1,r5]
   ·have hge:i=a.length:=by have:¬(i<a.length):=afG;omega
    simp -implicitDefEqProofs only[go_sem];refine .same (.refl _) ⟨?_,rfl⟩;have:a=b:=by
     subst hge;rw[List.take_length]at hab;rw[hab,hl,List.take_length]
    simp[this,au]
theorem u27:(U 41).sz=1:=abW
theorem ng(ls:List (List UInt8))(i:Nat)(hi:i<ls.length):(ls.take (i+1)).flatten=(ls.take i).flatten++ls[i]:=by
 rw[List.take_succ_eq_append_getElem hi,List.flatten_append,List.flatten_cons,List.flatten_nil,List.append_nil]
theorem nW(ls:List (List UInt8))(i:Nat):(ls.take i).flatten.length≤ls.flatten.length:=by
 grind [List.take_append_drop,List.flatten_append,abC]
theorem zT(ys:List AV)(ls:List (List UInt8))(q:Perm)(h:Heap)(hr:Ab.Rows 5 h ys ls)(hl:ls.flatten.length≤20000000)(hn:ls.length≤20000000):
  ai Tryz.prog 86 [.sl ys q] h fun r h' =>r= .sl (ls.flatten.map aK) .no∧Sub h h' :=by
 have hlen:=hr.1;refine abH Tryz.func86 36 [.tmp 2] fun hwf=> ?_
 simp -implicitDefEqProofs only[go_sem];refine .intro (fun m ρ h' =>h' =h∧∃i:Nat,i≤ls.length∧m=ls.length - i∧lk ρ 0=some (.sl ys q)∧lk ρ 9=some (.sl ys q)∧lk ρ 10=some (.i ys.length)∧
  lk ρ 11=some (.i i)∧lk ρ 3=some (.v (.int .i64 (ls.take i).flatten.length))) ls.length ?_ ?_
 ·refine⟨rfl,0,Nat.zero_le _,rfl, ?_, ?_, ?_, ?_, ?_⟩<;>simp -implicitDefEqProofs only[go_sem]
  all_goals first|rfl|simp
 ·rintro m ρ h' ⟨rfl,i,hi,rfl,r0,r9,r10,r11,r3⟩
  simp -implicitDefEqProofs only[go_sem,r0,r9,r10,r11,r3];refine .intro (fun e=> ?_) (fun e=> ?_)
  ·have hlt:i<ys.length:=by simpa using e
   have hlt2:i<ls.length:=abI;have hb:=hr.2 i hlt hlt2;simp -implicitDefEqProofs only[go_sem,r0,r9,r10,r11,r3];refine .at i hlt (by rw[hb.cells];rfl) ?_
   have t1:=nW ls (i+1);have t2:=ng ls i hlt2;have w1:IntKind.i64.wrap (((ls.take i).flatten.length:Int)+(ls[i].length:Int))=((ls.take (i+1)).flatten.length:Nat):=by
    rw[t2,abC]at t1⊢;rw[IntWalk.i64_in _ abI];omega
   simp -implicitDefEqProofs only[go_sem,r0,r9,r10,r11,r3,hb.cells,hb.KU,and_self,hb.len,w1];refine .no (decide_eq_false abI) ?_;have w2:IntKind.i64.wrap ((i:Int)+1)=((i+1:Nat):Int):=acp;simp -implicitDefEqProofs only[go_sem,r0,r9,r10,r11,r3,w2];refine⟨ls.length - (i+1),abI,rfl,i+1,hlt2,rfl, ?_, ?_, ?_, ?_, ?_⟩<;>simp -implicitDefEqProofs only[go_sem,r0,r9,r10,r11,r3]
  ·have hge:i=ls.length:=by
    have:¬(i<ys.length):=afG;omega
   subst hge;rw[List.take_length]at r3;simp -implicitDefEqProofs only[go_sem,r0,r9,r10,r11,r3];refine(MW ls.flatten.length hl h').mono fun g1 h1 ⟨ha,hk⟩=> ?_
   simp -implicitDefEqProofs only[go_sem,r0,r9,r10,r11,r3];refine .intro (fun m ρ h2=>∃g:AV,∃i:Nat,Acc U 5 h' h2 g ((ls.take i).flatten.map aK)∧fC h' h2∧i≤ls.length∧m=ls.length - i∧lk ρ 25=some (.sl ys q)∧lk ρ 26=some (.i ys.length)∧
    lk ρ 27=some (.i i)∧lk ρ 6=some g) ls.length ?_ ?_
   ·refine⟨g1,0,ha,hk,Nat.zero_le _,rfl, ?_, ?_, ?_, ?_⟩<;>simp -implicitDefEqProofs only[go_sem]
    all_goals rfl
   ·rintro m ρ h2 ⟨g,i,ha,hk,hi,rfl,r25,r26,r27,r6⟩
    simp -implicitDefEqProofs only[go_sem,r25,r26,r27,r6];refine .intro (fun e=> ?_) (fun e=> ?_)
    ·have hlt:i<ys.length:=by simpa using e
     have hlt2:i<ls.length:=abI;have hb:=(hr.2 i hlt hlt2).fF hk;have t1:=nW ls (i+1);have t2:=ng ls i hlt2;simp -implicitDefEqProofs only[go_sem,r25,r26,r27,r6];refine .at i hlt (by rw[hb.cells];rfl) ?_
     simp -implicitDefEqProofs only[go_sem,r25,r26,r27,r6,hb.cells,hb.KU,and_self];refine ha.app (zs:=ls[i].map aK) (by rw[u5];decide) (by rw[Q2];decide) (fun k hk=>by rw[hb.src u5];exact hk) (by rw[u5,jh];trivial) (by rw[u5,jh];trivial) ?_ fun g' h3 ha' hk' => ?_
     ·rw[Q2,aby,aby]
      rw[t2,abC]at t1;omega
     ·have w2:IntKind.i64.wrap ((i:Int)+1)=((i+1:Nat):Int):=by rw[IntWalk.i64_in _ abI];omega
      simp -implicitDefEqProofs only[go_sem,r25,r26,r27,r6,w2];rw[←List.map_append,←t2]at ha';refine⟨ls.length - (i+1),abI,g',i+1,ha',hk.trans hk',hlt2,rfl, ?_, ?_, ?_, ?_⟩<;>simp -implicitDefEqProofs only[go_sem,r25,r26,r27,r6]
    ·have hge:i=ls.length:=by
      have:¬(i<ys.length):=afG;omega
     subst hge;rw[List.take_length]at ha;simp -implicitDefEqProofs only[go_sem,r25,r26,r27,r6];exact .mk _ ha.weak (.refl _) ⟨rfl,ha.1⟩
structure D where
 q:Nat
 b:List UInt8
 sy:Nat
 f:Nat
 off:Bool
def D.ok(d:D):Prop:=d.b.length≤d.q∧d.q≤1048576∧d.sy≤d.b.length∧d.f<9223372036854775808
def D.burn(d:D):D:=if 0<d.f then {d with f:=d.f - 1,off:=decide (d.f=1)} else d
def D.cells(d:D)(y:AV):List AV:=[.i d.q,y,.i d.sy,.i d.f,.b d.off]
def bC(h:Heap)(id:Nat)(d:D):Prop:=∃y,h id=some (.obj (d.cells y) 96)∧By h y d.b
theorem bC.keep{h h' :Heap}{id:Nat}{d:D}(hd:bC h id d)(hs:fC h h'):bC h' id d:=by
 obtain⟨y,h1,h2⟩:=hd;exact⟨y,hs _ _ _ h1,h2.fF hs⟩
theorem By.set{h:Heap}{id:Nat}{x:AV}{l:List UInt8}{cs cs' :List AV}(hb:By h x l)(hid:h id=some (.obj cs 96)):By (upd h id (some (.obj cs' 96))) x l:=hb.keep (Keep.upd id _) hid abL
theorem Cq(q:Nat)(hq:q≤1048576)(h:Heap):
  ai Tryz.prog 13 [.i q] h fun r h' =>∃id,h id=none∧r= .tup [.ptr id 0,.i 0]∧bC h' id ⟨q,[],0,0,false⟩∧Sub h h' :=by
 refine abH Tryz.func13 13 [.tmp 2,.tmp 3] fun hwf=> ?_
 simp -implicitDefEqProofs only[go_sem];refine .intro (fun e=>absurd (abA e) abI) (fun e=> ?_)
 simp -implicitDefEqProofs only[go_sem];refine .no (decide_eq_false abI) ?_;simp -implicitDefEqProofs only[go_sem];intro id hid;simp -implicitDefEqProofs only[go_sem];exact .same (.refl _) ⟨id,hid,rfl,⟨_,ah ..,.inl ⟨.full,rfl⟩⟩,(Sub.refl h).new hid _⟩
theorem qK(d:D)(hd:d.ok)(id:Nat)(h:Heap)(y:AV)(hid:h id=some (.obj (d.cells y) 96)):
  ai Tryz.prog 87 [.ptr id 0] h fun r h' =>r= .b d.burn.off∧h' =upd h id (some (.obj (d.burn.cells y) 96)):=by
 obtain⟨q,b,sy,f,off⟩:=d;obtain⟨d1,d2,d3,d4⟩:=hd;simp only at d1 d2 d3 d4;simp only[D.cells]at hid;refine abH Tryz.func87 27 [.tmp 2] fun hwf=> ?_
 simp -implicitDefEqProofs only[go_sem,hid];refine .intro (fun e=> ?_) (fun e=> ?_)
 ·have e:=abA e
  have w1:IntKind.i64.wrap ((f:Int) - 1)=((f - 1:Nat):Int):=acp;simp -implicitDefEqProofs only[go_sem,hid,w1];have hb:(((f - 1:Nat):Int)==0)=decide (f=1):=by
   by_cases h1:f=1
   ·simp[h1]
   ·have:f - 1≠0:=by omega
    simp[h1,Int.natCast_eq_zero,this]
  refine .same (.refl _) ⟨?_, ?_⟩
  ·simp only[D.burn,if_pos (show 0<f by omega),hb,au]
  ·simp only[D.burn,D.cells,if_pos (show 0<f by omega),hb]
 ·have e:=abB e
  have hf:¬0<f:=abI;simp -implicitDefEqProofs only[go_sem,hid];refine .same (.refl _) ⟨?_, ?_⟩
  ·simp only[D.burn,if_neg hf,au]
  ·simp only[D.burn,D.cells,if_neg hf]
   funext j
   simp only[upd];split
   ·rename_i e;subst e;exact hid
   ·rfl
theorem D.qK{d:D}(hd:d.ok):d.burn.ok:=by
 obtain⟨d1,d2,d3,d4⟩:=hd;unfold D.burn;split
 ·exact⟨d1,d2,d3,abJ⟩
 ·exact⟨d1,d2,d3,d4⟩
theorem D.xd(d:D):d.burn.b=d.b:=by grind [D.burn]
theorem D.JW(d:D):d.burn.q=d.q:=by grind [D.burn]
theorem D.MD(d:D):d.burn.sy=d.sy:=by grind [D.burn]
theorem MT(d:D)(hd:d.ok)(id:Nat)(h:Heap)(y:AV)(hid:h id=some (.obj (d.cells y) 96))(hb:By h y d.b):
  ai Tryz.prog 85 [.ptr id 0] h fun r h' =>r= .i (d.q - d.b.length:Nat)∧h' =h:=by
 obtain⟨q,b,sy,f,off⟩:=d;obtain⟨d1,d2,d3,d4⟩:=hd;simp only at d1 d2 d3 d4 hb;simp only[D.cells]at hid;refine abH Tryz.func85 13 [.tmp 2] fun hwf=> ?_
 have w1:IntKind.i64.wrap ((q:Int) - b.length)=((q - b.length:Nat):Int):=acp;simp -implicitDefEqProofs only[go_sem,hid,hb.len,w1];exact⟨.of abM,.same (.refl _) ⟨rfl,rfl⟩⟩
theorem Qn(d:D)(id:Nat)(h:Heap)(y:AV)(hid:h id=some (.obj (d.cells y) 96))(hb:By h y d.b):
  ai Tryz.prog 29 [.ptr id 0] h fun r h' =>r= .i d.b.length∧h' =h:=by
 simp only[D.cells]at hid;refine abH Tryz.func29 8 [.tmp 2] fun hwf=> ?_
 simp -implicitDefEqProofs only[go_sem,hid,hb.len];exact abU
theorem ND(d:D)(hd:d.ok)(id:Nat)(h:Heap)(y:AV)(hid:h id=some (.obj (d.cells y) 96))(hb:By h y d.b):
  ai Tryz.prog 103 [.ptr id 0] h fun r h' =>r= .sl (d.b.map aK) .no∧h' =h:=by
 obtain⟨d1,d2,d3,d4⟩:=hd;simp only[D.cells]at hid;refine abH Tryz.func103 8 [.tmp 2] fun hwf=> ?_
 simp -implicitDefEqProofs only[go_sem,hid];refine(pP y d.b h hb abI).mono fun r h' ⟨e1,e2⟩=> ?_
 subst e1;subst e2
 simp -implicitDefEqProofs only[go_sem];exact abU
theorem Pt(d:D)(n:Int)(id:Nat)(h:Heap)(y:AV)(hid:h id=some (.obj (d.cells y) 96)):
  ai Tryz.prog 36 [.ptr id 0,.i n] h fun r h' =>h' =upd h id (some (.obj (({d with f:=n.toNat}:D).cells y) 96)):=by
 simp only[D.cells]at hid;refine abH Tryz.func36 9 [] fun hwf=> ?_
 simp -implicitDefEqProofs only[go_sem,hid];refine .same (.refl _) ?_;have:(if n<0 then(0:Int)else n)=(n.toNat:Int):=afH
 simp only[D.cells,this]
def D.append(d:D)(b:List UInt8):D×Nat:=
 if d.off then(d,9)else if d.q<d.b.length+b.length then(d,8)else
  let e:=D.burn {d with b:=d.b++b}
  (e,if e.off then 9 else 0)
def D.sync(d:D):D×Nat:=
 if d.off then(d,9)else if d.burn.off then(d.burn,9)else({d.burn with sy:=d.b.length},0)
def D.cut(d:D)(n:Int):D×Nat:=
 if d.off then(d,9)else if n<0∨(d.b.length:Int)<n then(d,1)else
  if d.burn.off then(d.burn,9)else({d.burn with b:=d.b.take n.toNat,sy:=min d.sy n.toNat},0)
theorem D.tX{d:D}(hd:d.ok)(b:List UInt8):(d.append b).1.ok:=by
 unfold D.append;split
 ·omega
 ·split
  ·omega
  ·refine D.qK ⟨?_,hd.2.1, ?_,hd.2.2.2⟩
   ·grind
   ·have:=hd.2.2.1
    grind
theorem D.Et{d:D}(hd:d.ok)(n:Int):(d.cut n).1.ok:=by
 have hb:=D.qK hd;unfold D.cut;split
 ·exact hd
 ·split
  ·exact hd
  ·split
   ·exact hb
   ·obtain⟨d1,d2,d3,d4⟩:=hb
    obtain⟨e1,e2,e3,e4⟩:=hd;refine⟨?_, ?_, ?_,d4⟩
    ·grind [D.JW,List.length_take]
    ·grind [D.JW]
    grind
theorem tX(d:D)(hd:d.ok)(id:Nat)(h:Heap)(x:AV)(b:List UInt8)(hdk:bC h id d)(hx:By h x b)(hl:b.length≤1000000000):
  ai Tryz.prog 34 [.ptr id 0,x] h fun r h' =>r= .v (.int .i64 (d.append b).2)∧bC h' id (d.append b).1∧Keep id h h' :=by
 obtain⟨y,hid0,hb⟩:=hdk;have hid:=hid0;simp only[D.cells]at hid;have hok:=hd;obtain⟨d1,d2,d3,d4⟩:=hd;refine abH Tryz.func34 26 [.tmp 4] fun hwf=> ?_
 simp -implicitDefEqProofs only[go_sem,hid];refine .intro (fun e=> ?_) (fun e=> ?_)
 ·simp -implicitDefEqProofs only[go_sem]
  refine .same (.refl _) ?_;simp only[D.append,e,if_true,au];exact adf
 ·simp -implicitDefEqProofs only[go_sem,hid,hx.len]
  refine(MT d hok id h y hid0 hb).mono fun r h' ⟨e1,e2⟩=> ?_
  subst e1;subst e2
  simp -implicitDefEqProofs only[go_sem];refine .intro (fun e2=> ?_) (fun e2=> ?_)
  ·have e2:=abA e2
   simp -implicitDefEqProofs only[go_sem];refine .same (.refl _) ?_;simp only[D.append,e,if_pos (show d.q<d.b.length+b.length by omega),au]
   exact adf
  ·have e2:=abB e2
   have hno:¬d.q<d.b.length+b.length:=abI;simp -implicitDefEqProofs only[go_sem,hid,hb.fit,hx.fit];refine(zT [y,x] [d.b,b] .full h' (.cons hb (.cons hx .nil)) ?_ abQ).mono fun r h1 ⟨e1,hs⟩=> ?_
   ·simp only[List.flatten_cons,List.flatten_nil,List.append_nil,abC];omega
   ·subst e1
    have hid1:=hs _ _ hid;simp -implicitDefEqProofs only[go_sem,hid1];have hok2:D.ok {d with b:=d.b++b}:=⟨by show(d.b++b).length≤d.q;rw[abC];omega,d2,by show d.sy≤(d.b++b).length;rw[abC];omega,d4⟩
    refine(qK {d with b:=d.b++b} hok2 id _ (.sl ((d.b++b).map aK) .no) ?_).mono fun r h2 ⟨e1,e2⟩=> ?_
    ·rw[ah]
     simp only[D.cells,List.flatten_cons,List.flatten_nil,List.append_nil]
    ·subst e1;subst e2
     have hk:Keep id h' (upd (upd h1 id (some (.obj (d.cells (.sl ((d.b++b).map aK) .no)) 96))) id (some (.obj ((D.burn {d with b:=d.b++b}).cells (.sl ((d.b++b).map aK) .no)) 96))):=
      (hs.keep id).trans ((Keep.upd id _).trans (Keep.upd id _))
     have hA:d.append b=(D.burn {d with b:=d.b++b},if(D.burn {d with b:=d.b++b}).off then 9 else 0):=by
      unfold D.append;rw[if_neg (by simp[e]),if_neg hno]
     simp -implicitDefEqProofs only[go_sem];refine .intro (fun e3=> ?_) (fun e3=> ?_)
     ·simp -implicitDefEqProofs only[go_sem]
      refine .same (.refl _) ?_;rw[hA,if_pos e3];refine⟨rfl,⟨_,ah .., ?_⟩,fun j k hj hk2=> ?_⟩
      ·simp only[D.xd];exact .sl _ _
      ·rw[ag _ _ hj];exact hs _ _ hk2
     ·simp -implicitDefEqProofs only[go_sem]
      refine .same (.refl _) ?_;rw[hA,if_neg (by simp[e3])]
      refine⟨rfl,⟨_,ah .., ?_⟩,fun j k hj hk2=> ?_⟩
      ·simp only[D.xd];exact .sl _ _
      ·rw[ag _ _ hj];exact hs _ _ hk2
theorem GY(d:D)(hd:d.ok)(id:Nat)(h:Heap)(hdk:bC h id d):
  ai Tryz.prog 105 [.ptr id 0] h fun r h' =>r= .i d.sync.2∧bC h' id d.sync.1∧Keep id h h' :=by
 obtain⟨y,hid0,hb⟩:=hdk;have hid:=hid0;simp only[D.cells]at hid;refine abH Tryz.func105 19 [.tmp 2] fun hwf=> ?_
 simp -implicitDefEqProofs only[go_sem,hid];refine .intro (fun e=> ?_) (fun e=> ?_)
 ·simp -implicitDefEqProofs only[go_sem,e]
  refine .same (.refl _) ?_;simp only[D.sync,e,if_true,au];exact adf
 ·simp -implicitDefEqProofs only[go_sem,e]
  refine(qK d hd id h y hid0).mono fun r h1 ⟨e1,e2⟩=> ?_
  subst e1;subst e2
  simp -implicitDefEqProofs only[go_sem];refine .intro (fun e3=> ?_) (fun e3=> ?_)
  ·simp -implicitDefEqProofs only[go_sem]
   refine .same (.refl _) ?_;rw[show d.sync=(d.burn,9) by unfold D.sync;rw[if_neg (by simp[e]),if_pos e3]]
   exact⟨rfl,⟨_,ah ..,by rw[D.xd];exact hb.set hid⟩,Keep.upd id _⟩
  ·simp only[D.cells]
   simp -implicitDefEqProofs only[go_sem,hb.len];refine .same (.refl _) ?_;rw[show d.sync=({d.burn with sy:=d.b.length},0) by unfold D.sync;rw[if_neg (by simp[e]),if_neg (by simp[e3])]]
   exact⟨rfl,⟨_,ah ..,by show By _ _ d.burn.b;rw[D.xd];exact hb.set hid⟩,Keep.upd id _⟩
theorem Et(d:D)(hd:d.ok)(id:Nat)(h:Heap)(n:Int)(hdk:bC h id d):
  ai Tryz.prog 104 [.ptr id 0,.i n] h fun r h' =>r= .v (.int .i64 (d.cut n).2)∧bC h' id (d.cut n).1∧Keep id h h' :=by
 obtain⟨y,hid0,hb⟩:=hdk;have hid:=hid0;simp only[D.cells]at hid;have hok:=hd;obtain⟨d1,d2,d3,d4⟩:=hd;refine abH Tryz.func104 41 [.tmp 4] fun hwf=> ?_
 simp -implicitDefEqProofs only[go_sem,hid];refine .intro (fun e=> ?_) (fun e=> ?_)
 ·simp -implicitDefEqProofs only[go_sem]
  refine .same (.refl _) ?_;simp only[D.cut,e,if_true,au];exact adf
 ·simp -implicitDefEqProofs only[go_sem,hid]
  have bad:(n<0∨(d.b.length:Int)<n)→mB [.i 1] h fun r h' =>r= .v (.int .i64 (d.cut n).2)∧bC h' id (d.cut n).1∧Keep id h h' :=fun hbad=>by
   refine .same (.refl _) ?_;simp only[D.cut,e,if_pos hbad,au];exact adf
  refine .intro (fun e2=> ?_) (fun e2=> ?_)
  ·have e2' :=abA e2
   simp -implicitDefEqProofs only[go_sem,e2];exact bad (.inl e2')
  ·have e2' :=abB e2
   simp -implicitDefEqProofs only[go_sem,e2,hid,hb.len];refine .intro (fun e3=> ?_) (fun e3=> ?_)
   ·have e3' :=abA e3
    simp -implicitDefEqProofs only[go_sem];exact bad (.inr e3')
   ·have e3' :=abB e3
    have hno:¬(n<0∨(d.b.length:Int)<n):=abI;simp -implicitDefEqProofs only[go_sem];refine(qK d hok id h y hid0).mono fun r h1 ⟨e1,e2⟩=> ?_
    subst e1;subst e2
    simp -implicitDefEqProofs only[go_sem];refine .intro (fun e4=> ?_) (fun e4=> ?_)
    ·simp -implicitDefEqProofs only[go_sem]
     refine .same (.refl _) ?_;rw[show d.cut n=(d.burn,9) by unfold D.cut;rw[if_neg (by simp[e]),if_neg hno,if_pos e4]]
     exact⟨rfl,⟨_,ah ..,by rw[D.xd];exact hb.set hid⟩,Keep.upd id _⟩
    ·have hb1:By (upd h id (some (.obj (d.burn.cells y) 96))) y d.b:=hb.set hid
     simp only[D.cells]at hb1⊢;simp -implicitDefEqProofs only[go_sem];refine hb1.take (m:=n) (x:=.i64) n.toNat ?_ abI abI u5 fun z hz=> ?_
     ·simp -implicitDefEqProofs only[go_sem]
     ·simp -implicitDefEqProofs only[go_sem]
      refine(pP z _ _ hz adh).mono fun r h1 ⟨e1,e2⟩=> ?_
      subst e1;subst e2
      simp -implicitDefEqProofs only[go_sem];refine .same (.refl _) ?_;rw[show d.cut n=({d.burn with b:=d.b.take n.toNat,sy:=min d.sy n.toNat},0) by unfold D.cut;rw[if_neg (by simp[e]),if_neg hno,if_neg (by simp[e4])]]
      refine⟨rfl,⟨.sl ((d.b.take n.toNat).map aK) .no, ?_,.sl _ _⟩,Keep.upd id _⟩;simp only[ah,D.cells,D.MD];have:(if n<(d.sy:Int)then n else(d.sy:Int))=((min d.sy n.toNat:Nat):Int):=afH
      rw[this]
def D.left(d:D)(keep:Int):Nat:=d.sy+min keep.toNat (d.b.length - d.sy)
def D.bad(d:D)(keep torn:Int):Nat:=min torn.toNat (d.left keep - d.sy)
def kI(l:List UInt8)(i:Nat):List UInt8:=l.take i++(l.drop i).map (~~~ ·)
def D.boot(d:D)(keep torn:Int):D:={d with b:=kI (d.b.take (d.left keep)) (d.left keep - d.bad keep torn),sy:=d.left keep,f:=0,off:=false}
theorem D.Nd{d:D}(hd:d.ok)(keep:Int):d.sy≤d.left keep∧d.left keep≤d.b.length:=by
 obtain⟨d1,d2,d3,d4⟩:=hd
 grind [D.left]
theorem vZ(l:List UInt8)(i:Nat):(kI l i).length=l.length:=by grind [kI]
theorem HV(c:UInt8):IntKind.u8.wrap ((BitVec.ofInt IntKind.u8.bits (if IntKind.u8.signed=true then -1 else IntKind.u8.max) ^^^ BitVec.ofInt IntKind.u8.bits (c.toNat:Int)).toNat)=((~~~ c).toNat:Int):=by
 revert c;have:∀i:Fin 256,IntKind.u8.wrap ((BitVec.ofInt IntKind.u8.bits (if IntKind.u8.signed=true then -1 else IntKind.u8.max) ^^^ BitVec.ofInt IntKind.u8.bits ((UInt8.ofNat i).toNat:Int)).toNat)=((~~~ (UInt8.ofNat i)).toNat:Int):=by decide+kernel
 intro c;have h:=this ⟨c.toNat,c.toNat_lt⟩;simpa using h
theorem LV(c:UInt8)(k:AV→Prop):unA .xor (.v (.int .u8 (c.toNat:Int))) k=k (.v (.int .u8 ((~~~ c).toNat:Int))):=by
 rw[wL,HV]
theorem LX{α:Type}{f:Nat→α}{i j:Nat}(hij:¬i=j)(a b c:α):upd (upd (upd f i a) j b) i c=upd (upd f i c) j b:=by
 grind [upd]
theorem MC(d:D)(hd:d.ok)(id:Nat)(h:Heap)(keep torn:Int)(hdk:bC h id d):
  ai Tryz.prog 38 [.ptr id 0,.i keep,.i torn] h fun _ h' =>bC h' id (d.boot keep torn)∧Keep id h h' :=by
 obtain⟨y,hid0,hb⟩:=hdk;have hid:=hid0;simp only[D.cells]at hid;obtain⟨d1,d2,d3,d4⟩:=hd;obtain⟨l1,l2⟩:=D.Nd ⟨d1,d2,d3,d4⟩ keep;have w1:IntKind.i64.wrap ((d.b.length:Int) - d.sy)=((d.b.length - d.sy:Nat):Int):=acp;have m1:(if keep<0 then(0:Int)else keep)=(keep.toNat:Int):=afH
 have m2:(if(((d.b.length - d.sy:Nat):Int))<(keep.toNat:Int)then(((d.b.length - d.sy:Nat):Int))else(keep.toNat:Int))=((min keep.toNat (d.b.length - d.sy):Nat):Int):=afH
 have w2:IntKind.i64.wrap ((d.sy:Int)+((min keep.toNat (d.b.length - d.sy):Nat):Int))=(d.left keep:Int):=by unfold D.left at*;rw[IntWalk.i64_in _ abI];omega
 have w3:IntKind.i64.wrap ((d.left keep:Int) - d.sy)=((d.left keep - d.sy:Nat):Int):=acp;have m3:(if torn<0 then(0:Int)else torn)=(torn.toNat:Int):=afH
 have m4:(if(((d.left keep - d.sy:Nat):Int))<(torn.toNat:Int)then(((d.left keep - d.sy:Nat):Int))else(torn.toNat:Int))=(d.bad keep torn:Int):=by unfold D.bad;split<;>omega
 have hbad:d.bad keep torn≤d.left keep:=by unfold D.bad;omega
 have w4:IntKind.i64.wrap ((d.left keep:Int) - (d.bad keep torn:Int))=((d.left keep - d.bad keep torn:Nat):Int):=acp;refine abH Tryz.func38 78 [] fun hwf=> ?_
 simp -implicitDefEqProofs only[go_sem,hid,hb.len,w1,m1,m2,w2];refine⟨.of abM, ?_⟩;simp -implicitDefEqProofs only[go_sem,hid,w3,m3,m4];refine hb.take (m:=d.left keep) (x:=.i64) (d.left keep) ?_ rfl l2 u5 fun z hz=> ?_
 ·simp -implicitDefEqProofs only[go_sem]
 ·simp -implicitDefEqProofs only[go_sem]
  have hlen:(d.b.take (d.left keep)).length=d.left keep:=adh;refine(J1 z _ _ hz abI).mono fun r h1 hr=> ?_
  rcases hr with⟨hl0,rfl,rfl⟩|⟨hl0,id2,m,hid2,rfl,rfl⟩
  ·have hl00:d.left keep=0:=by rw[hl0]at hlen;simpa using hlen.symm
   have hb0:d.bad keep torn=0:=abI;have hf:d.boot keep torn=⟨d.q,[],0,0,false⟩:=by
    unfold D.boot;rw[hl0,hl00];simp[kI]
   simp -implicitDefEqProofs only[go_sem,hid,w4];refine .intro (fun m ρ h' =>h' =upd h1 id (some (.obj [.i d.q,.sl [] .no,.i d.sy,.i d.f,.b d.off] 96))∧lk ρ 0=some (.ptr id 0)∧lk ρ 6=some (.i 0)∧lk ρ 8=some (.i 0)) 0 ?_ ?_
   ·refine⟨rfl, ?_, ?_, ?_⟩<;>simp -implicitDefEqProofs only[go_sem]
    ·rw[hl00];rfl
    ·rw[hl00,hb0];rfl
   ·rintro m ρ h' ⟨rfl,r0,r6,r8⟩
    simp -implicitDefEqProofs only[go_sem,r0,r6,r8];refine .no abL ?_;simp -implicitDefEqProofs only[go_sem,r0,r6,r8];refine .same (.refl _) ⟨⟨.sl [] .no, ?_, ?_⟩,Keep.upd id _⟩
    ·rw[ah,hf];rfl
    ·rw[hf];exact .nil _
  ·have hne:¬id=id2:=fun e=>by subst e;rw[hid]at hid2;cases hid2
   have hne' :¬id2=id:=fun e=>hne e.symm
   simp -implicitDefEqProofs only[go_sem,hid,hne,w4];generalize hL:d.b.take (d.left keep)=L at*;generalize hs:d.left keep - d.bad keep torn=s at*;rw[hlen];refine .intro (fun k ρ h' =>∃(i:Nat) (cs:List AV),k=d.left keep - i∧s≤i∧i≤d.left keep∧cs.length=d.left keep+m∧(∀j (hj:j<L.length),cs[j]? =some (aK (if s≤j∧j<i then ~~~ L[j]else L[j])))∧
    h' =upd (upd h id2 (some (.obj cs 5))) id (some (.obj [.i d.q,.oa id2 0 (d.left keep),.i d.sy,.i d.f,.b d.off] 96))∧lk ρ 0=some (.ptr id 0)∧lk ρ 6=some (.i (d.left keep:Nat))∧lk ρ 8=some (.i (i:Nat))) (d.left keep - s) ?_ ?_
   ·refine⟨s,_,rfl,Nat.le_refl _,abI, ?_,fun j hj=> ?_,rfl, ?_, ?_, ?_⟩
    ·simp[hlen]
    ·rw[List.getElem?_append_left (by simpa using hj),List.getElem?_map,List.getElem?_eq_getElem hj,if_neg abI];rfl
    all_goals simp -implicitDefEqProofs only[go_sem]
   ·rintro k ρ h' ⟨i,cs,rfl,hi1,hi2,hcl,hcs,rfl,r0,r6,r8⟩
    simp -implicitDefEqProofs only[go_sem,r0,r6,r8];refine .intro (fun e=> ?_) (fun e=> ?_)
    ·have hlt:i<d.left keep:=by simpa using e
     have c1:((0:Int)≤(i:Int))=True:=eq_true abI;have c2:((i:Int)<((d.left keep:Nat):Int))=True:=eq_true abI;have c3:=hcs i abI;rw[if_neg abI]at c3;have c4:(i+1≤cs.length)=True:=eq_true abI;have w5:IntKind.i64.wrap ((i:Int)+1)=((i+1:Nat):Int):=acp;simp -implicitDefEqProofs only[go_sem,r0,r6,r8,hne,hne',c1,c2,c3,c4,Nat.mul_one,Int.toNat_natCast,↓LV];refine⟨.of abM, ?_⟩;simp -implicitDefEqProofs only[go_sem,r0,r6,r8,w5];refine⟨d.left keep - (i+1),abI,i+1,_,rfl,abI,hlt, ?_, ?_,LX hne' .., ?_, ?_, ?_⟩
     ·simp;omega
     ·intro j hj
      show _=some (aK (if s≤j∧j<i+1 then ~~~ L[j]else L[j]))
      have hjc:j<cs.length:=abI;have hold:=hcs j hj
      by_cases hji:j=i
      ·subst hji
       rw[if_pos ⟨hi1,abI⟩];rw[List.append_assoc,List.getElem?_append_right acj];simp[show j≤cs.length by omega,aK]
      ·have hcond:(s≤j∧j<i+1)↔(s≤j∧j<i):=by omega
       simp only[hcond];rw[←show cs[j]? =some (aK (if s≤j∧j<i then ~~~ L[j]else L[j]))from hold]
       rcases Nat.lt_or_ge j i with hlt2|hge2
       ·rw[List.append_assoc,List.getElem?_append_left acj,List.getElem?_take,if_pos abI]
       ·rw[List.getElem?_append_right acj,List.getElem?_drop]
        congr 1
        simp;omega
     all_goals simp -implicitDefEqProofs only[go_sem,r0,r6,r8,w5]
    ·have hge:i=d.left keep:=by
      have:¬(i<d.left keep):=afG;omega
     subst hge;simp -implicitDefEqProofs only[go_sem,r0,r6,r8,hne,hne'];refine .same (.refl _) ⟨⟨.oa id2 0 (d.left keep), ?_, ?_⟩, ?_⟩
     ·rw[ah]
      rfl
     ·have hbl:(d.boot keep torn).b=kI L s:=by
       unfold D.boot;rw[hL,hs]
      have hll:(kI L s).length=d.left keep:=by rw[vZ,hlen]
      rw[hbl,←hll];refine .oa (cs:=cs) ?_ abI ?_
      ·rw[ag _ _ hne',ah]
      ·apply List.ext_getElem?
       intro j;rw[List.drop_zero,List.getElem?_take,List.getElem?_map]
       by_cases hj:j<d.left keep
       ·have hj2:j<L.length:=by omega
        have:=hcs j hj2;rw[if_pos abI,show cs[j]? =_ from this]
        unfold kI
        by_cases hsj:s≤j
        ·rw[if_pos ⟨hsj,hj⟩,List.getElem?_append_right acj]
         have:min s L.length=s:=abI;simp[this,hj2,show s+(j - s)=j by omega,aK]
        ·rw[if_neg abI,List.getElem?_append_left acj,List.getElem?_take,if_pos abI,List.getElem?_eq_getElem hj2];rfl
       ·rw[if_neg abI,List.getElem?_eq_none abI];rfl
     ·intro j k hj hk
      have h3:¬j=id2:=fun e=>by subst e;rw[hid2]at hk;cases hk
      rw[ag _ _ hj,ag _ _ h3];exact hk
theorem D.Mv{d:D}{b:List UInt8}(h1:d.off=false)(h2:d.f=0)(h3:d.b.length+b.length≤d.q):d.append b=({d with b:=d.b++b},0):=by
 rcases d with⟨q,b0,sy,f,off⟩
 subst h1;subst h2
 unfold D.append;rw[if_neg abQ,if_neg abJ];rfl
theorem D.OS{d:D}(h1:d.off=false)(h2:d.f=0):d.sync=({d with sy:=d.b.length},0):=by
 simp_all [D.sync,D.burn,if_neg]
theorem dthen{f:FuncId}{args:List AV}{h:Heap}{Q:AV→Heap→Prop}{X:AV}{id:Nat}{d:D}(hf:ai Tryz.prog f args h fun r h' =>r=X∧bC h' id d∧Keep id h h')(k:∀h',bC h' id d→Keep id h h'→Q X h'):ai Tryz.prog f args h Q:=
 hf.mono fun r h' ⟨e1,e2,e3⟩=>by subst e1;exact k h' e2 e3
theorem Mx(d:D)(n:Nat)(id:Nat)(h:Heap)(hd:bC h id d):ai Tryz.prog 36 [.ptr id 0,.i n] h fun r h' =>bC h' id {d with f:=n}∧Keep id h h' :=by
 obtain⟨y,h1,h2⟩:=hd;refine(Pt d n id h y h1).mono fun r h' e=> ?_
 subst e;exact⟨⟨y,afx,h2.set h1⟩,Keep.upd _ _⟩
theorem Lr(d:D)(hk:d.ok)(id:Nat)(h:Heap)(hd:bC h id d):ai Tryz.prog 103 [.ptr id 0] h fun r h' =>r= .sl (d.b.map aK) .no∧h' =h:=by
 obtain⟨y,h1,h2⟩:=hd;exact ND d hk id h y h1 h2
theorem Ng(d:D)(id:Nat)(h:Heap)(hd:bC h id d):ai Tryz.prog 29 [.ptr id 0] h fun r h' =>r= .i d.b.length∧h' =h:=by
 obtain⟨y,h1,h2⟩:=hd;exact Qn d id h y h1 h2
theorem ji{d:D}{b:List UInt8}(h1:d.off=false)(h2:d.b.length+b.length≤d.q):d.append b=(D.burn {d with b:=d.b++b},if(D.burn {d with b:=d.b++b}).off then 9 else 0):=by
 simp_all [D.append,if_neg]
theorem D.Ok{d:D}(h:d.f=0):d.burn=d:=by simp_all [D.burn,if_neg]
theorem D.VT{d:D}(h1:d.off=false)(h2:d.f=0){n:Nat}(h3:n≤d.b.length):d.cut n=({d with b:=d.b.take n,sy:=min d.sy n},0):=by
 simp_all [D.cut,if_neg,D.Ok]
def Bl(s:BitVec 32):BitVec 32:=if s &&& 1#32=1#32 then(s>>>1) ^^^ 0xedb88320#32 else s>>>1
def HC:Nat→BitVec 32→BitVec 32
 |0,s=>s
 |n+1,s=>Bl (HC n s)
def qL(s:BitVec 32)(c:UInt8):BitVec 32:=HC 8 (s ^^^ BitVec.ofNat 32 c.toNat)
def crc(l:List UInt8):BitVec 32:= ~~~ (l.foldl qL (BitVec.allOnes 32))
theorem Px(c:UInt8):IntKind.u32.wrap (c.toNat:Int)=((BitVec.ofNat 32 c.toNat).toNat:Int):=by
 rfl
theorem Fh(x:BitVec 32):(((x &&& 1#32).toNat:Int)==1)=decide (x &&& 1#32=1#32):=by
 rw[Bool.eq_iff_iff,beq_iff_eq,decide_eq_true_iff];constructor
 ·intro h
  apply BitVec.eq_of_toNat_eq
  grind
 grind
theorem LJ(y:AV)(l:List UInt8)(h:Heap)(hb:By h y l)(hl:l.length≤1000000000):
  ai Tryz.prog 89 [y] h fun r h' =>r= .v (.int .u32 ((crc l).toNat:Int))∧h' =h:=by
 refine abH Tryz.func89 31 [.tmp 2] fun hwf=> ?_
 simp -implicitDefEqProofs only[go_sem,hb.len];refine .intro (fun m ρ h' =>h' =h∧∃i:Nat,i≤l.length∧m=l.length - i∧lk ρ 7=some y∧lk ρ 8=some (.i l.length)∧lk ρ 9=some (.i i)∧lk ρ 3=some (.v (.int .u32 (((l.take i).foldl qL (BitVec.allOnes 32)).toNat:Int)))) l.length ?_ ?_
 ·refine⟨rfl,0,abI,rfl, ?_, ?_, ?_, ?_⟩<;>simp -implicitDefEqProofs only[go_sem]
  rfl
 ·rintro m ρ h' ⟨rfl,i,hi,rfl,r7,r8,r9,r3⟩
  simp -implicitDefEqProofs only[go_sem,r7,r8,r9,r3];refine .intro (fun e=> ?_) (fun e=> ?_)
  ·have hlt:i<l.length:=abF e
   have w1:IntKind.i64.wrap ((i:Int)+1)=((i+1:Nat):Int):=abV;have hs:(l.take (i+1)).foldl qL (BitVec.allOnes 32)=qL ((l.take i).foldl qL (BitVec.allOnes 32)) l[i]:=by
    grind [List.take_succ_eq_append_getElem]
   generalize (l.take i).foldl qL (BitVec.allOnes 32)=s at r3 hs;simp -implicitDefEqProofs only[go_sem,r7,r8,r9,r3];refine hb.idx i rfl hlt u5 u5a fun p hp=> ?_
   simp -implicitDefEqProofs only[go_sem,r7,r8,r9,r3,hp _,Px];refine .intro (fun m ρ h2=>h2=h'∧∃j:Nat,j≤8∧m=8 - j∧lk ρ 7=some y∧lk ρ 8=some (.i l.length)∧lk ρ 9=some (.i i)∧lk ρ 17=some (.i j)∧lk ρ 3=some (.v (.int .u32 ((HC j (s ^^^ BitVec.ofNat 32 l[i].toNat)).toNat:Int)))) 8 ?_ ?_
   ·refine⟨rfl,0,abI,rfl, ?_, ?_, ?_, ?_, ?_⟩<;>simp -implicitDefEqProofs only[go_sem,r7,r8,r9,r3]
    rfl
   ·rintro m ρ h2 ⟨rfl,j,hj,rfl,q7,q8,q9,q17,q3⟩
    simp -implicitDefEqProofs only[go_sem,q7,q8,q9,q17,q3];refine .intro (fun e=> ?_) (fun e=> ?_)
    ·have hjl:j<8:=by grind
     have w2:IntKind.i64.wrap ((j:Int)+1)=((j+1:Nat):Int):=abV;have hc:HC (j+1) (s ^^^ BitVec.ofNat 32 l[i].toNat)=Bl (HC j (s ^^^ BitVec.ofNat 32 l[i].toNat)):=rfl;generalize HC j (s ^^^ BitVec.ofNat 32 l[i].toNat)=z at q3 hc;simp -implicitDefEqProofs only[go_sem,q7,q8,q9,q17,q3,Fh];refine .intro (fun e2=> ?_) (fun e2=> ?_)
     ·simp -implicitDefEqProofs only[go_sem,q7,q8,q9,q17,q3,Fh,w2]
      refine⟨_, ?_,rfl,j+1,abI,rfl, ?_, ?_, ?_, ?_, ?_⟩
      rotate_left 5
      ·simp -implicitDefEqProofs only[go_sem,q7,q8,q9,q17,q3]
       simp_all [Bl,if_pos,abA]
      ·omega
      all_goals simp -implicitDefEqProofs only[go_sem,q7,q8,q9,q17,q3,w2]
     ·simp -implicitDefEqProofs only[go_sem,q7,q8,q9,q17,q3,Fh,w2]
      refine⟨_, ?_,rfl,j+1,abI,rfl, ?_, ?_, ?_, ?_, ?_⟩
      rotate_left 5
      ·simp -implicitDefEqProofs only[go_sem,q7,q8,q9,q17,q3]
       simp_all [Bl,if_neg,abB]
      ·omega
      all_goals simp -implicitDefEqProofs only[go_sem,q7,q8,q9,q17,q3,w2]
    ·have hj8:j=8:=by grind
     subst hj8;simp -implicitDefEqProofs only[go_sem,q7,q8,q9,q17,q3,w1];refine⟨_, ?_,rfl,i+1,abI,rfl, ?_, ?_, ?_, ?_⟩
     rotate_left 4
     ·simp -implicitDefEqProofs only[go_sem,q7,q8,q9,q17,q3]
      rw[hs];rfl
     ·omega
     all_goals simp -implicitDefEqProofs only[go_sem,q7,q8,q9,q17,q3,w1]
  ·have hge:i=l.length:=by grind
   subst hge;rw[List.take_length]at r3;simp -implicitDefEqProofs only[go_sem,r7,r8,r9,r3];exact abU
def pY(n:Nat):List UInt8:=[UInt8.ofNat n,UInt8.ofNat (n / 256),UInt8.ofNat (n / 65536),UInt8.ofNat (n / 16777216)]
def gN(l:List UInt8):Nat:=(l.getD 0 0).toNat+(l.getD 1 0).toNat*256+(l.getD 2 0).toNat*65536+(l.getD 3 0).toNat*16777216
theorem Gc(n:Nat)(hn:n<4294967296)(h:Heap):ai Tryz.prog 88 [.v (.int .u32 (n:Int))] h fun r h' =>r= .sl ((pY n).map aK) .no∧h' =h:=by
 refine abH Tryz.func88 15 [.tmp 2] fun hwf=> ?_
 have s8:=fun K=>JV (U:=U) (ty:=153) (K:=K) n 8 .u64 abL
 have s16:=fun K=>JV (U:=U) (ty:=153) (K:=K) n 16 .u64 abL
 have s24:=fun K=>JV (U:=U) (ty:=153) (K:=K) n 24 .u64 abL
 simp only[Int.cast_ofNat_Int]at s8 s16 s24;simp -implicitDefEqProofs only[go_sem,↓s8,↓s16,↓s24,w8];exact adX
theorem CF(y:AV)(l:List UInt8)(h:Heap)(hb:By h y l)(hl:4≤l.length):ai Tryz.prog 195 [y] h fun r h' =>r= .v (.int .u32 (gN l:Nat))∧h' =h:=by
 refine abH Tryz.func195 25 [.tmp 2] fun hwf=> ?_
 have lt:∀c:UInt8,c.toNat<256:=fun c=>c.toNat_lt
 have hnum:gN l=l[0].toNat+l[1].toNat*2 ^ 8+l[2].toNat*2 ^ 16+l[3].toNat*2 ^ 24:=by
  grind [gN]
 generalize hc0:l[0]=c0 at hnum;generalize hc1:l[1]=c1 at hnum;generalize hc2:l[2]=c2 at hnum;generalize hc3:l[3]=c3 at hnum;have v:=fun c:UInt8=>w32 c.toNat abJ
 have s1:=fun K=>Ej (U:=U) (ty:=153) (K:=K) c1.toNat 8 .u64 abL (lt _)
 have s2:=fun K=>Ej (U:=U) (ty:=153) (K:=K) c2.toNat 16 .u64 abL (lt _)
 have s3:=fun K=>Ej (U:=U) (ty:=153) (K:=K) c3.toNat 24 .u64 abL (lt _)
 have o1:=fun K=>JU (U:=U) (ty:=153) (K:=K) c0.toNat c1.toNat 8 abJ abL (lt _)
 have o2:=fun K=>JU (U:=U) (ty:=153) (K:=K) (c0.toNat+c1.toNat*2 ^ 8) c2.toNat 16 abJ abL (lt _)
 have o3:=fun K=>JU (U:=U) (ty:=153) (K:=K) (c0.toNat+c1.toNat*2 ^ 8+c2.toNat*2 ^ 16) c3.toNat 24 abJ abL (lt _)
 simp only[Int.cast_ofNat_Int]at s1 s2 s3;simp -implicitDefEqProofs only[go_sem];refine⟨.of abM, ?_⟩;refine hb.idx 0 rfl abI u5 u5a fun p0 hp0=> ?_
 rw[hc0]at hp0;simp -implicitDefEqProofs only[go_sem,hp0 _,v];refine hb.idx 1 rfl abI u5 u5a fun p1 hp1=> ?_
 rw[hc1]at hp1;simp -implicitDefEqProofs only[go_sem,hp1 _,v,↓s1,↓o1];refine hb.idx 2 rfl abI u5 u5a fun p2 hp2=> ?_
 rw[hc2]at hp2;simp -implicitDefEqProofs only[go_sem,hp2 _,v,↓s2,↓o2];refine hb.idx 3 rfl abI u5 u5a fun p3 hp3=> ?_
 rw[hc3]at hp3;simp -implicitDefEqProofs only[go_sem,hp3 _,v,↓s3,↓o3];refine .same (.refl _) ⟨?_,rfl⟩;rw[hnum];rfl
theorem sQ(n:Nat):(pY n).length=4:=rfl
theorem As(n:Nat)(hn:n<4294967296)(r:List UInt8):gN (pY n++r)=n:=by
 grind [gN,pY,List.getD_cons_zero,List.getD_cons_succ,UInt8.toNat_ofNat']
theorem Nr(l:List UInt8):gN l<4294967296:=by
 have h:∀c:UInt8,c.toNat<256:=fun c=>c.toNat_lt
 have h0:=h (l.getD 0 0);have h1:=h (l.getD 1 0);have h2:=h (l.getD 2 0);have h3:=h (l.getD 3 0);unfold gN;omega
def frame(p:List UInt8):List UInt8:=pY p.length++pY (crc p).toNat++p
theorem gb(p:List UInt8):(frame p).length=8+p.length:=by grind [frame,sQ]
def fO(l:List UInt8):Option (List UInt8):=
 if l.length<8 then none else if gN l<1∨8192<gN l∨l.length - 8<gN l then none else
  if(crc ((l.drop 8).take (gN l))).toNat=gN (l.drop 4)then some ((l.drop 8).take (gN l))else none
theorem mF{l p:List UInt8}(h:fO l=some p):8+p.length≤l.length∧1≤p.length∧p.length≤8192:=by
 unfold fO at h;split at h
 ·cases h
 ·split at h
  ·cases h
  ·split at h
   ·simp only[Option.some.injEq]at h
    subst h;rw[List.length_take,List.length_drop];omega
   ·cases h
theorem zg(p r:List UInt8)(h1:1≤p.length)(h2:p.length≤8192):fO (frame p++r)=some p:=by
 have e1:gN (frame p++r)=p.length:=by grind [frame,List.append_assoc,As]
 have e2:(frame p++r).drop 4=pY (crc p).toNat++(p++r):=by
  rfl
 have e3:(frame p++r).drop 8=p++r:=by
  rfl
 unfold fO;rw[if_neg (by grind [abC,gb]),e1,if_neg (by grind [abC,gb]),e2,e3,List.take_left,As _ (crc p).isLt,if_pos rfl]
theorem mZ(l:List UInt8)(h:l.length<8):fO l=none:=by simp_all [fO,if_pos]
def scan(l:List UInt8):List (List UInt8)×Nat:=match h:fO l with
 |none=>([],0)
 |some p=>let r:=scan (l.drop (8+p.length));(p::r.1,8+p.length+r.2)
termination_by l.length
decreasing_by
 have:=mF h;rw[List.length_drop];omega
theorem nK{l:List UInt8}(h:fO l=none):scan l=([],0):=by
 grind [scan]
theorem qV{l p:List UInt8}(h:fO l=some p):scan l=(p::(scan (l.drop (8+p.length))).1,8+p.length+(scan (l.drop (8+p.length))).2):=by
 grind [scan]
def frames(ps:List (List UInt8)):List UInt8:=(ps.map frame).flatten
theorem vu(p:List UInt8)(ps:List (List UInt8)):frames (p::ps)=frame p++frames ps:=abW
theorem DH(ps:List (List UInt8))(r:List UInt8)(h:∀p∈ps,1≤p.length∧p.length≤8192):scan (frames ps++r)=(ps++(scan r).1,(frames ps).length+(scan r).2):=by
 induction ps with
 |nil=>simp[frames]
 |cons p ps ih=>
  have hp:=h p abQ;have hb:=zg p (frames ps++r) hp.1 hp.2;rw[vu,List.append_assoc,qV hb,List.drop_left' (gb p),ih fun q hq=>h q abJ]
  simp[gb];omega
theorem GR(l:List UInt8):(scan l).2≤l.length:=by
 induction hn:l.length using Nat.strongRecOn generalizing l with
 |_ n ih=>
  cases hb:fO l with
  |none=>simp_all [nK,Nat.zero_le]
  |some p=>
   have hl:=mF hb;rw[qV hb];have:=ih (l.drop (8+p.length)).length abJ _ rfl;rw[List.length_drop]at this;omega
theorem Kl(y:AV)(l:List UInt8)(h:Heap)(hb:By h y l)(hl:l.length≤1000000):
  ai Tryz.prog 35 [y] h fun r h' =>r= .sl ((frame l).map aK) .no∧Sub h h' :=by
 refine abH Tryz.func35 13 [.tmp 2] fun hwf=> ?_
 have w1:=w32 l.length abI;simp -implicitDefEqProofs only[go_sem,hb.len,w1];refine(Gc l.length abI h).pthen ?_;simp -implicitDefEqProofs only[go_sem];refine(LJ y l h hb abI).pthen ?_;simp -implicitDefEqProofs only[go_sem];refine(Gc (crc l).toNat (crc l).isLt h).pthen ?_;simp -implicitDefEqProofs only[go_sem,hb.cells,hb.fit];refine(zT [.sl ((pY l.length).map aK) .no,.sl ((pY (crc l).toNat).map aK) .no,y] [pY l.length,pY (crc l).toNat,l] .full h (.cons (.sl _ _) (.cons (.sl _ _) (.cons hb .nil))) ?_ abQ).sthen fun h' hs=> ?_
 ·grind [sQ]
 simp -implicitDefEqProofs only[go_sem];refine .same (.refl _) ⟨?_,hs⟩;simp[frame,au]
theorem Bv(y:AV)(l:List UInt8)(h:Heap)(hb:By h y l)(hl:l.length≤2000000):
  ai Tryz.prog 157 [y] h fun r h' =>(∃P p b,r= .tup [P,.b b]∧By h P p∧fO l=if b=true then some p else none)∧h' =h:=by
 refine abH Tryz.func157 36 [.tmp 2,.tmp 3] fun hwf=> ?_
 rcases Nat.lt_or_ge l.length 8 with h8|h8
 ·have t1:decide ((l.length:Int)<8)=true:=decide_eq_true abI
  simp -implicitDefEqProofs only[go_sem,hb.len,t1];exact .same (.refl _) ⟨⟨_,[],false,rfl,.nil _,mZ l h8⟩,rfl⟩
 ·have t1:decide ((l.length:Int)<8)=false:=decide_eq_false abI
  simp -implicitDefEqProofs only[go_sem,hb.len,t1];refine(CF y l h hb abI).pthen ?_;have hn:=Nr l;have w1:IntKind.i64.wrap ((gN l:Nat):Int)=((gN l:Nat):Int):=bg _ abI;have w2:IntKind.i64.wrap ((l.length:Int) - 8)=((l.length - 8:Nat):Int):=acg
  by_cases hbad:gN l<1∨8192<gN l∨l.length - 8<gN l
  ·have hnone:fO l=none:=by unfold fO;rw[if_neg abI,if_pos hbad]
   have fin:∀Z:Prop,Z→Z:=fun _ z=>z
   by_cases c1:gN l<1
   ·have t2:decide (((gN l:Nat):Int)<1)=true:=decide_eq_true abI
    simp -implicitDefEqProofs only[go_sem,hb.len,w1,w2,t2];exact adb
   ·have t2:decide (((gN l:Nat):Int)<1)=false:=decide_eq_false abI
    by_cases c2:8192<gN l
    ·have t3:decide ((8192:Int)<((gN l:Nat):Int))=true:=decide_eq_true abI
     simp -implicitDefEqProofs only[go_sem,hb.len,w1,w2,t2,t3];exact adb
    ·have t3:decide ((8192:Int)<((gN l:Nat):Int))=false:=decide_eq_false abI
     have t4:decide (((l.length - 8:Nat):Int)<((gN l:Nat):Int))=true:=decide_eq_true abI;simp -implicitDefEqProofs only[go_sem,hb.len,w1,w2,t2,t3,t4];exact adb
  ·have t2:decide (((gN l:Nat):Int)<1)=false:=decide_eq_false abI
   have t3:decide ((8192:Int)<((gN l:Nat):Int))=false:=decide_eq_false abI;have t4:decide (((l.length - 8:Nat):Int)<((gN l:Nat):Int))=false:=decide_eq_false abI;have w3:IntKind.i64.wrap ((8:Int)+((gN l:Nat):Int))=((8+gN l:Nat):Int):=acg;simp -implicitDefEqProofs only[go_sem,hb.len,w1,w2,t2,t3,t4,w3];refine hb.cut (m:=8) (m2:=(8+gN l:Nat)) (x:=.i64) (x2:=.i64) 8 (8+gN l) ?_ rfl ?_ rfl abI abI u5 fun z hz=> ?_
   ·simp -implicitDefEqProofs only[go_sem]
   ·simp -implicitDefEqProofs only[go_sem]
   rw[Nat.add_sub_cancel_left]at hz;have hzl:((l.drop 8).take (gN l)).length≤1000000:=by rw[List.length_take,List.length_drop];omega
   simp -implicitDefEqProofs only[go_sem];refine .quiet abM ?_;simp -implicitDefEqProofs only[go_sem];refine⟨_,LJ z _ h hz abI, ?_⟩;simp -implicitDefEqProofs only[go_sem];refine hb.from (m:=4) (x:=.i64) 4 ?_ rfl abI u5 fun z4 hz4=> ?_
   ·simp -implicitDefEqProofs only[go_sem]
   simp -implicitDefEqProofs only[go_sem];refine⟨_,CF z4 _ h hz4 adF, ?_⟩;simp -implicitDefEqProofs only[go_sem];refine .same (.refl _) ⟨⟨z,_,_,rfl,hz, ?_⟩,rfl⟩;unfold fO;rw[if_neg abI,if_neg hbad]
   by_cases hc:(crc ((l.drop 8).take (gN l))).toNat=gN (l.drop 4)
   ·rw[if_pos hc,hc];simp
   ·rw[if_neg hc,if_neg]
    simp only[beq_iff_eq];omega
theorem NV:(U 41).bytes=24:=abW
def j3(p:List UInt8):AV:=.sl (p.map aK) .no
theorem GP(ps:List (List UInt8))(h:Heap):Ab.Rows 5 h (ps.map j3) ps:=⟨abQ,fun i h1 h2=>by simp only[abz];exact .sl _ _⟩
theorem yG(ps:List (List UInt8)):Sized 1 (ps.map j3):=(GP ps cK).sized
def gQ(h:Heap)(y:AV)(xs:List AV)(sp:List Nat):Prop:=(y= .sl xs .full∧sp= [])∨∃k,y= .sl xs (.own k)∧h k=some (.spare xs.length 1)∧sp= [k]
theorem I1{l:List UInt8}{at_:Nat}{ps:List (List UInt8)}{p:List UInt8}(h:scan l=(ps++(scan (l.drop at_)).1,at_+(scan (l.drop at_)).2))(hp:fO (l.drop at_)=some p):
  scan l=((ps++ [p])++(scan (l.drop (at_+(8+p.length)))).1,(at_+(8+p.length))+(scan (l.drop (at_+(8+p.length)))).2):=by
 simp_all [qV,List.drop_drop,Nat.add_assoc]
theorem NK(y:AV)(l:List UInt8)(h:Heap)(hb:By h y l)(hl:l.length≤2000000):
  ai Tryz.prog 102 [y] h fun r h' =>∃z sp,r= .tup [z,.i ((scan l).2:Nat)]∧gQ h' z ((scan l).1.map j3) sp∧Sub h h'∧∀i∈sp,h i=none:=by
 refine abH Tryz.func102 29 [.tmp 2,.tmp 3] fun hwf=> ?_
 simp -implicitDefEqProofs only[go_sem];refine .intro (fun m ρ h' =>∃(i:Nat) (ps:List (List UInt8)) (z:AV),Acc U 41 h h' z (ps.map j3)∧fC h h'∧ps.length≤i∧i≤l.length∧m=l.length - i∧scan l=(ps++(scan (l.drop i)).1,i+(scan (l.drop i)).2)∧
  lk ρ 0=some y∧lk ρ 4=some z∧lk ρ 5=some (.i (i:Nat))) l.length ?_ ?_
 ·refine⟨0,[],_,.full (.refl h),.refl h,abQ,abI,rfl,abQ, ?_, ?_, ?_⟩<;>simp -implicitDefEqProofs only[go_sem]
 ·rintro m ρ h' ⟨i,ps,z,ha,hk,hpi,hi,rfl,hsc,r0,r4,r5⟩
  have hb' :=hb.fF hk;simp -implicitDefEqProofs only[go_sem,r0,r4,r5];refine hb'.from (m:=i) (x:=.i64) i ?_ rfl hi u5 fun y2 hy2=> ?_
  ·rfl
  simp -implicitDefEqProofs only[go_sem,r0,r4,r5];refine(Bv y2 (l.drop i) h' hy2 abJ).mono fun r h2 ⟨⟨P,p,b,e1,hP,hbg⟩,e2⟩=> ?_
  subst e1;subst e2
  cases b with
  |false=>
   rw[if_neg abQ]at hbg;rw[nK hbg]at hsc;simp -implicitDefEqProofs only[go_sem,r0,r4,r5];have hs:=ha.1;rw[hsc];rcases ha.2 with rfl|⟨k,k1,rfl,k2⟩
   ·exact .same (.refl _) ⟨_,[],rfl,.inl ⟨abQ,rfl⟩,hs,abQ⟩
   ·rw[u27]at k2
    exact .same (.refl _) ⟨_,[k],rfl,.inr ⟨k,abQ,abJ,rfl⟩,hs,abJ⟩
  |true=>
   rw[if_pos rfl]at hbg;have hpl:=mF hbg;rw[List.length_drop]at hpl;have hsc' :=I1 hsc hbg;have w1:IntKind.i64.wrap ((8:Int)+(p.length:Int))=((8+p.length:Nat):Int):=abV;have w2:IntKind.i64.wrap ((i:Int)+((8+p.length:Nat):Int))=((i+(8+p.length):Nat):Int):=abV;simp -implicitDefEqProofs only[go_sem,r0,r4,r5];refine(pP P p h2 hP abI).pthen' ?_;simp -implicitDefEqProofs only[go_sem,r0,r4,r5];refine ha.app (zs:=[j3 p]) abL abL (fun k hk=>hk) (by grind [u27,yG]) (by grind [u27,Sized,j3,AV.cells]) (by grind [NV]) fun z' h3 ha' hk' => ?_
   rw[show ps.map j3++ [j3 p]=(ps++ [p]).map j3 by simp]at ha'
   have hP3:=hP.fF hk';simp -implicitDefEqProofs only[go_sem,r0,r4,r5,hP3.len,w1,w2];refine⟨_, ?_,i+(8+p.length),ps++ [p],z',ha',hk.trans hk',abJ,abI,rfl,hsc', ?_, ?_, ?_⟩
   ·omega
   all_goals simp -implicitDefEqProofs only[go_sem,r0,r4,r5,hP3.len,w1,w2]
theorem NL(l:List UInt8):(scan l).1.length≤l.length∧∀p∈(scan l).1,p.length≤8192:=by
 induction hn:l.length using Nat.strongRecOn generalizing l with
 |_ n ih=>
  cases hb:fO l with
  |none=>simp_all [nK,Nat.zero_le]
  |some p=>
   have hl:=mF hb;rw[qV hb]
   grind
theorem gQ.row{h:Heap}{y:AV}{xs:List AV}{sp:List Nat}(hg:gQ h y xs sp):∃q,y= .sl xs q:=by
 rcases hg with⟨rfl,_⟩|⟨k,rfl,_⟩<;>exact⟨_,rfl⟩
def Touch(S:List Nat)(h h' :Heap):Prop:=∀j k,j∉S→h j=some k→h' j=some k
theorem Touch.refl(S:List Nat)(h:Heap):Touch S h h:=fun _ _ _ e=>e
theorem Touch.trans{S T:List Nat}{a b c:Heap}(x:Touch S a b)(y:Touch T b c):Touch (S++T) a c:=fun j k e hj=>y j k abJ (x j k abJ hj)
theorem Touch.of{S:List Nat}{h h' :Heap}(hs:Ab.Sub h h'):Touch S h h' :=fun _ _ _ e=>hs _ _ e
theorem Touch.keep{i:Nat}{h h' :Heap}(hs:Keep i h h'):Touch [i] h h' :=fun j k e hj=>hs j k abJ hj
theorem Touch.upd{h:Heap}{i:Nat}{k:Option Blk}:Touch [i] h (upd h i k):=Touch.keep (Keep.upd i k)
theorem Touch.mono{S T:List Nat}{h h' :Heap}(ht:Touch S h h')(hs:∀i∈S,i∈T∨h i=none):Touch T h h' :=fun j k e hj=>ht j k abJ hj
theorem gQ.touch{h h' :Heap}{y:AV}{xs:List AV}{sp S:List Nat}(hg:gQ h y xs sp)(ht:Touch S h h')(hn:∀i∈sp,i∉S):gQ h' y xs sp:=by
 rcases hg with⟨rfl,rfl⟩|⟨k,rfl,k1,rfl⟩
 ·exact .inl ⟨rfl,rfl⟩
 ·exact .inr ⟨k,rfl,ht _ _ (hn k abQ) k1,rfl⟩
theorem gQ.has{h:Heap}{y:AV}{xs:List AV}{sp:List Nat}(hg:gQ h y xs sp):∀i∈sp,∃n,h i=some (.spare n 1):=by
 rcases hg with⟨rfl,rfl⟩|⟨k,rfl,k1,rfl⟩
 ·simp
 grind
theorem gQ.app{h:Heap}{y v:AV}{xs zs:List AV}{sp:List Nat}{Q:AV→Heap→Prop}(hg:gQ h y xs sp)(hsrc:∀k:List AV→Prop,k zs→ic U 41 h v k)(s1:Sized 1 xs)(s2:Sized 1 zs)
  (hlen:xs.length+zs.length≤1000000000000) (hk:∀y' h' sp',gQ h' y' (xs++zs) sp'→Touch sp h h'→(∀i∈sp',i∈sp∨h i=none)→Q y' h'):apK U h y v Q (.slice 41):=by
 rcases hg with⟨rfl,rfl⟩|⟨k,rfl,k1,rfl⟩
 ·refine(pG ..).mpr ⟨abL,abL,hsrc _ ⟨by grind [u27],by grind [u27],by grind [NV],fun hn=> ?_,fun hn=> .own fun id hid=> ?_⟩⟩
  ·subst hn
   exact hk _ _ [] (.inl ⟨abQ,rfl⟩) (.refl _ _) abQ
  ·rw[u27]
   exact hk _ _ [id] (.inr ⟨id,rfl,by rw[ah,abC],rfl⟩) (.of ((Ab.Sub.refl h).new hid _)) abJ
 ·refine(Bh ..).mpr ⟨abL,abL,hsrc _ ⟨by grind [u27],by grind [u27],by grind [NV],by grind [u27], ?_⟩⟩
  rw[u27];exact hk _ _ [k] (.inr ⟨k,rfl,by rw[ah,abC],rfl⟩) .upd abQ
def JAt(h:Heap)(t jid did:Nat)(ps:List (List UInt8))(down:Bool)(sp:List Nat):Prop:=
 ∃y xs,h jid=some (.obj [.ptr did 0,y,.b down] t)∧gQ h y xs sp∧∀g,Ab.Rows 5 g xs ps
theorem JAt.touch{h h' :Heap}{t jid did:Nat}{ps:List (List UInt8)}{down:Bool}{sp S:List Nat}(hj:JAt h t jid did ps down sp)(ht:Touch S h h')(h1:jid∉S)(hn:∀i∈sp,i∉S):JAt h' t jid did ps down sp:=by
 obtain⟨y,xs,a,b,c⟩:=hj;exact⟨y,xs,ht _ _ h1 a,b.touch ht hn,c⟩
theorem JAt.sub{h h' :Heap}{t jid did:Nat}{ps:List (List UInt8)}{down:Bool}{sp:List Nat}(hj:JAt h t jid did ps down sp)(ht:Ab.Sub h h'):JAt h' t jid did ps down sp:=
 hj.touch (S:=[]) (.of ht) abQ abQ
theorem IY{h:Heap}{xs:List AV}{ps:List (List UInt8)}{x:AV}{p:List UInt8}(hr:Ab.Rows 5 h xs ps)(hx:By h x p):Ab.Rows 5 h (xs++ [x]) (ps++ [p]):=⟨by simp[hr.1],fun i h1 h2=>by
 have hl:=hr.1
 by_cases hi:i<xs.length
 ·rw[List.getElem_append_left hi,List.getElem_append_left abI]
  exact hr.2 i hi abI
 ·have e:i=xs.length:=by grind
  subst e;simpa[hl]using hx⟩
theorem sE(jid did:Nat)(ps:List (List UInt8))(down:Bool)(sp:List Nat)(h:Heap)(hj:JAt h 173 jid did ps down sp):ai Tryz.prog 48 [.ptr jid 0] h fun r h' =>r= .b down∧h' =h:=by
 obtain⟨y,xs,a,_,_⟩:=hj;refine abH Tryz.func48 7 [.tmp 2] fun hwf=> ?_
 simp -implicitDefEqProofs only[go_sem,a];exact abU
theorem yD(jid did:Nat)(ps:List (List UInt8))(down:Bool)(sp:List Nat)(h:Heap)(hj:JAt h 173 jid did ps down sp)(hl:ps.length≤1000000)(hp:∀p∈ps,p.length≤1000000):
  ai Tryz.prog 45 [.ptr jid 0] h fun r h' =>∃q,r= .sl (ps.map j3) q∧Ab.Sub h h' :=by
 obtain⟨y,xs,a,b,c⟩:=hj;refine abH Tryz.func45 22 [.tmp 2] fun hwf=> ?_
 obtain⟨qy,rfl⟩:=b.row;have hlen:=(c h).1;simp -implicitDefEqProofs only[go_sem,a];refine .intro (fun m ρ g=>∃(i:Nat) (z:AV),Acc U 41 h g z ((ps.take i).map j3)∧i≤ps.length∧m=ps.length - i∧lk ρ 3=some z∧lk ρ 9=some (.sl xs qy)∧lk ρ 10=some (.i xs.length)∧lk ρ 11=some (.i i)) (ps.length - 0) ?_ ?_
 ·refine⟨0,_,.full (.refl h),abI,rfl, ?_, ?_, ?_, ?_⟩<;>simp -implicitDefEqProofs only[go_sem]
 ·rintro m ρ g ⟨i,z,ha,hi,rfl,r3,r9,r10,r11⟩
  by_cases hc:i<ps.length
  ·have d1:decide ((i:Int)<(xs.length:Int))=true:=decide_eq_true abI
   have w1:IntKind.i64.wrap ((i:Int)+1)=((i+1:Nat):Int):=abV;have hx:=(c g).2 i abI hc;simp -implicitDefEqProofs only[go_sem,r3,r9,r10,r11,d1];refine .at i abI (by rw[hx.cells];rfl) ?_
   simp -implicitDefEqProofs only[go_sem,r3,r9,r10,r11,hx.cells,hx.KU,and_self];refine(pP xs[i] ps[i] g hx abJ).pthen' ?_;simp -implicitDefEqProofs only[go_sem,r3,r9,r10,r11];refine ha.app (v:=.sl [j3 ps[i]] .full) (zs:=[j3 ps[i]]) abL abL (fun k hk=>hk) (by grind [u27,yG]) (by grind [u27,Sized,j3,AV.cells]) (by grind [NV]) fun z' g2 ha' hk' => ?_
   simp -implicitDefEqProofs only[go_sem,r3,r9,r10,r11,w1];refine⟨_, ?_,i+1,z', ?_,abI,rfl, ?_, ?_, ?_, ?_⟩
   ·omega
   ·grind [List.take_succ_eq_append_getElem]
   all_goals simp -implicitDefEqProofs only[go_sem,r3,r9,r10,r11,w1]
  ·obtain rfl:i=ps.length:=by omega
   have d1:decide ((ps.length:Int)<(xs.length:Int))=false:=decide_eq_false abI;simp -implicitDefEqProofs only[go_sem,r3,r9,r10,r11,d1];rw[List.take_length]at ha;obtain⟨q,rfl⟩:=ha.row;exact .same (.refl _) ⟨q,rfl,ha.1⟩
def D.bV(d:D):D×Nat:=
 let c:=if(scan d.b).2<d.b.length then d.cut ((scan d.b).2:Nat)else(d,0)
 if c.2=0 then c.1.sync else c
theorem KB(d:D)(hd:d.ok)(id:Nat)(h:Heap)(hdk:bC h id d):
  ai Tryz.prog 44 [.ptr id 0] h fun r h' =>∃J,r= .tup [J,.i (d.bV.2:Nat)]∧bC h' id d.bV.1∧Keep id h h'∧
   if d.bV.2=0 then∃jid sp,J= .ptr jid 0∧h jid=none∧JAt h' 173 jid id (scan d.b).1 false sp∧∀i∈sp,h i=none∧i≠jid else J= .v (.pointer none):=by
 refine ai.of_wp hU Tryz.func44 rfl abW 35 rfl [.tmp 2,.tmp 3] rfl (abx rfl) ?_;refine .one hU hm ?_;simp -implicitDefEqProofs only[go_sem]
 show WP _ _ _ _ _ _
 refine .one hU hm ?_;simp -implicitDefEqProofs only[go_sem]
 show WP _ _ _ _ _ _
 have hlen:d.b.length≤2000000:=by have:=hd.1;have:=hd.2.1;omega
 obtain⟨at_,hat⟩:∃n,(scan d.b).2=n:=⟨_,rfl⟩;have hatl:=GR d.b;rw[hat]at hatl;refine .cut (fun ρ g=>∃z sp,gQ g z ((scan d.b).1.map j3) sp∧Ab.Sub h g∧(∀i∈sp,h i=none)∧lk ρ 0=some (.ptr id 0)∧lk ρ 4=some z∧lk ρ 5=some (.i at_)) (.vc hU hm ?_) ?_
 ·simp -implicitDefEqProofs only[go_sem]
  refine(Lr d hd id h hdk).pthen ?_;simp -implicitDefEqProofs only[go_sem];refine(NK _ d.b h (.sl _ _) hlen).mono fun r g ⟨z,sp,e1,hg,hs,hsp⟩=> ?_
  subst e1;rw[hat];simp -implicitDefEqProofs only[go_sem];refine⟨z,sp,hg,hs,hsp, ?_, ?_, ?_⟩<;>simp -implicitDefEqProofs only[go_sem]
 rintro ρ g ⟨z,sp,hg,hs,hsp,r0,r4,r5⟩
 have hdk1:=hdk.keep hs.fF;have hob:∀i∈sp,i≠id:=fun i hi e=>by
  obtain⟨y,hy,_⟩:=hdk
  grind
 refine .cut (fun ρ g=>∃d1,d.bV=d1.sync∧d1.ok∧bC g id d1∧gQ g z ((scan d.b).1.map j3) sp∧Keep id h g∧lk ρ 0=some (.ptr id 0)∧lk ρ 4=some z) (.vc hU hm ?_) ?_
 ·simp -implicitDefEqProofs only[go_sem,r0,r4,r5]
  refine(Ng d id g hdk1).pthen ?_;simp -implicitDefEqProofs only[go_sem,r0,r4,r5];refine .intro (fun e=> ?_) (fun e=> ?_)
  ·have e:=abA e
   have e' :at_<d.b.length:=abI;simp -implicitDefEqProofs only[go_sem,r0,r4,r5];refine dthen (Et d hd id g at_ hdk1) fun g1 hd1 kp=> ?_
   have hO:d.bV=if(d.cut (at_:Nat)).2=0 then(d.cut (at_:Nat)).1.sync else d.cut (at_:Nat):=by
    simp_all [D.bV,if_pos]
   have ok1:=D.Et hd at_;generalize d.cut (at_:Nat)=D0 at hO hd1 ok1⊢;obtain⟨D1,c1⟩:=D0;simp only at hO hd1 ok1⊢;simp -implicitDefEqProofs only[go_sem,r0,r4,r5]
   by_cases hc:c1=0
   ·subst hc
    rw[if_pos rfl]at hO;simp -implicitDefEqProofs only[go_sem,r0,r4,r5];refine⟨D1,hO,ok1,hd1,hg.touch (Touch.keep kp) abJ,(hs.keep id).trans kp, ?_, ?_⟩<;>simp -implicitDefEqProofs only[go_sem,r0,r4]
   ·rw[if_neg hc]at hO
    have t1:(((c1:Nat):Int) !=0)=true:=abJ;simp -implicitDefEqProofs only[go_sem,r0,r4,r5,t1];refine .same (.refl _) ⟨_,by rw[hO];rfl,abJ,(hs.keep id).trans kp, ?_⟩
    grind
  ·have e:=abB e
   have e' :¬at_<d.b.length:=abI;have hO:d.bV=d.sync:=by
    simp_all [D.bV,if_neg]
   simp -implicitDefEqProofs only[go_sem,r0,r4,r5];refine⟨d,hO,hd,hdk1,hg,hs.keep id, ?_, ?_⟩<;>simp -implicitDefEqProofs only[go_sem,r0,r4]
 rintro ρ g1 ⟨d1,hO,ok1,hd1,hg1,kp1,r0,r4⟩
 refine .vc hU hm ?_;simp -implicitDefEqProofs only[go_sem,r0,r4];refine dthen (GY d1 ok1 id g1 hd1) fun g2 hd2 kp2=> ?_
 rw[hO];generalize d1.sync=D0 at hd2⊢;obtain⟨D2,c2⟩:=D0;simp only at hd2⊢;have kp:=kp1.trans kp2;have hg2:=hg1.touch (Touch.keep kp2) abJ;simp -implicitDefEqProofs only[go_sem,r0,r4]
 by_cases hc:c2=0
 ·subst hc
  obtain⟨qz,rfl⟩:=hg2.row;simp -implicitDefEqProofs only[go_sem,r0,r4];intro jid hjid;simp -implicitDefEqProofs only[go_sem,r0,r4];have hne:jid≠id:=fun e=>by
   obtain⟨y,hy,_⟩:=hd2
   grind
  have hjh:h jid=none:=by
   cases hh:h jid with
   |none=>rfl
   |some k=>rw[kp _ _ hne hh]at hjid;omega
  have hsj:∀i∈sp,i≠jid:=fun i hi e=>by
   obtain⟨n,hn⟩:=hg2.has i hi
   grind
  refine .same (.refl _) ⟨_,rfl,hd2.keep (.new hjid),fun j k e hj=> ?_,jid,sp,rfl,hjh,⟨_,_,ah ..,hg2.touch .upd abJ,fun g=>GP _ g⟩,fun i hi=>⟨hsp i hi,hsj i hi⟩⟩
  have h2:=kp j k e hj;rw[ag _ _ abJ];exact afM
 ·have t1:(((c2:Nat):Int) !=0)=true:=by grind
  simp -implicitDefEqProofs only[go_sem,r0,r4,t1];exact .same (.refl _) ⟨_,rfl,hd2,kp,abJ⟩
def jadd(d:D)(ps:List (List UInt8))(down:Bool)(p:List UInt8):(D×List (List UInt8)×Bool)×Nat:=
 if down=true then((d,ps,true),9)else if p.length=0∨8192<p.length then((d,ps,false),1)else
  if(d.append (frame p)).2=8 then(((d.append (frame p)).1,ps,false),8)else
   if(if(d.append (frame p)).2=0 then(d.append (frame p)).1.sync else d.append (frame p)).2=0 then
    (((if(d.append (frame p)).2=0 then(d.append (frame p)).1.sync else d.append (frame p)).1,ps++ [p],false),0)
   else(((if(d.append (frame p)).2=0 then(d.append (frame p)).1.sync else d.append (frame p)).1,ps,true),9)
theorem D.B7(d:D)(b:List UInt8):(d.append b).2=0∨(d.append b).2=8∨(d.append b).2=9:=by
 grind [D.append]
theorem D.Je(d:D):d.sync.2=0∨d.sync.2=9:=by
 grind [D.sync]
theorem Gn(d:D)(hd:d.ok)(id jid:Nat)(ps:List (List UInt8))(down:Bool)(sp:List Nat)(h:Heap)(x:AV)(p:List UInt8)(hdk:bC h id d)(hj:JAt h 173 jid id ps down sp)(hx:By h x p)(hp:p.length≤1000000)(hps:ps.length≤1000000):
  ai Tryz.prog 49 [.ptr jid 0,x] h fun r h' =>r= .i ((jadd d ps down p).2:Nat)∧∃sp',bC h' id (jadd d ps down p).1.1∧JAt h' 173 jid id (jadd d ps down p).1.2.1 (jadd d ps down p).1.2.2 sp'∧
   Touch (id::jid::sp) h h'∧∀i∈sp',i∈sp∨h i=none:=by
 obtain⟨y,xs,hjid,hg,hrs⟩:=hj;have hne:jid≠id:=fun e=>by
  obtain⟨z,hz,_⟩:=hdk;rw[←e,hjid]at hz;simp only[Option.some.injEq,Blk.obj.injEq]at hz;exact absurd hz.2 abL
 refine ai.of_wp hU Tryz.func49 rfl abM 51 rfl [.tmp 4] rfl (abx rfl) ?_;refine .one hU hm ?_;simp -implicitDefEqProofs only[go_sem]
 show WP _ _ _ _ _ _
 refine .one hU hm ?_;cases down with
 |true=>
  have hJ:jadd d ps true p=((d,ps,true),9):=by simp[jadd]
  simp -implicitDefEqProofs only[go_sem,hjid];refine .same (.refl _) ?_;rw[hJ];exact⟨rfl,sp,hdk,⟨y,xs,hjid,hg,hrs⟩,.refl _ _,fun i hi=> .inl hi⟩
 |false=>
  simp -implicitDefEqProofs only[go_sem,hjid]
  show WP _ _ _ _ _ _
  refine .one hU hm ?_;have bad:(p.length=0∨8192<p.length)→mB [.i 1] h fun r h' =>r= .i ((jadd d ps false p).2:Nat)∧∃sp',bC h' id (jadd d ps false p).1.1∧JAt h' 173 jid id (jadd d ps false p).1.2.1 (jadd d ps false p).1.2.2 sp'∧
    Touch (id::jid::sp) h h'∧∀i∈sp',i∈sp∨h i=none:=fun hb=>by
   have hJ:jadd d ps false p=((d,ps,false),1):=by unfold jadd;rw[if_neg abQ,if_pos hb]
   refine .same (.refl _) ?_;rw[hJ];exact⟨rfl,sp,hdk,⟨y,xs,hjid,hg,hrs⟩,.refl _ _,fun i hi=> .inl hi⟩
  by_cases h0:p.length=0
  ·have t0:(((p.length:Nat):Int)==0)=true:=by simp[h0]
   simp -implicitDefEqProofs only[go_sem,hx.len,t0];exact bad (.inl h0)
  ·have t0:(((p.length:Nat):Int)==0)=false:=beq_eq_false_iff_ne.mpr abI
   by_cases h1:8192<p.length
   ·have t1:decide ((8192:Int)<(p.length:Int))=true:=decide_eq_true abI
    simp -implicitDefEqProofs only[go_sem,hx.len,t0,t1];exact bad (.inr h1)
   ·have t1:decide ((8192:Int)<(p.length:Int))=false:=decide_eq_false abI
    have hJ:jadd d ps false p=if(d.append (frame p)).2=8 then(((d.append (frame p)).1,ps,false),8)else
      if(if(d.append (frame p)).2=0 then(d.append (frame p)).1.sync else d.append (frame p)).2=0 then
       (((if(d.append (frame p)).2=0 then(d.append (frame p)).1.sync else d.append (frame p)).1,ps++ [p],false),0)
      else(((if(d.append (frame p)).2=0 then(d.append (frame p)).1.sync else d.append (frame p)).1,ps,true),9):=by
     have hno:¬(p.length=0∨8192<p.length):=abI;unfold jadd;rw[if_neg abQ,if_neg hno]
    have hcode:=D.B7 d (frame p);simp -implicitDefEqProofs only[go_sem,hx.len,t0,t1]
    show WP _ _ _ _ _ _
    refine .one hU hm ?_;simp -implicitDefEqProofs only[go_sem];refine .calls (hm1 jid _) [0,1,2,3,4,5,6,7] (.hm1 hjid) abM rfl ?_;simp -implicitDefEqProofs only[go_sem,hjid];refine(Kl x p h hx hp).sthen fun g1 hs1=> ?_
    refine⟨.hm1 (hs1 _ _ hjid), ?_⟩;simp -implicitDefEqProofs only[go_sem];refine dthen (tX d hd id g1 _ (frame p) (hdk.keep hs1.fF) (.sl _ _) (by rw[gb];omega)) fun g2 hd2 kp=> ?_
    have hj2:g2 jid=some (.obj [.ptr id 0,y,.b false] 173):=kp _ _ hne (hs1 _ _ hjid);refine⟨.hm1 hj2, ?_⟩;have ok2:=D.tX hd (frame p);have hkp:Keep id h g2:=(hs1.keep id).trans kp;have hgid:∀i∈sp,i≠id:=fun i hi e=>by
     obtain⟨n,hn⟩:=hg.has i hi;obtain⟨z,hz,_⟩:=hdk;rw[e,hz]at hn;cases hn
    have hg2:gQ g2 y xs sp:=hg.touch (Touch.keep hkp) (fun i hi=>by simp[hgid i hi])
    have hx2:By g2 x p:=by
     obtain⟨z,hz,_⟩:=hdk;exact(hx.keep hkp hz abL)
    have hT2:Touch (id::jid::sp) h g2:=(Touch.keep hkp).mono (fun i hi=> .inl (by simp at hi;simp[hi]))
    generalize d.append (frame p)=A at hJ hcode hd2 ok2⊢;obtain⟨d2,c2⟩:=A;simp only at hJ hcode hd2 ok2⊢;simp -implicitDefEqProofs only[go_sem]
    show WP _ _ _ _ _ _
    refine .one hU hm ?_;have downed:∀(g:Heap) (e:D) (ρ:Env),bC g id e→g jid=some (.obj [.ptr id 0,y,.b false] 173)→gQ g y xs sp→Touch (id::jid::sp) h g→jadd d ps false p=((e,ps,true),9)→
      (mB [.i 9] (upd g jid (some (.obj [.ptr id 0,y,.b true] 173))) fun r h' =>r= .i ((jadd d ps false p).2:Nat)∧∃sp',bC h' id (jadd d ps false p).1.1∧JAt h' 173 jid id (jadd d ps false p).1.2.1 (jadd d ps false p).1.2.2 sp'∧
       Touch (id::jid::sp) h h'∧∀i∈sp',i∈sp∨h i=none):=fun g e ρ a1 a2 a3 a4 hJ=>by
     rw[hJ];have hsj:∀i∈sp,i≠jid:=fun i hi e=>by
      obtain⟨n,hn⟩:=hg.has i hi;rw[e,hjid]at hn;cases hn
     have ht:Touch [jid] g (upd g jid (some (.obj [.ptr id 0,y,.b true] 173))):=.upd;refine .same (.refl _) ⟨rfl,sp, ?_,⟨y,xs,ah ..,a3.touch ht (fun i hi=>by simp[hsj i hi]),hrs⟩,(a4.trans ht).mono (fun i hi=> .inl (by simp at hi⊢;rcases hi with h|h|h|h<;>simp[h])),fun i hi=> .inl hi⟩
     obtain⟨z,z1,z2⟩:=a1;exact⟨z,ht _ _ (by simp;exact fun e=>hne e.symm) z1,z2.keep (Keep.upd jid _) a2 abL⟩
    have hc0:=hcode;rcases hcode with rfl|rfl|rfl
    ·
     simp -implicitDefEqProofs only[go_sem];refine .one hU hm ?_;simp -implicitDefEqProofs only[go_sem,hj2];refine dthen (GY d2 ok2 id g2 hd2) fun g3 hd3 kp3=> ?_
     have hj3:g3 jid=some (.obj [.ptr id 0,y,.b false] 173):=kp3 _ _ hne hj2;have hg3:gQ g3 y xs sp:=hg2.touch (Touch.keep kp3) (fun i hi=>by simp[hgid i hi])
     have hx3:By g3 x p:=by
      obtain⟨z,hz,_⟩:=hd2;exact(hx2.keep kp3 hz abL)
     have hT3:Touch (id::jid::sp) h g3:=(hT2.trans (Touch.keep kp3)).mono (fun i hi=> .inl (by simp at hi⊢;rcases hi with h|h|h|h<;>simp[h]))
     have hcs:=D.Je d2;rw[if_neg abL,if_pos rfl]at hJ;generalize d2.sync=A at hJ hcs hd3⊢;obtain⟨d3,c3⟩:=A;simp only at hJ hcs hd3⊢;rcases hcs with rfl|rfl
     ·simp -implicitDefEqProofs only[go_sem]
      refine .one hU hm ?_;simp -implicitDefEqProofs only[go_sem];refine .one hU hm ?_;simp -implicitDefEqProofs only[go_sem];refine .last (hm1 jid _) [0,1,2,3,4,5,6,7,8,9,10] (.hm1 hj3) abM rfl abM rfl ?_;simp -implicitDefEqProofs only[go_sem,hj3];refine(pP x p g3 hx3 abI).pthen' ?_;obtain⟨qy,rfl⟩:=hg3.row;refine⟨.hm1 hj3, ?_⟩;simp -implicitDefEqProofs only[go_sem,hj3];refine hg3.app (v:=.sl [j3 p] .full) (zs:=[j3 p]) (fun k hk=>hk) (hrs h).sized (by simp[Sized,j3,AV.cells]) (by have:=(hrs h).1;simp;omega) fun z g4 sp' hg4 ht4 hsp' => ?_
      have hsj:∀i∈sp,i≠jid:=fun i hi e=>by
       obtain⟨n,hn⟩:=hg.has i hi;rw[e,hjid]at hn;cases hn
      have hj4:g4 jid=some (.obj [.ptr id 0,.sl xs qy,.b false] 173):=ht4 _ _ (fun hi=>hsj _ hi rfl) hj3
      refine⟨.hm1 hj4, ?_⟩;obtain⟨qz,rfl⟩:=hg4.row;simp -implicitDefEqProofs only[go_sem,hj4];refine .vc hU hm ?_;simp -implicitDefEqProofs only[go_sem];have ht5:Touch [jid] g4 (upd g4 jid (some (.obj [.ptr id 0,.sl (xs++ [j3 p]) qz,.b false] 173))):=.upd;have hsj' :∀i∈sp',i≠jid:=fun i hi e=>by
       obtain⟨n,hn⟩:=hg4.has i hi;rw[e,hj4]at hn;cases hn
      rw[if_pos rfl]at hJ;refine .same (.refl _) ?_;rw[hJ];refine⟨rfl,sp', ?_,⟨_,_,ah ..,hg4.touch ht5 (fun i hi=>by simp[hsj' i hi]),fun g=>IY (hrs g) (.sl _ _)⟩, ?_,fun i hi=> ?_⟩
      ·obtain⟨z,z1,z2⟩:=hd3
       have hid4:g4 id=some (.obj (d3.cells z) 96):=ht4 _ _ (fun hi=>hgid _ hi rfl) z1
       have z4:By g4 z d3.b:=by
        rcases z2 with z2|⟨i,off,cs,rfl,a1,a2,a3⟩
        ·exact .inl z2
        ·exact .oa (ht4 _ _ (fun hi=>by obtain⟨n,hn⟩:=hg3.has i hi;rw[a1]at hn;cases hn) a1) a2 a3
       exact⟨z,ht5 _ _ (by simp;exact fun e=>hne e.symm) hid4,z4.keep (Keep.upd jid _) hj4 abL⟩
      ·exact((hT3.trans ht4).trans ht5).mono (fun i hi=> .inl (by simp at hi⊢;grind))
      ·rcases hsp' i hi with h1|h1
       ·exact .inl h1
       ·cases hh:h i with
        |none=>exact .inr rfl
        |some k=>
         by_cases hin:i∈id::jid::sp
         ·simp only[List.mem_cons]at hin
          rcases hin with e|e|e
          ·subst e;rw[hd3.choose_spec.1]at h1;cases h1
          ·subst e;rw[hj3]at h1;cases h1
          ·exact .inl e
         ·rw[hT3 i k hin hh]at h1;cases h1
     ·simp -implicitDefEqProofs only[go_sem]
      refine .one hU hm ?_;simp -implicitDefEqProofs only[go_sem,hj3];exact downed g3 d3 [] hd3 hj3 hg3 hT3 hJ
    ·
     simp -implicitDefEqProofs only[go_sem];refine .same (.refl _) ?_;rw[hJ];exact⟨rfl,sp,hd2,⟨y,xs,hj2,hg2,hrs⟩,hT2,fun i hi=> .inl hi⟩
    ·simp -implicitDefEqProofs only[go_sem]
     refine .one hU hm ?_;simp -implicitDefEqProofs only[go_sem,hj2];refine .one hU hm ?_;simp -implicitDefEqProofs only[go_sem,hj2];exact downed g2 d2 [] hd2 hj2 hg2 hT2 hJ
theorem D.QB{d:D}(hd:d.ok)(h1:d.off=false)(h2:d.f=0):d.bV=({d with b:=d.b.take (scan d.b).2,sy:=(scan d.b).2},0):=by
 have hl:=GR d.b;have OS:∀e:D,e.off=false→e.f=0→e.sync=({e with sy:=e.b.length},0):=fun e h1 h2=>by
  unfold D.sync;rw[if_neg (by simp[h1]),D.Ok h2,if_neg (by simp[h1])]
 unfold D.bV
 by_cases h:(scan d.b).2<d.b.length
 ·rw[if_pos h,D.VT h1 h2 hl]
  grind
 ·have e:(scan d.b).2=d.b.length:=by omega
  grind
theorem I2(ps:List (List UInt8))(r:List UInt8)(h:∀p∈ps,1≤p.length∧p.length≤8192)(hr:r.length<8):scan (frames ps++r)=(ps,(frames ps).length):=by
 grind [DH,nK,mZ]
theorem Ty{d:D}{ps:List (List UInt8)}{p:List UInt8}(h1:d.off=false)(h2:d.f=0)(hp1:1≤p.length)(hp2:p.length≤8192)(hf:d.b.length+(frame p).length≤d.q):
  jadd d ps false p=(({d with b:=d.b++frame p,sy:=(d.b++frame p).length},ps++ [p],false),0):=by
 have hno:¬(p.length=0∨8192<p.length):=abI;have hs:({d with b:=d.b++frame p}:D).sync=({d with b:=d.b++frame p,sy:=(d.b++frame p).length},0):=D.OS h1 h2
 unfold jadd;rw[if_neg abQ,if_neg hno,D.Mv h1 h2 hf,if_neg abI,if_pos rfl,hs,if_pos rfl]
theorem yH:scan []=([],0):=by grind [nK,mZ]
end Go.Proofs.YtcochaoekecfdaaGreatDoor
namespace Go.Bf
open Go Go.Ab Go.Proofs.YtcochaoekecfdaaGreatDoor
def fnv(h:BitVec 64)(n:Nat):BitVec 64:=(h ^^^ BitVec.ofNat 64 n)*1099511628211#64
def MS(g:BitVec 64→Nat→BitVec 64):Nat→BitVec 64→BitVec 64→BitVec 64
 |0,_,h=>h
 |n+1,p,h=>MS g n (p>>>8) (g h (p &&& 255#64).toNat)
def HW(n:Nat)(p h:BitVec 64):BitVec 64:=MS fnv n p h
theorem HZ(g:BitVec 64→Nat→BitVec 64)(n:Nat)(p h:BitVec 64):MS g (n+1) p h=MS g n (p>>>8) (g h (p &&& 255#64).toNat):=rfl
theorem HY(p h:BitVec 64):HW 0 p h=h:=rfl
theorem HX(n:Nat)(p h:BitVec 64):HW (n+1) p h=HW n (p>>>8) (fnv h (p &&& 255#64).toNat):=HZ fnv n p h
def rK(prev:BitVec 64)(l:Txt):BitVec 64:=l.foldl (fun h c=>fnv h c.toNat) (HW 8 prev 14695981039346656037#64)
def pT:Nat→BitVec 64→Txt
 |0,_=>[]
 |n+1,h=>UInt8.ofNat h.toNat::pT n (h>>>8)
def fU(h:BitVec 64)(o:OpD):Txt:=pT 8 h++uK o
theorem qN:∀(n:Nat) (h:BitVec 64),(pT n h).length=n
 |0,_=>rfl
 |n+1,h=>by simp[pT,qN n]
structure fB where
 s:an
 log:List o6
 ch:BitVec 64
 ps:List Txt
 down:Bool
def mP(e:fB)(p:Txt):Option OpD:=if p.length<8 then none else match pn (p.drop 8)with
 |some o=>if fU e.ch o=p then some o else none
 |none=>none
def qb(e:fB)(g:an×kX×o6×Int)(p:Txt):fB:={e with s:=g.1,log:=e.log++ [g.2.2.1],ch:=rK e.ch p}
def rD(e:fB)(p:Txt):Option fB:=match mP e p with
 |some o=>if(bt e.s o).2.2.2=0 then some (qb e (bt e.s o) p)else none
 |none=>none
def oU:fB→List Txt→Option fB
 |e,[]=>some e
 |e,p::r=>match rD e p with
  |some e' =>oU e' r
  |none=>none
def gy(ps:List Txt):fB:=⟨rj,[],0,ps,false⟩
def FC(ps:List Txt):Option fB:=oU (gy ps) ps
def Bp(n:Int):kX:=⟨n,naM,false,ax,false,0⟩
def doE(e:fB)(d:D)(o:OpD):fB×D×kX:=
 if e.down then(e,d,Bp 9)else
 let g:=bt e.s o
 if g.2.2.2≠0 then(e,d,g.2.1)else
 let p:=fU e.ch o
 let a:=jadd d e.ps e.down p
 if a.2=0 then({qb e g p with ps:=a.1.2.1,down:=a.1.2.2},a.1.1,g.2.1)else({e with ps:=a.1.2.1,down:=a.1.2.2},a.1.1,Bp (a.2:Int))
theorem xD:∀(l:List Txt) (e:fB) (p:Txt),oU e (l++ [p])=(oU e l).bind fun e' =>rD e' p
 | [],e,p=>by
  grind [oU,rD]
 |q::l,e,p=>by
  simp only[List.cons_append,oU];cases rD e q with
  |none=>rfl
  |some e' =>exact xD l e' p
theorem jW{s:an}{o:OpD}(h:(bt s o).2.2.2=0):eO o=true:=by
 have hp:(jL s o).1=0:=by
  unfold bt at h
  grind
 exact(tD hp).2.1
theorem He:∀(f v:Nat),(uZ f v).length≤f
 |0,_=>by simp[uZ]
 |f+1,v=>by
  unfold uZ;split
  ·simp
  ·simp only[List.length_cons]
   have:=He f (v / 128);omega
theorem jC(n:Int):(ov n).length≤10:=He 10 _
theorem Ns(n:Int):1≤(ov n).length:=List.length_pos_iff.2 (N0 10 _ abL)
theorem fI(s:Txt):(fl s).length≤10+s.length:=by
 grind [fl,abC,jC]
theorem G8{v:bA}(h:v=ax∨bI v=true):(yV v).length≤84:=by
 have hs:v.kind=3∨v.kind=5→v.s.length≤64:=fun e=>by
  rcases h with rfl|h
  ·decide
  simp_all [AW]
 unfold yV;rw[abC];have h1:=jC v.kind;split
 ·rename_i e
  have:=fI v.s;omega
 ·have:=jC v.n
  omega
theorem wE{o:OpD}(hf:OpF o):1≤(uK o).length∧(uK o).length≤5000:=by
 unfold uK;simp only[abC];have h1:=jC o.kind;have h0:=Ns o.kind;have h2:=fI o.subj;have h3:=fI o.case;have h4:=fI o.field;have h5:=fI o.to;have h6:=G8 hf.val;have h7:=jC o.review;have h8:=fI o.text;have h9:=fI o.reason;have h10:=G8 (v:=eL o.glass) (.inr (LP _));have:=hf.subj;have:=hf.case;have:=hf.field;have:=hf.to;have:=hf.text;have:=hf.reason;omega
theorem qU{h:BitVec 64}{o:OpD}(hf:OpF o):9≤(fU h o).length∧(fU h o).length≤5008:=by
 grind [wE,fU,abC,qN]
def xT(a b:bA):Int:=if bI a=false∨bI b=false then 1 else 2
def kM(a b:bA):AV:=match mK a b with
 |some x=> .tup [.b x,.i 0]
 |none=> .tup [.b false,.i (xT a b)]
theorem An{a b:bA}(h:bI a=false∨bI b=false):kM a b= .tup [.b false,.i 1]:=by
 unfold kM mK;rw[if_pos abJ]
 simp_all [xT,if_pos]
theorem xS{a b:bA}(h1:bI a=true)(h2:bI b=true)(h:a.kind≠b.kind∨a.kind=1):kM a b= .tup [.b false,.i 2]:=by
 simp_all [kM,mK,if_pos,xT]
theorem Nj{a b:bA}(h1:bI a=true)(h2:bI b=true)(h:a.kind=b.kind)(h0:a.kind≠1)(ht:a.kind=3∨a.kind=5):kM a b= .tup [.b (Op.bytesLess a.s b.s),.i 0]:=by
 simp_all [kM,mK,if_neg,if_pos]
theorem Ni{a b:bA}(h1:bI a=true)(h2:bI b=true)(h:a.kind=b.kind)(h0:a.kind≠1)(ht:¬(a.kind=3∨a.kind=5)):kM a b= .tup [.b (decide (a.n<b.n)),.i 0]:=by
 simp_all [kM,mK,if_neg]
end Go.Bf
namespace Go.Proofs.YtcochaoekecfdaaGreatDoor
open Go Go.Ab Go.Bf
theorem yS(k:Int)(h:Heap):ai Tryz.prog 108 [.i k] h fun r h' =>r= .b (k==3||k==5)∧h' =h:=by
 refine abH Tryz.func108 9 [.tmp 2] fun hwf=> ?_
 cases d1:(k==3)<;>cases d2:(k==5)
 all_goals
  simp only[go_sem,d1,d2];exact abU
theorem BE(a b:bA)(h:Heap):ai Tryz.prog 284 [aR a,aR b] h fun r h' =>r=kM a b∧h' =h:=by
 have ha:=fun(G:Heap)=>fY a G
 have hb:=fun(G:Heap)=>fY b G
 simp only[aR]at ha hb;refine abH Tryz.func284 40 [.tmp 4,.tmp 5] fun hwf=> ?_
 simp only[go_sem,aR];intro i1 h1;simp only[go_sem];intro i2 h2;have n21:=aH h2;have n2:=aC h2;have hs:∀x y,Ab.Sub h (upd (upd h i1 x) i2 y):=fun x y=>((Sub.refl h).put h1 x).put n2 y
 simp only[go_sem,aj,n21.symm];refine(ha _).pthen ?_;cases da:bI a
 ·simp only[go_sem]
  exact .mk _ (.refl _) (hs _ _) ⟨by rw[An (.inl da)];rfl,rfl⟩
 simp only[go_sem];refine(hb _).pthen ?_;cases db:bI b
 ·simp only[go_sem]
  exact .mk _ (.refl _) (hs _ _) ⟨by rw[An (.inr db)];rfl,rfl⟩
 cases dk:(a.kind !=b.kind)
 case true=>
  simp only[go_sem,aj,n21.symm,dk];exact .mk _ (.refl _) (hs _ _) ⟨by rw[xS da db (.inl abJ)];rfl,rfl⟩
 have ek:a.kind=b.kind:=abJ;cases d1:(a.kind==1)
 case true=>
  simp only[go_sem,aj,n21.symm,dk,d1];exact .mk _ (.refl _) (hs _ _) ⟨by rw[xS da db (.inr abJ)];rfl,rfl⟩
 have e1:a.kind≠1:=abJ;simp only[go_sem,aj,n21.symm,dk,d1];refine(yS _ _).pthen ?_;cases dt:(a.kind==3||a.kind==5)
 ·simp only[go_sem,aj,n21.symm]
  exact .mk _ (.refl _) (hs _ _) ⟨by rw[Ni da db ek e1 abJ];rfl,rfl⟩
 ·simp only[go_sem,aj,n21.symm]
  exact .mk _ (.refl _) (hs _ _) ⟨by rw[Nj da db ek e1 abJ];rfl,rfl⟩
def Ib(bag:List bA)(must:Bool):AV:=if bag= []∧must=true then .tup [.sl [] .no,.i 4]else .tup [.sl (bag.map aR) .no,.i 0]
theorem Ge(gs:List bl)(cat:Int)(name:Txt)(must:Bool)(hl:gs.length≤1000000000)(hb:∀g∈gs,g.bag.length≤1000000)(h:Heap):ai Tryz.prog 250 [bH gs,.agg [.i cat,.s name,.b must]] h fun r h' =>r=Ib (getD gs cat name) must∧h' =h:=by
 have hpl:=fun G=>Lf gs cat name hl G
 simp only[bH]at hpl;have frz:∀(x:AV) (e:Int),Weak x (.sl [] .no)→Weak (.tup [x,.i e]) (.tup [.sl [] .no,.i e]):=fun x e hx=> .tup _ _ rfl fun i a b=>by
  rcases i with _|_|i
  ·grind
  ·exact ac3
  grind
 refine abH Tryz.func250 30 [.tmp 4,.tmp 5] fun hwf=> ?_
 simp only[go_sem,bH];intro i1 h1;simp only[go_sem];refine(hpl _).pthen ?_
 by_cases hx:gs.findIdx (iE cat name)<gs.length
 ·have e1:ixD (iE cat name) gs=(gs.findIdx (iE cat name):Nat):=by simp_all [ixD,if_pos]
  have d1:decide ((0:Int)≤((gs.findIdx (iE cat name):Nat):Int))=true:=decide_eq_true abI;rw[e1];simp only[go_sem,d1];refine .at (gs.findIdx (iE cat name)) abJ abY ?_;simp only[go_sem,abz,kJ];rw[if_neg (fun hh=>hh.1)]
  have hlb:=hb _ (abD hx);rw[get_at hx];obtain⟨B,eB⟩:∃B,gs[gs.findIdx (iE cat name)].bag=B:=⟨_,rfl⟩;rw[eB]at hlb⊢;refine(Cl _ (B.map aR) _ (dN aR 3 (fun _=>rfl) _ _) abJ (bf (fun _=>rfl) _)).pthen ?_
  cases d2:((B.length:Int)==0)
  ·have e2:B≠ []:=by grind
   simp only[go_sem,d2,aby];exact .mk _ (.refl _) (.ak h1) ⟨by rw[Ib,if_neg (fun hh=>e2 hh.1)];rfl,rfl⟩
  ·have e3:(B.length:Int)=0:=by grind
   have e2:B= []:=List.length_eq_zero_iff.1 abI;subst e2;cases must
   ·simp only[go_sem,List.map_nil,List.length_nil]
    exact ab0
   ·simp only[go_sem,List.map_nil,List.length_nil]
    exact ady
 ·have e1:ixD (iE cat name) gs= -1:=by simp_all [ixD,if_neg]
  have d1:decide ((0:Int)≤ -1)=false:=rfl;rw[e1,P9 hx];cases must
  ·simp only[go_sem,d1]
   exact .mk (.tup [.sl [] .no,.i 0]) (frz _ _ (.sl _ _)) (.ak h1) ⟨rfl,rfl⟩
  ·simp only[go_sem,d1]
   exact ady
def lT(m:bP)(v:bA):AV:=
 if m.op=1 then(if v.kind=m.val.kind then .tup [.b (eqV v m.val),.i 0]else .tup [.b false,.i 2])
 else if m.op=2 then kM v m.val else kM m.val v
theorem Ed(m:bP)(v:bA)(h:Heap):ai Tryz.prog 251 [dD m,aR v] h fun r h' =>r=lT m v∧h' =h:=by
 have hl1:=fun G=>BE v m.val G
 have hl2:=fun G=>BE m.val v G
 simp only[aR]at hl1 hl2;refine abH Tryz.func251 42 [.tmp 4,.tmp 5] fun hwf=> ?_
 simp only[go_sem,dD,aR];intro i1 h1;simp only[go_sem];intro i2 h2;have n21:=aH h2;have n2:=aC h2;have hs:∀x y,Ab.Sub h (upd (upd h i1 x) i2 y):=fun x y=>((Sub.refl h).put h1 x).put n2 y
 cases d1:(m.op==1)
 case true=>
  have e1:m.op=1:=abJ;cases dk:(v.kind !=m.val.kind)
  ·have dk' :v.kind=m.val.kind:=by grind
   simp only[go_sem,aj,n21.symm,d1,dk];exact .mk _ (.refl _) (hs _ _) ⟨by rw[lT,if_pos e1,if_pos dk'];rfl,rfl⟩
  ·simp only[go_sem,aj,n21.symm,d1,dk]
   exact .mk _ (.refl _) (hs _ _) ⟨by rw[lT,if_pos e1,if_neg abJ];rfl,rfl⟩
 have e1:m.op≠1:=abJ;have aft:∀a b:bA,∃x e,kM a b= .tup [.b x,.i e]:=fun a b=>by
  unfold kM;split
  ·simp
  simp
 cases d2:(m.op==2)
 case true=>
  have e2:m.op=2:=abJ;obtain⟨x,e,ee⟩:=aft v m.val;rw[ee]at hl1;simp only[go_sem,aj,n21.symm,d1,d2];refine(hl1 _).pthen ?_;simp only[go_sem];exact .mk _ (.refl _) (hs _ _) ⟨by rw[lT,if_neg e1,if_pos e2,ee];rfl,rfl⟩
 ·have e2:m.op≠2:=by grind
  obtain⟨x,e,ee⟩:=aft m.val v;rw[ee]at hl2;simp only[go_sem,aj,n21.symm,d1,d2];refine(hl2 _).pthen ?_;simp only[go_sem];exact .mk _ (.refl _) (hs _ _) ⟨by rw[lT,if_neg e1,if_neg e2,ee];rfl,rfl⟩
theorem A6(m:bP)(v:bA):∃e:Int,(e !=0)=(cN m v==none)∧lT m v= .tup [.b (cN m v==some true),.i e]:=by
 have hl:∀a b:bA,∃e:Int,(e !=0)=(mK a b==none)∧kM a b= .tup [.b (mK a b==some true),.i e]:=fun a b=>by
  unfold kM;cases hx:mK a b with
  |some x=>simp
  |none=>refine⟨xT a b, ?_,rfl⟩;grind [xT]
 unfold lT cN
 by_cases e1:m.op=1
 ·rw[if_pos e1,if_pos e1]
  by_cases ek:v.kind=m.val.kind
  ·rw[if_pos ek,if_pos ek]
   exact⟨0,rfl,abQ⟩
  ·rw[if_neg ek,if_neg ek]
   exact⟨2,rfl,rfl⟩
 ·rw[if_neg e1,if_neg e1]
  by_cases e2:m.op=2
  ·rw[if_pos e2,if_pos e2];exact hl _ _
  ·rw[if_neg e2,if_neg e2];exact hl _ _
theorem Ic(bag:List bA)(must:Bool):∃e:Int,(e !=0)=decide (bag= []∧must=true)∧Ib bag must= .tup [.sl (bag.map aR) .no,.i e]:=by
 unfold Ib;split
 ·simp_all
 grind
def qZ(gs:List bl):Prop:=gs.length≤1000000∧∀g∈gs,g.bag.length≤1000000
theorem qZ.bag{gs:List bl}(h:qZ gs)(a:pz):(xb gs a).length≤1000000:=by
 unfold xb getD;split
 ·rename_i g hg;exact h.2 g abJ
 ·simp
theorem Ar(m:bP)(gs:List bl)(hf:qZ gs)(h:Heap):ai Tryz.prog 214 [dD m,bH gs] h fun r h' =>r= .i (jB gs m:Nat)∧h' =h:=by
 have hg:=fun G=>Ge gs m.attr.cat m.attr.name m.attr.must (by have:=hf.1;omega) hf.2 G
 have hbl:=hf.bag m.attr;obtain⟨B,eB⟩:∃B,xb gs m.attr=B:=⟨_,rfl⟩;have eg:Go.Bf.getD gs m.attr.cat m.attr.name=B:=eB;rw[eB]at hbl;rw[eg]at hg;have hmm:jB gs m=if B= []∧m.attr.must=true then 1 else if B.any (fun v=>cN m v==some true)then 2 else if B.any (fun v=>cN m v==none)then 1 else 0:=by
  unfold jB;rw[eB]
 obtain⟨eg,hge,hga⟩:=Ic B m.attr.must;rw[hga]at hg;have hag:=fun(v:bA) (G:Heap)=>Ed m v G
 simp only[dD,bH,aR]at hag hg;refine abH Tryz.func214 38 [.tmp 4] fun hwf=> ?_
 simp only[go_sem,dD,bH];intro i1 h1;simp only[go_sem];refine(hg _).pthen ?_;cases d0:decide (B= []∧m.attr.must=true)
 case true=>
  rw[d0]at hge;simp only[go_sem,hge];exact .mk _ (.refl _) (.ak h1) ⟨by rw[hmm,if_pos (abA d0)];rfl,rfl⟩
 rw[d0]at hge;rw[if_neg (abB d0)]at hmm;simp only[go_sem,hge,aby];obtain⟨H,eH⟩:∃H,upd h i1 (some (.obj [.i m.attr.cat,.s m.attr.name,.b m.attr.must,.i m.op,.i m.val.kind,.i m.val.n,.s m.val.s] 273))=H:=⟨_,rfl⟩;have hH:Ab.Sub h H:=by rw[←eH];exact .ak h1
 have k1:H i1=some (.obj [.i m.attr.cat,.s m.attr.name,.b m.attr.must,.i m.op,.i m.val.kind,.i m.val.n,.s m.val.s] 273):=ada;rw[eH];clear eH;refine .intro (fun q ρ G=>Ab.Sub H G∧∃i:Nat,i≤B.length∧q=B.length - i∧(∀j (hj:j<i) (h2:j<B.length),(cN m B[j]==some true)=false)∧lk ρ 2=some (.ptr i1 0)∧lk ρ 7=some (.i (if(B.take i).any (fun v=>cN m v==none)then 1 else 0))∧lk ρ 21=some (.sl (B.map aR) .no)∧lk ρ 22=some (.i B.length)∧lk ρ 23=some (.i i)) B.length ?_ ?_
 ·refine⟨.refl _,0,abI,rfl,fun j hj=>abI, ?_, ?_, ?_, ?_, ?_⟩<;>simp only[go_sem]
  simp
 ·rintro q ρ G ⟨hs,i,hi,rfl,hc,r2,r7,r21,r22,r23⟩
  have k1' :=hs _ _ k1;simp only[go_sem,r22,r23];refine .intro (fun e=> ?_) (fun e=> ?_)
  ·have hlt:i<B.length:=abF e
   have w1:=abE i abI;have hsn:(B.take (i+1)).any (fun v=>cN m v==none)=((B.take i).any (fun v=>cN m v==none)||(cN m B[i]==none)):=any_succ hlt
   have ix:=fun k=>fm.eq (xs:=B.map aR) (sz:=3) i ab7 abY k
   rw[abz]at ix;have hci:=fun(d:(cN m B[i]==some true)=false)=>(fun j (hj:j<i+1) (h2:j<B.length)=>(by
    by_cases hji:j=i
    ·subst hji;exact d
    ·exact hc j abI h2:(cN m B[j]==some true)=false))
   have hat:=fun(d:(cN m B[i]==some true)=true)=>(List.any_eq_true.2 ⟨B[i],abD hlt,d⟩:B.any (fun v=>cN m v==some true)=true)
   obtain⟨v,ev⟩:∃v,B[i]=v:=⟨_,rfl⟩;rw[ev]at ix hsn hci hat;simp only[aR]at ix;obtain⟨e,he1,he2⟩:=A6 m v;have hag1:=hag v;rw[he2]at hag1;simp only[go_sem,r21,r23,ix];intro i4 h4;have n41:i4≠i1:=fun e=>by rw[e,k1']at h4;cases h4
   simp only[go_sem,r2,aj,n41.symm,k1'];refine(hag1 _).pthen ?_;cases d1:(cN m v==some true)
   ·cases d2:(cN m v==none)
    ·rw[d2]at he1 hsn
     rw[Bool.or_false]at hsn;simp only[go_sem,r23,he1,w1];refine⟨_, ?_,hs.trans (.ak h4),i+1,abI,rfl,hci d1, ?_, ?_, ?_, ?_, ?_⟩
     ·omega
     all_goals simp only[go_sem,r2,r7,r21,r22,hsn]
    ·rw[d2]at he1 hsn
     rw[Bool.or_true]at hsn;simp only[go_sem,r23,he1,w1];refine⟨_, ?_,hs.trans (.ak h4),i+1,abI,rfl,hci d1, ?_, ?_, ?_, ?_, ?_⟩
     ·omega
     all_goals simp only[go_sem,r2,r21,r22,hsn]
   ·simp only[go_sem]
    refine .mk _ (.refl _) (hH.trans (hs.trans (.ak h4))) ⟨by rw[hmm,if_pos (hat d1)];rfl,rfl⟩
  ·have hge:i=B.length:=by have:=abB e;omega
   subst hge;rw[List.take_length]at r7;simp only[go_sem,r7];refine .mk _ (.refl _) (hH.trans hs) ⟨?_,rfl⟩;have hno:B.any (fun v=>cN m v==some true)=false:=List.any_eq_false.2 fun x hx=>by
    obtain⟨j,hj,rfl⟩:=List.mem_iff_getElem.1 hx;rw[hc j hj hj];decide
   rw[hmm,hno];cases B.any (fun v=>cN m v==none)<;>rfl
theorem Gt(a b:Nat):(if((b:Int)<(a:Int))then(b:Int)else(a:Int))=((min a b:Nat):Int):=by
 grind
theorem Nl(a b:Nat):(if((a:Int)<(b:Int))then(b:Int)else(a:Int))=((max a b:Nat):Int):=by
 grind
theorem Mt(l:List bP)(hl:l.length≤1000000)(gs:List bl)(hf:qZ gs)(h:Heap):ai Tryz.prog 244 [iI l,bH gs] h fun r h' =>r= .i (B5 gs l:Nat)∧h' =h:=by
 have hmt:=fun(m:bP) (G:Heap)=>Ar m gs hf G
 simp only[dD,bH]at hmt;refine abH Tryz.func244 21 [.tmp 4] fun hwf=> ?_
 simp only[go_sem,iI,bH,aby];refine .intro (fun q ρ G=>Ab.Sub h G∧∃i:Nat,i≤l.length∧q=l.length - i∧lk ρ 1=some (.sl (gs.map kJ) .no)∧lk ρ 5=some (.i (B5 gs (l.take i):Nat))∧lk ρ 8=some (.sl (l.map dD) .no)∧lk ρ 9=some (.i l.length)∧lk ρ 10=some (.i i)) l.length ?_ ?_
 ·exact ahd
 ·rintro q ρ G ⟨hs,i,hi,rfl,r1,r5,r8,r9,r10⟩
  simp only[go_sem,r9,r10];refine .intro (fun e=> ?_) (fun e=> ?_)
  ·have hlt:i<l.length:=abF e
   have w1:IntKind.i64.wrap ((i:Int)+1)=((i+1:Nat):Int):=abV;have hsn:B5 gs (l.take (i+1))=min (B5 gs (l.take i)) (jB gs l[i]):=by
    grind [B5,List.take_succ_eq_append_getElem]
   have ix:=fun k=>fm.eq (xs:=l.map dD) (sz:=7) i abJ abY k
   rw[abz]at ix;obtain⟨m,em⟩:∃m,l[i]=m:=⟨_,rfl⟩;rw[em]at ix hsn;have hmt1:=hmt m;simp only[dD]at ix;simp only[go_sem,r8,r10,ix];intro i4 h4;simp only[go_sem,r1,r5];refine(hmt1 _).pthen ?_;simp only[go_sem,r10,Gt,w1];refine⟨_, ?_,hs.trans (.ak h4),i+1,abI,rfl, ?_, ?_, ?_, ?_, ?_⟩
   ·omega
   all_goals simp only[go_sem,r1,r8,r9,hsn]
  ·have hge:i=l.length:=by grind
   exact agW
def Mj(t:fT):Prop:=t.length≤1000000∧∀x∈t,x.length≤1000000∧∀l∈x,l.length≤1000000
theorem KS(t:fT)(ht:Mj t)(gs:List bl)(hf:qZ gs)(h:Heap):ai Tryz.prog 210 [aU t,bH gs] h fun r h' =>r= .i (mb gs t:Nat)∧h' =h:=by
 have hat:=fun(l:List bP) (hl:l.length≤1000000) (G:Heap)=>Mt l hl gs hf G
 simp only[iI,bH]at hat;have htl:=ht.1;refine abH Tryz.func210 34 [.tmp 4] fun hwf=> ?_
 simp only[go_sem,aU,bH,aby];refine .intro (fun q ρ G=>Ab.Sub h G∧∃i:Nat,i≤t.length∧q=t.length - i∧lk ρ 1=some (.sl (gs.map kJ) .no)∧lk ρ 5=some (.i (mb gs (t.take i):Nat))∧lk ρ 11=some (.sl (t.map cO) .no)∧lk ρ 12=some (.i t.length)∧lk ρ 13=some (.i i)) t.length ?_ ?_
 ·exact ahd
 ·rintro q ρ G ⟨hs,i,hi,rfl,r1,r5,r11,r12,r13⟩
  simp only[go_sem,r12,r13];refine .intro (fun e=> ?_) (fun e=> ?_)
  ·have hlt:i<t.length:=abF e
   have w1:IntKind.i64.wrap ((i:Int)+1)=((i+1:Nat):Int):=abV;have hsn:mb gs (t.take (i+1))=min (mb gs (t.take i)) (zf gs t[i]):=by
    grind [mb,List.take_succ_eq_append_getElem]
   have ix:=fun k=>fm.eq (xs:=t.map cO) (sz:=1) i abJ abY k
   rw[abz]at ix;obtain⟨hx1,hx2⟩:=ht.2 t[i] (abD hlt);obtain⟨x,ex⟩:∃x,t[i]=x:=⟨_,rfl⟩;rw[ex]at ix hsn hx1 hx2;simp only[cO]at ix;simp only[go_sem,r11,r13,ix,aby];refine .intro (fun q ρ' K=>Ab.Sub h K∧∃n:Nat,n≤x.length∧q=x.length - n∧lk ρ' 1=some (.sl (gs.map kJ) .no)∧lk ρ' 5=some (.i (mb gs (t.take i):Nat))∧lk ρ' 8=some (.i (zf gs (x.take n):Nat))∧lk ρ' 11=some (.sl (t.map cO) .no)∧lk ρ' 12=some (.i t.length)∧lk ρ' 13=some (.i i)∧lk ρ' 17=some (.sl (x.map iI) .no)∧lk ρ' 18=some (.i x.length)∧lk ρ' 19=some (.i n)) x.length ?_ ?_
   ·refine⟨hs,0,abI,rfl, ?_, ?_, ?_, ?_, ?_, ?_, ?_, ?_, ?_⟩<;>simp only[go_sem,r1,r5,r11,r12,r13]
    rfl
   ·rintro q ρ' K ⟨hs',n,hn,rfl,s1,s5,s8,s11,s12,s13,s17,s18,s19⟩
    simp only[go_sem,s18,s19];refine .intro (fun e=> ?_) (fun e=> ?_)
    ·have hlt2:n<x.length:=abF e
     have w2:IntKind.i64.wrap ((n:Int)+1)=((n+1:Nat):Int):=abV;have hsn2:zf gs (x.take (n+1))=max (zf gs (x.take n)) (B5 gs x[n]):=by
      grind [zf,List.take_succ_eq_append_getElem]
     have ix2:=fun k=>fm.eq (xs:=x.map iI) (sz:=1) n abJ abY k
     rw[abz]at ix2;have hx3:=hx2 x[n] (abD hlt2);obtain⟨l,el⟩:∃l,x[n]=l:=⟨_,rfl⟩;rw[el]at ix2 hsn2 hx3;simp only[iI]at ix2;simp only[go_sem,s1,s8,s17,s19,ix2];refine(hat l hx3 _).pthen ?_;simp only[go_sem,s19,Nl,w2];refine⟨_, ?_,hs',n+1,abI,rfl, ?_, ?_, ?_, ?_, ?_, ?_, ?_, ?_, ?_⟩
     ·omega
     all_goals simp only[go_sem,s1,s5,s11,s12,s13,s17,s18,hsn2]
    ·have hge:n=x.length:=by grind
     subst hge;rw[List.take_length]at s8;simp only[go_sem,s5,s8,s13,Gt,w1];refine⟨_, ?_,hs',i+1,abI,rfl, ?_, ?_, ?_, ?_, ?_⟩
     ·omega
     all_goals simp only[go_sem,s1,s11,s12,hsn]
  ·have hge:i=t.length:=by grind
   exact agW
end Go.Proofs.YtcochaoekecfdaaGreatDoor
namespace Go.Bf
open Go Go.Ab Go.Proofs.YtcochaoekecfdaaGreatDoor
def zq(o:Bool)(n:Int):AV:=if o then .tup [.i 0,.i 3]else .tup [.i (w64 n),.i 0]
def qG(r:bA×Int):AV:=.tup [aR r.1,.i r.2]
end Go.Bf
namespace Go.Proofs.YtcochaoekecfdaaGreatDoor
open Go Go.Ab Go.Bf
theorem Pn(a b:Int)(h:Heap):ai Tryz.prog 325 [.i a,.i b] h fun r h' =>r=zq (JE a b) (a+b)∧h' =h:=by
 refine abH Tryz.func325 27 [.tmp 4,.tmp 5] fun hwf=> ?_
 cases d1:decide (0<b)<;>cases d2:decide (IntKind.i64.wrap (9223372036854775807 - b)<a)<;>cases d3:decide (b<0)<;>cases d4:decide (a<IntKind.i64.wrap (-9223372036854775808 - b))
 all_goals
  simp -implicitDefEqProofs only[go_sem,d1,d2,d3,d4];exact .same (.refl _) ⟨by simp only[zq,JE,w64,d1,d2,d3,d4];rfl,rfl⟩
theorem QX(a b:Int)(h:Heap):ai Tryz.prog 326 [.i a,.i b] h fun r h' =>r=zq (LI a b) (a - b)∧h' =h:=by
 refine abH Tryz.func326 27 [.tmp 4,.tmp 5] fun hwf=> ?_
 cases d1:decide (0<b)<;>cases d2:decide (a<IntKind.i64.wrap (-9223372036854775808+b))<;>cases d3:decide (b<0)<;>cases d4:decide (IntKind.i64.wrap (9223372036854775807+b)<a)
 all_goals
  simp -implicitDefEqProofs only[go_sem,d1,d2,d3,d4];exact .same (.refl _) ⟨by simp only[zq,LI,w64,d1,d2,d3,d4];rfl,rfl⟩
theorem Qs(a b:Int)(h:Heap):ai Tryz.prog 327 [.i a,.i b] h fun r h' =>r=zq (ID a b) (a*b)∧h' =h:=by
 refine abH Tryz.func327 36 [.tmp 4,.tmp 5] fun hwf=> ?_
 cases d0:(a !=0)
 ·have e0:a=0:=by grind
  subst e0;cases d1:(b== -1)
  all_goals
   simp -implicitDefEqProofs only[go_sem,d1];exact .same (.refl _) ⟨by simp[zq,ID,w64,au],rfl⟩
 have e0:a≠0:=abJ;cases d1:(a== -1)<;>cases d2:(b== -9223372036854775808)<;>cases d3:(b== -1)<;>cases d4:(a== -9223372036854775808)<;>cases d5:(IntKind.i64.wrap ((IntKind.i64.wrap (a*b)).tdiv a) !=b)
 all_goals
  simp -implicitDefEqProofs only[go_sem,d0,d1,d2,d3,d4,d5,e0];exact .same (.refl _) ⟨by simp only[zq,ID,w64,d0,d1,d2,d3,d4,d5];rfl,rfl⟩
theorem AT(b:Bool)(h:Heap):ai Tryz.prog 323 [.b b] h fun r h' =>r=aR (eL b)∧h' =h:=by
 refine abH Tryz.func323 8 [.cell 2 30] fun hwf=> ?_
 simp -implicitDefEqProofs only[go_sem];intro i1 h1;simp -implicitDefEqProofs only[go_sem];intro i2 h2;have n21:=aH h2;have n2:=aC h2;cases b
 all_goals
  simp -implicitDefEqProofs only[go_sem,aj,n21.symm];exact .mk _ (.refl _) ((((Sub.refl h).put h1 _).put n2 _).put h1 _) ⟨rfl,rfl⟩
theorem Bg(kind:Int)(l:List bA)(hl:l.length≤1000000)(p:Perm)(h:Heap):ai Tryz.prog 328 [.i kind,.sl (l.map aR) p] h fun r h' =>r= .b (l.all fun v=>v.kind==kind)∧h' =h:=by
 refine abH Tryz.func328 18 [.tmp 4] fun hwf=> ?_
 simp -implicitDefEqProofs only[go_sem,aby];refine .intro (fun q ρ G=>Ab.Sub h G∧∃i:Nat,i≤l.length∧q=l.length - i∧(∀j (hj:j<i) (h2:j<l.length),(l[j].kind==kind)=true)∧lk ρ 0=some (.i kind)∧lk ρ 7=some (.sl (l.map aR) p)∧lk ρ 8=some (.i l.length)∧lk ρ 9=some (.i i)) l.length ?_ ?_
 ·refine⟨.refl _,0,abI,rfl,fun j hj=>abI, ?_, ?_, ?_, ?_⟩<;>simp -implicitDefEqProofs only[go_sem]
 ·rintro q ρ G ⟨hs,i,hi,rfl,hc,r0,r7,r8,r9⟩
  simp -implicitDefEqProofs only[go_sem,r8,r9];refine .intro (fun e=> ?_) (fun e=> ?_)
  ·have hlt:i<l.length:=abF e
   have w1:IntKind.i64.wrap ((i:Int)+1)=((i+1:Nat):Int):=abV;have ix:=fun k=>fm.eq (xs:=l.map aR) (sz:=3) i abJ abY k
   rw[abz]at ix;have hci:=fun(d:(l[i].kind==kind)=true)=>(fun j (hj:j<i+1) (h2:j<l.length)=>(by
    grind:(l[j].kind==kind)=true))
   have hat:=fun(d:(l[i].kind==kind)=false)=>(List.all_eq_false.2 ⟨l[i],abD hlt,abJ⟩:(l.all fun v=>v.kind==kind)=false)
   obtain⟨v,ev⟩:∃v,l[i]=v:=⟨_,rfl⟩;rw[ev]at ix hci hat;simp only[aR]at ix;cases d1:(v.kind==kind)
   ·have d2:(v.kind !=kind)=true:=by grind
    simp -implicitDefEqProofs only[go_sem,r7,r9,ix];intro i4 h4;simp -implicitDefEqProofs only[go_sem,r0,d2];exact .mk _ (.refl _) (hs.trans (.ak h4)) ⟨afJ,rfl⟩
   ·have d2:(v.kind !=kind)=false:=by grind
    simp -implicitDefEqProofs only[go_sem,r7,r9,ix];intro i4 h4;simp -implicitDefEqProofs only[go_sem,r0,r9,d2,w1];refine⟨_, ?_,hs.trans (.ak h4),i+1,abI,rfl,hci d1, ?_, ?_, ?_, ?_⟩
    ·omega
    all_goals simp -implicitDefEqProofs only[go_sem,r0,r7,r8]
  ·have hge:i=l.length:=by grind
   simp -implicitDefEqProofs only[go_sem];exact .mk _ (.refl _) hs ⟨by rw[List.all_eq_true.2 fun x hx=>aep];rfl,rfl⟩
theorem Ff(g:FuncId)(a b:bA)(o:Bool)(n:Int)(hg:∀G,ai Tryz.prog g [.i a.n,.i b.n] G fun r h' =>r=zq o n∧h' =G)(p:Perm)(h:Heap):
  ai Tryz.prog 324 [.fn g [],.sl [aR a,aR b] p] h fun r h' =>r=qG (if([a,b].all fun v=>v.kind==2)then zu o n else nc 2)∧h' =h:=by
 have ix0:=fun k=>fm.eq (xs:=[aR a,aR b]) (sz:=3) 0 abQ rfl k
 have ix1:=fun k=>fm.eq (xs:=[aR a,aR b]) (sz:=3) 1 abQ rfl k
 simp only[List.getElem_cons_zero,List.getElem_cons_succ,aR,Int.natCast_zero,Int.natCast_one]at ix0 ix1;have hal:=fun(G:Heap)=>Bg 2 [a,b] abQ p G
 simp only[List.map_cons,List.map_nil,aR]at hal;refine abH Tryz.func324 31 [.cell 4 30,.tmp 5] fun hwf=> ?_
 simp -implicitDefEqProofs only[go_sem,aR];intro i1 h1;simp -implicitDefEqProofs only[go_sem];refine(hal _).pthen ?_;cases d1:([a,b].all fun v=>v.kind==2)
 ·simp -implicitDefEqProofs only[go_sem]
  exact ab0
 ·simp -implicitDefEqProofs only[go_sem]
  refine .quiet abM ?_;simp -implicitDefEqProofs only[go_sem,ix0,ix1];cases o
  ·refine⟨_,hg _, ?_⟩
   simp -implicitDefEqProofs only[go_sem,zq];exact ab0
  ·refine⟨_,hg _, ?_⟩
   simp -implicitDefEqProofs only[go_sem,zq];exact ab0
theorem wD{α:Type}{l:List α}(h:l.length=2):∃a b,l= [a,b]:=by
 match l,h with
 | [a,b],_=>exact⟨a,b,rfl⟩
def E5(op:Int)(l:List bA):Bool:= !(decide (op<6)||decide (13<op)||(l.length:Int) !=(if op==11 then 1 else 2)) && l.all bI
theorem Qp(op:Int)(l:List bA)(hl:l.length≤1000000)(p:Perm)(h:Heap):ai Tryz.prog 322 [.i op,.sl (l.map aR) p] h fun r h' =>r= .b (E5 op l)∧h' =h:=by
 have hvr:=fun(v:bA) (G:Heap)=>fY v G
 simp only[aR]at hvr;refine abH Tryz.func322 32 [.tmp 4] fun hwf=> ?_
 cases d11:(op==11)
 all_goals
  have hmm:E5 op l=(!(decide (op<6)||decide (13<op)||(l.length:Int) !=(if op==11 then 1 else 2)) && l.all bI):=rfl
  rw[d11]at hmm;simp only[if_true,Bool.false_eq_true,if_false]at hmm;cases d6:decide (op<6)
  case true=>
   rw[d6]at hmm;simp -implicitDefEqProofs only[go_sem,d11,d6];exact .same (.refl _) ⟨by rw[hmm];rfl,rfl⟩
  cases d13:decide (13<op)
  case true=>
   rw[d6,d13]at hmm;simp -implicitDefEqProofs only[go_sem,d11,d6,d13];exact .same (.refl _) ⟨by rw[hmm];rfl,rfl⟩
  rw[d6,d13]at hmm;simp only[Bool.or_false,Bool.false_or]at hmm;obtain⟨b,eb⟩:∃b,((l.length:Int) !=(if op==11 then 1 else 2))=b:=⟨_,rfl⟩
  rw[d11]at eb;simp only[if_true,Bool.false_eq_true,if_false]at eb;rw[eb]at hmm;cases b
  case true=>
   simp -implicitDefEqProofs only[go_sem,d11,d6,d13,aby,eb];exact .same (.refl _) ⟨by rw[hmm];rfl,rfl⟩
  simp only[Bool.not_false,Bool.true_and]at hmm;simp -implicitDefEqProofs only[go_sem,d11,d6,d13,aby,eb];refine .intro (fun q ρ G=>Ab.Sub h G∧∃i:Nat,i≤l.length∧q=l.length - i∧(∀j (hj:j<i) (h2:j<l.length),bI l[j]=true)∧lk ρ 22=some (.sl (l.map aR) p)∧lk ρ 23=some (.i l.length)∧lk ρ 24=some (.i i)) l.length ?_ ?_
  ·refine⟨.refl _,0,abI,rfl,fun j hj=>abI, ?_, ?_, ?_⟩<;>simp -implicitDefEqProofs only[go_sem]
  ·rintro q ρ G ⟨hs,i,hi,rfl,hc,r22,r23,r24⟩
   simp -implicitDefEqProofs only[go_sem,r23,r24];refine .intro (fun e=> ?_) (fun e=> ?_)
   ·have hlt:i<l.length:=abF e
    have w1:IntKind.i64.wrap ((i:Int)+1)=((i+1:Nat):Int):=abV;have ix:=fun k=>fm.eq (xs:=l.map aR) (sz:=3) i abJ abY k
    rw[abz]at ix;have hci:=fun(d:bI l[i]=true)=>(fun j (hj:j<i+1) (h2:j<l.length)=>(by
     grind:bI l[j]=true))
    have hat:=fun(d:bI l[i]=false)=>(List.all_eq_false.2 ⟨l[i],abD hlt,abJ⟩:l.all bI=false)
    obtain⟨v,ev⟩:∃v,l[i]=v:=⟨_,rfl⟩;rw[ev]at ix hci hat;simp only[aR]at ix;simp -implicitDefEqProofs only[go_sem,r22,r24,ix];intro i4 h4;simp -implicitDefEqProofs only[go_sem];refine(hvr v _).pthen ?_;cases d1:bI v
    ·simp -implicitDefEqProofs only[go_sem]
     exact .mk _ (.refl _) (hs.trans (.ak h4)) ⟨by rw[hmm,hat d1];rfl,rfl⟩
    ·simp -implicitDefEqProofs only[go_sem,r24,w1]
     refine⟨_, ?_,hs.trans (.ak h4),i+1,abI,rfl,hci d1, ?_, ?_, ?_⟩
     ·omega
     all_goals simp -implicitDefEqProofs only[go_sem,r22,r23]
   ·have hge:i=l.length:=by grind
    simp -implicitDefEqProofs only[go_sem];exact .mk _ (.refl _) hs ⟨by rw[hmm,List.all_eq_true.2 fun x hx=>aep];rfl,rfl⟩
theorem JX{op:Int}{l:List bA}(h:E5 op l=false):gK op l=nc 1:=by
 unfold gK;rw[if_pos]
 by_cases h1:6≤op∧op≤13
 ·by_cases h2:l.length=if op=11 then 1 else 2
  ·refine .inr (.inr ?_)
   unfold E5 at h
   grind
  omega
 omega
theorem Hu{op:Int}{l:List bA}(h:E5 op l=true):(6≤op∧op≤13)∧l.all bI=true∧(op=11∧(∃a,l= [a])∨op≠11∧∃a b,l= [a,b]):=by
 unfold E5 at h;simp only[Bool.and_eq_true,Bool.not_eq_true',Bool.or_eq_false_iff,decide_eq_false_iff_not]at h;obtain⟨⟨⟨h1,h2⟩,h3⟩,h4⟩:=h;refine⟨abI,h4, ?_⟩
 by_cases e:op=11
 ·subst e
  have h3' :(l.length:Int)=1:=abJ;exact .inl ⟨rfl,List.length_eq_one_iff.1 abI⟩
 ·have h3' :(l.length:Int)=2:=by grind
  exact .inr ⟨e,wD abI⟩
theorem Bj(op:Int)(l:List bA)(hl:l.length≤1000000)(p:Perm)(h:Heap):ai Tryz.prog 319 [.i op,.sl (l.map aR) p] h fun r h' =>r=qG (gK op l)∧h' =h:=by
 have hmy:=fun G=>Qp op l hl p G
 cases dm:E5 op l
 ·rw[dm]at hmy
  refine abH Tryz.func319 111 [.cell 4 30,.tmp 5] fun hwf=> ?_
  simp -implicitDefEqProofs only[go_sem];intro i1 h1;simp -implicitDefEqProofs only[go_sem];refine(hmy _).pthen ?_;simp -implicitDefEqProofs only[go_sem];exact .mk _ (.refl _) (.ak h1) ⟨by rw[JX dm];rfl,rfl⟩
 rw[dm]at hmy;obtain⟨hop,hall,hf⟩:=Hu dm;rcases hf with⟨rfl,a,rfl⟩|⟨e11,a,b,rfl⟩
 ·have ix0:=fun k=>fm.eq (xs:=[aR a]) (sz:=3) 0 abQ rfl k
  simp only[List.getElem_cons_zero,aR,Int.natCast_zero]at ix0;have hal:=fun(G:Heap)=>Bg 1 [a] abQ p G
  simp only[List.map_cons,List.map_nil,aR]at hal hmy;have hc:gK 11 [a]=if(([a].all fun v=>v.kind==1)=false)then nc 2 else(eL (a.n==0),0):=by
   unfold gK;rw[if_neg (by simp[hall])]
   simp
  have htr:=fun G=>AT (a.n==0) G
  refine abH Tryz.func319 111 [.cell 4 30,.tmp 5] fun hwf=> ?_
  simp -implicitDefEqProofs only[go_sem,List.map_cons,List.map_nil,aR];intro i1 h1;simp -implicitDefEqProofs only[go_sem];refine(hmy _).pthen ?_;simp -implicitDefEqProofs only[go_sem];refine(hal _).pthen ?_;cases d1:([a].all fun v=>v.kind==1)
  ·simp -implicitDefEqProofs only[go_sem]
   exact .mk _ (.refl _) (.ak h1) ⟨by rw[hc,if_pos d1];rfl,rfl⟩
  ·simp -implicitDefEqProofs only[go_sem,ix0]
   refine(htr _).pthen ?_;simp -implicitDefEqProofs only[go_sem,aR];exact .mk _ (.refl _) (.ak h1) ⟨by rw[hc,if_neg (by rw[d1];decide)];rfl,rfl⟩
 ·have ix0:=fun k=>fm.eq (xs:=[aR a,aR b]) (sz:=3) 0 abQ rfl k
  have ix1:=fun k=>fm.eq (xs:=[aR a,aR b]) (sz:=3) 1 abQ rfl k
  simp only[List.getElem_cons_zero,List.getElem_cons_succ,aR,Int.natCast_zero,Int.natCast_one]at ix0 ix1;have hal:=fun(G:Heap)=>Bg 1 [a,b] abQ p G
  have hva:bI a=true∧bI b=true:=by simpa using hall
  have hnu:=fun(g:FuncId) (o:Bool) (n:Int) hg (G:Heap)=>Ff g a b o n hg p G
  simp only[List.map_cons,List.map_nil,aR]at hal hmy hnu;have hle:=fun G=>BE a b G
  simp only[aR]at hle;have htr:=fun(x:Bool) G=>AT x G
  have hc:gK op [a,b]=if op=6 then(if a.kind=b.kind then(eL (eqV a b),0)else nc 2)
    else if op=7 then(match mK a b with
     |some x=>(eL x,0)
     |none=>nc 2)
    else if op=8∨op=9∨op=10 then
     (if [a,b].all fun v=>v.kind==2 then(if op=8 then zu (JE a.n b.n) (a.n+b.n)else if op=9 then zu (LI a.n b.n) (a.n - b.n)else zu (ID a.n b.n) (a.n*b.n))else nc 2)
    else if([a,b].all fun v=>v.kind==1)=false then nc 2
    else if op=12 then(eL (a.n==1 && b.n==1),0)
    else(eL (a.n==1||b.n==1),0):=by
   unfold gK;rw[if_neg (by simp[hall,e11,hop.1,hop.2])]
   simp only[e11,if_false];rfl
  refine abH Tryz.func319 111 [.cell 4 30,.tmp 5] fun hwf=> ?_
  simp -implicitDefEqProofs only[go_sem,List.map_cons,List.map_nil,aR];intro i1 h1;simp -implicitDefEqProofs only[go_sem];refine(hmy _).pthen ?_;rcases(show op=6∨op=7∨op=8∨op=9∨op=10∨op=12∨op=13 by omega)with rfl|rfl|rfl|rfl|rfl|rfl|rfl
  ·simp -implicitDefEqProofs only[go_sem]
   refine⟨.of abM, ?_⟩;cases dk:(a.kind !=b.kind)
   case true=>
    simp -implicitDefEqProofs only[go_sem,ix0,ix1,dk];exact .mk _ (.refl _) (.ak h1) ⟨by rw[hc,if_pos rfl,if_neg (by simpa using dk)];rfl,rfl⟩
   ·simp -implicitDefEqProofs only[go_sem,ix0,ix1,dk]
    refine .calls cK [0,1,2,3,4,5,6,7,8,9] (fun _ _ e=>ab8) abM rfl ?_
    simp -implicitDefEqProofs only[go_sem,ix0,ix1];have htr1:=htr (eqV a b);simp only[eqV]at htr1;refine(htr1 _).pthen ?_;refine⟨fun _ _ e=>ab8, ?_⟩
    simp -implicitDefEqProofs only[go_sem,aR];refine⟨fun _ _ e=>ab8, ?_⟩
    exact .mk _ (.refl _) (.ak h1) ⟨by rw[hc,if_pos rfl,if_pos (by simpa using dk)];rfl,rfl⟩
  ·have hc7:gK 7 [a,b]=(match mK a b with
     |some x=>(eL x,0)
     |none=>nc 2):=by rw[hc];rfl
   simp -implicitDefEqProofs only[go_sem];refine .quiet abM ?_;simp -implicitDefEqProofs only[go_sem,ix0,ix1];refine⟨_,hle _, ?_⟩;cases hl:mK a b with
   |none=>
    have e2:xT a b=2:=by simp[xT,hva]
    rw[hl]at hc7;simp -implicitDefEqProofs only[go_sem,kM,hl,e2];exact .mk _ (.refl _) (.ak h1) ⟨by rw[hc7];rfl,rfl⟩
   |some x=>
    rw[hl]at hc7;simp -implicitDefEqProofs only[go_sem,kM,hl];refine(htr x _).pthen ?_;simp -implicitDefEqProofs only[go_sem,aR];exact .mk _ (.refl _) (.ak h1) ⟨by rw[hc7];rfl,rfl⟩
  ·have hc8:gK 8 [a,b]=if [a,b].all (fun v=>v.kind==2)then zu (JE a.n b.n) (a.n+b.n)else nc 2:=by rw[hc];rfl
   have hg:=hnu 325 _ _ (fun G=>Pn a.n b.n G)
   rw[←hc8]at hg;obtain⟨⟨v,e⟩,ex⟩:∃x,gK 8 [a,b]=x:=⟨_,rfl⟩;exact af8
  ·have hc8:gK 9 [a,b]=if [a,b].all (fun v=>v.kind==2)then zu (LI a.n b.n) (a.n - b.n)else nc 2:=by rw[hc];rfl
   have hg:=hnu 326 _ _ (fun G=>QX a.n b.n G)
   rw[←hc8]at hg;obtain⟨⟨v,e⟩,ex⟩:∃x,gK 9 [a,b]=x:=⟨_,rfl⟩;exact af8
  ·have hc8:gK 10 [a,b]=if [a,b].all (fun v=>v.kind==2)then zu (ID a.n b.n) (a.n*b.n)else nc 2:=by rw[hc];rfl
   have hg:=hnu 327 _ _ (fun G=>Qs a.n b.n G)
   rw[←hc8]at hg;obtain⟨⟨v,e⟩,ex⟩:∃x,gK 10 [a,b]=x:=⟨_,rfl⟩;exact af8
  ·have hc12:gK 12 [a,b]=if([a,b].all fun v=>v.kind==1)=false then nc 2 else(eL (a.n==1 && b.n==1),0):=by rw[hc];rfl
   simp -implicitDefEqProofs only[go_sem];refine(hal _).pthen ?_;cases d1:([a,b].all fun v=>v.kind==1)
   ·simp -implicitDefEqProofs only[go_sem]
    exact .mk _ (.refl _) (.ak h1) ⟨by rw[hc12,if_pos d1];rfl,rfl⟩
   ·rw[if_neg (by rw[d1];decide)]at hc12
    cases da:(a.n==1)<;>cases db:(b.n==1)
    all_goals
     rw[da,db]at hc12;simp -implicitDefEqProofs only[go_sem,ix0,ix1,da,db];refine(htr _ _).pthen ?_;simp -implicitDefEqProofs only[go_sem,aR];exact .mk _ (.refl _) (.ak h1) ⟨by rw[hc12];rfl,rfl⟩
  ·have hc13:gK 13 [a,b]=if([a,b].all fun v=>v.kind==1)=false then nc 2 else(eL (a.n==1||b.n==1),0):=by rw[hc];rfl
   simp -implicitDefEqProofs only[go_sem];refine(hal _).pthen ?_;cases d1:([a,b].all fun v=>v.kind==1)
   ·simp -implicitDefEqProofs only[go_sem]
    exact .mk _ (.refl _) (.ak h1) ⟨by rw[hc13,if_pos d1];rfl,rfl⟩
   ·rw[if_neg (by rw[d1];decide)]at hc13
    cases da:(a.n==1)<;>cases db:(b.n==1)
    all_goals
     rw[da,db]at hc13;simp -implicitDefEqProofs only[go_sem,ix0,ix1,da,db];refine(htr _ _).pthen ?_;simp -implicitDefEqProofs only[go_sem,aR];exact .mk _ (.refl _) (.ak h1) ⟨by rw[hc13];rfl,rfl⟩
end Go.Proofs.YtcochaoekecfdaaGreatDoor
namespace Go.Bf
open Go Go.Ab Go.Proofs.YtcochaoekecfdaaGreatDoor
def bO(x:jg):AV:=.agg [.sl (x.bag.map aR) .no,.i x.v.kind,.i x.v.n,.s x.v.s,.i x.e]
end Go.Bf
namespace Go.Proofs.YtcochaoekecfdaaGreatDoor
open Go Go.Ab Go.Bf
theorem Qe(x:jg)(n:Int)(h:Heap):ai Tryz.prog 274 [bO x,.i n] h fun r h' =>r= .b (isI x n)∧h' =h:=by
 refine abH Tryz.func274 15 [.tmp 4] fun hwf=> ?_
 simp only[go_sem,bO];exact agh
theorem MZ(x:jg)(n:Int)(h:Heap):ai Tryz.prog 274 [.agg [.sl [] .full,.i x.v.kind,.i x.v.n,.s x.v.s,.i x.e],.i n] h fun r h' =>r= .b (isI x n)∧h' =h:=by
 refine abH Tryz.func274 15 [.tmp 4] fun hwf=> ?_
 simp only[go_sem];exact agh
theorem uX(b:Bool)(h:Heap):ai Tryz.prog 317 [.b b] h fun r h' =>r=bO (iL b)∧h' =h:=by
 refine abH Tryz.func317 10 [.cell 2 364] fun hwf=> ?_
 simp only[go_sem];intro i1 h1;simp only[go_sem];intro i2 h2;have n21:=aH h2;have n2:=aC h2;cases b
 all_goals
  simp only[go_sem,aj,n21.symm];refine .mk (bO (iL _)) ?_ ((((Sub.refl h).put h1 _).put n2 _).put h1 _) ⟨rfl,rfl⟩;refine .agg _ _ rfl fun i a b=> ?_
  rcases i with _|_|_|_|_|i
  ·exact ael
  all_goals first|exact .refl _|(simp at a;omega)
theorem EA(op:Int)(h:Heap):ai Tryz.prog 301 [.i op] h fun r h' =>r= .i (opsOf op:Nat)∧h' =h:=by
 refine abH Tryz.func301 11 [.tmp 2] fun hwf=> ?_
 cases d1:(op==1)
 case true=>simp only[go_sem,d1];exact .same (.refl _) ⟨by rw[opsOf,if_pos (.inl abJ)];rfl,rfl⟩
 cases d2:(op==2)
 case true=>simp only[go_sem,d1,d2];exact .same (.refl _) ⟨by rw[opsOf,if_pos (.inr abJ)];rfl,rfl⟩
 have e1:¬(op=1∨op=2):=abJ;cases d3:(op==3)
 case true=>simp only[go_sem,d1,d2,d3];exact .same (.refl _) ⟨by rw[opsOf,if_neg e1,if_pos (.inl abJ)];rfl,rfl⟩
 cases d4:(op==4)
 case true=>simp only[go_sem,d1,d2,d3,d4];exact .same (.refl _) ⟨by rw[opsOf,if_neg e1,if_pos (.inr (.inl abJ))];rfl,rfl⟩
 cases d5:(op==11)
 case true=>simp only[go_sem,d1,d2,d3,d4,d5];exact .same (.refl _) ⟨by rw[opsOf,if_neg e1,if_pos (.inr (.inr abJ))];rfl,rfl⟩
 have e2:¬(op=3∨op=4∨op=11):=abJ;simp only[go_sem,d1,d2,d3,d4,d5];exact .same (.refl _) ⟨by rw[opsOf,if_neg e1,if_neg e2];rfl,rfl⟩
theorem E0(vs:List bA)(hl:vs.length≤1000000000)(x:bA)(p:Perm)(h:Heap):
  ai Tryz.prog 329 [.sl (vs.map aR) p,aR x] h fun r h' =>r= .i (ixD (fun y=>eqV x y) vs)∧h' =h:=by
 refine abH Tryz.func329 19 [.tmp 4] fun hwf=> ?_
 simp only[go_sem,aR];intro i1 h1;simp only[go_sem,aby];refine .intro (fun m ρ G=>G=upd h i1 (some (.obj [.i x.kind,.i x.n,.s x.s] 30))∧∃i:Nat,i≤vs.length∧m=vs.length - i∧(∀j (hj:j<i) (h2:j<vs.length),eqV x vs[j]=false)∧lk ρ 0=some (.sl (vs.map aR) p)∧lk ρ 3=some (.ptr i1 0)∧lk ρ 7=some (.i vs.length)∧lk ρ 8=some (.i i)) vs.length ?_ ?_
 ·refine⟨rfl,0,abI,rfl,fun j hj=>abI, ?_, ?_, ?_, ?_⟩<;>simp only[go_sem]
 ·rintro m ρ G ⟨rfl,i,hi,rfl,hc,r0,r3,r7,r8⟩
  simp only[go_sem,r7,r8];refine .intro (fun e=> ?_) (fun e=> ?_)
  ·have hlt:i<vs.length:=abF e
   have w1:IntKind.i64.wrap ((i:Int)+1)=((i+1:Nat):Int):=abV;have ix:=fun k=>fm.eq (xs:=vs.map aR) (sz:=3) i abJ abY k
   rw[abz]at ix;have hci:=fun(d:eqV x vs[i]=false)=>(fun j (hj:j<i+1) (h2:j<vs.length)=>(by
    grind:eqV x vs[j]=false))
   have hat:=fun(d:eqV x vs[i]=true)=>nh (q:=fun y=>eqV x y) hlt d fun j hj=>hc j hj abI
   obtain⟨v,ev⟩:∃v,vs[i]=v:=⟨_,rfl⟩;rw[ev]at ix hci hat;simp only[aR]at ix;simp only[go_sem,r0,r3,r8];refine⟨.of abM, ?_⟩;cases d1:eqV x v
   ·have d2:=d1
    simp only[eqV]at d2;simp only[go_sem,r8,ix,d2,w1];refine⟨_, ?_,rfl,i+1,abI,rfl,hci d1, ?_, ?_, ?_, ?_⟩
    ·omega
    all_goals simp only[go_sem,r0,r3,r7]
   ·have d2:=d1
    simp only[eqV]at d2;simp only[go_sem,ix,d2];exact .mk _ (.refl _) (.ak h1) ⟨afJ,rfl⟩
  ·have hge:i=vs.length:=by grind
   simp only[go_sem];exact .mk _ (.refl _) (.ak h1) ⟨acd,rfl⟩
theorem Mu{vs:List bA}{x:bA}:decide ((0:Int)≤ixD (fun y=>eqV x y) vs)=vs.any fun v=>eqV v x:=by
 have hsy:(fun v=>eqV v x)=fun v=>eqV x v:=by simp[funext,eqV,BEq.comm]
 rw[tW,hsy]
theorem N1(vs:List bA)(hl:vs.length≤1000000000)(x:bA)(p:Perm)(h:Heap):ai Tryz.prog 318 [.sl (vs.map aR) p,aR x] h fun r h' =>r= .b (vs.any fun v=>eqV v x)∧h' =h:=by
 have h1:∀G,ai Tryz.prog 321 [.sl (vs.map aR) p,aR x] G fun r h' =>r= .b (vs.any fun v=>eqV v x)∧h' =G:=fun G=>by
  have hq:=fun K=>E0 vs hl x p K
  refine abH Tryz.func321 9 [.tmp 4] fun hwf=> ?_
  simp only[go_sem,aR];intro i1 h1;simp only[go_sem];refine(hq _).pthen ?_;simp only[go_sem,Mu];exact ab0
 refine abH Tryz.func318 8 [.tmp 4] fun hwf=> ?_
 simp only[go_sem,aR];intro i1 h1';simp only[go_sem];refine(h1 _).pthen ?_;simp only[go_sem];exact .mk _ (.refl _) (.ak h1') ⟨rfl,rfl⟩
theorem kL{L:List AV}{x:jg}(hL:L=x.bag.map aR)(q:Perm):Weak (.agg [.sl L q,.i x.v.kind,.i x.v.n,.s x.v.s,.i x.e]) (bO x):=by
 subst hL;refine .agg _ _ rfl fun i a b=> ?_
 rcases i with _|_|_|_|_|i
 ·exact ael
 all_goals first|exact .refl _|(simp at a;omega)
theorem td(op:Int):opsOf op≤2:=by
 grind [opsOf]
theorem uy{gs:List bl}{op:Int}{val:bA}{attr:pz}{l:List jg}{x:jg}(h1:op≠1)(h2:op≠2)(hno:¬((op=12∨op=13)∧(l.any fun x=>isI x (op - 12))=true))(hx:l.find? (fun x=>x.e !=0)=some x):kO gs ⟨op,val,attr⟩ l=⟨[],ax,x.e⟩:=by
 simp_all [kO,if_neg]
theorem ux{gs:List bl}{op:Int}{val:bA}{attr:pz}{l:List jg}(h1:op≠1)(h2:op≠2)(hno:¬((op=12∨op=13)∧(l.any fun x=>isI x (op - 12))=true))(hx:l.find? (fun x=>x.e !=0)=none):kO gs ⟨op,val,attr⟩ l=(if op=3 then(match (l.headD ⟨[],ax,0⟩).bag with
    | [v]=>⟨[],v,0⟩
    |_=>⟨[],ax,4⟩)
   else if op=4 then⟨[],⟨2,(l.headD ⟨[],ax,0⟩).bag.length,[]⟩,0⟩
   else if op=5 then iL ((l.headD ⟨[],ax,0⟩).bag.any fun v=>eqV v (l.getD 1 ⟨[],ax,0⟩).v)
   else Go.Bf.zG (gK op (l.map (·.v)))):=by
 unfold kO;simp only[if_neg h1,if_neg h2,if_neg hno,hx]
 all_goals rfl
theorem No{h:Heap}{y:AV}(n:aO)(hop:1≤n.op∧n.op≤13)(l:List jg)(hb:Rd h 5 y (l.map bO))(hl:l.length=opsOf n.op)(hbag:∀x∈l,x.bag.length≤1000000)(gs:List bl)(hf:qZ gs):
  ai Tryz.prog 302 [dw n,y,bH gs] h fun r h' =>r=bO (kO gs n l)∧h' =h:=by
 obtain⟨op,val,attr⟩:=n;simp only at hop hl;have hl2:l.length≤2:=by rw[hl];exact td op
 have uV:(U 30).sz=3:=abR;have hg:=fun G=>Ge gs attr.cat attr.name attr.must (by have:=hf.1;omega) hf.2 G
 simp only[bH]at hg;refine abH Tryz.func302 122 [.cell 6 364] fun hwf=> ?_
 simp only[go_sem,dw,bH];intro i3 h3;simp only[go_sem];intro i6 h6;have n63:=aH h6;have n6' :=aC h6;obtain⟨H0,eH⟩:∃H0,upd (upd h i3 (some (.obj [.i op,.i val.kind,.i val.n,.s val.s,.i attr.cat,.s attr.name,.b attr.must] 229))) i6 (some (.obj [.sl [] .full,.i 0,.i 0,.s [],.i 0] 364))=H0:=⟨_,rfl⟩;have hH0:Ab.Sub h H0:=aeF;have g3:H0 i3=some (.obj [.i op,.i val.kind,.i val.n,.s val.s,.i attr.cat,.s attr.name,.b attr.must] 229):=by rw[←eH,ag _ _ n63.symm,ah]
 have g6:H0 i6=some (.obj [.sl [] .full,.i 0,.i 0,.s [],.i 0] 364):=ada;rw[eH];clear eH;cases d1:(op==1)
 case true=>
  have e1:op=1:=aeG;simp only[go_sem,d1,g3,g6];exact .mk (bO ⟨[],val,0⟩) (kL (x:=⟨[],val,0⟩) rfl _) (hH0.put n6' _) ⟨by unfold kO;simp only[e1,if_true],rfl⟩
 have hp1' :op≠1:=aeG;cases d2:(op==2)
 case true=>
  have e2:op=2:=by simpa using d2
  simp only[go_sem,d1,d2,g3];refine(hg _).pthen ?_
  by_cases hh:xb gs attr= []∧attr.must=true
  ·have hh2:Go.Bf.getD gs attr.cat attr.name= []∧attr.must=true:=hh
   simp only[go_sem,Ib,if_pos hh2,g6];exact .mk (bO ⟨[],ax,4⟩) (kL (x:=⟨[],ax,4⟩) rfl _) (hH0.put n6' _) ⟨by unfold kO;simp only[e2,if_neg (show¬(2:Int)=1 by decide),if_true,if_pos hh],rfl⟩
  ·have hh2:¬(Go.Bf.getD gs attr.cat attr.name= []∧attr.must=true):=hh
   simp only[go_sem,Ib,if_neg hh2,g6];exact .mk (bO ⟨xb gs attr,ax,0⟩) (kL (x:=⟨xb gs attr,ax,0⟩) rfl _) (hH0.put n6' _) ⟨by unfold kO;simp only[e2,if_neg (show¬(2:Int)=1 by decide),if_true,if_neg hh],rfl⟩
 have hp2' :op≠2:=by simpa using d2
 have his:=fun(x:jg) (m:Int) (G:Heap)=>Qe x m G
 simp only[bO]at his;cases d12:(op==12)
 case true=>
  have e12:op=12:=by simpa using d12
  have htr:=fun G=>uX false G
  simp only[bO]at htr;obtain⟨a,b,hab⟩:∃a b,l= [a,b]:=wD (by rw[hl,e12];rfl)
  have wk:IntKind.i64.wrap (op - 12)=0:=aem;have han:(l.any fun x=>isI x (op - 12))=(isI a 0||isI b 0):=by rw[hab,e12];simp
  have hb0:l.map bO= [bO a,bO b]:=by rw[hab];rfl
  have q3:(op==3)=false:=aem;have q4:(op==4)=false:=aem;have q5:(op==5)=false:=aem;have hbH:=hb.sub hH0;simp only[go_sem,d2,d1,d12,g3,wk];refine hbH.idx (e:=364) 0 rfl adU abR abL fun p hp1=> ?_
  have hld:=hp1.all (U:=U) (ty:=364) abR acT acT;simp only[go_sem,hld,hb0,List.getElem_cons_zero,bO];refine(his a 0 _).pthen ?_;cases da:isI a 0
  ·simp only[go_sem]
   refine hbH.idx (e:=364) 1 rfl adU abR abL fun p hp1=> ?_
   have hld:=hp1.all (U:=U) (ty:=364) abR acs acs;simp only[go_sem,hld,hb0,List.getElem_cons_succ,List.getElem_cons_zero,bO];refine(his b 0 _).pthen ?_;cases db:isI b 0
   ·exact afR
   ·simp only[go_sem]
    refine(htr _).pthen ?_;simp only[go_sem,g6];exact .mk (bO (iL false)) (kL (x:=(iL false)) rfl _) (hH0.put n6' _) ⟨by unfold kO;rw[han,da,db];simp[e12]<;>rfl,rfl⟩
  ·simp only[go_sem]
   refine(htr _).pthen ?_;simp only[go_sem,g6];exact .mk (bO (iL false)) (kL (x:=(iL false)) rfl _) (hH0.put n6' _) ⟨by unfold kO;rw[han,da];simp[e12]<;>rfl,rfl⟩
 have hn12:op≠12:=by simpa using d12
 cases d13:(op==13)
 case true=>
  have e12:op=13:=by simpa using d13
  have htr:=fun G=>uX true G
  simp only[bO]at htr;obtain⟨a,b,hab⟩:∃a b,l= [a,b]:=wD (by rw[hl,e12];rfl)
  have wk:IntKind.i64.wrap (op - 12)=1:=aem;have han:(l.any fun x=>isI x (op - 12))=(isI a 1||isI b 1):=by rw[hab,e12];simp
  have hb0:l.map bO= [bO a,bO b]:=by rw[hab];rfl
  have q3:(op==3)=false:=aem;have q4:(op==4)=false:=aem;have q5:(op==5)=false:=aem;have hbH:=hb.sub hH0;simp only[go_sem,d1,d2,d12,d13,g3,wk];refine hbH.idx (e:=364) 0 rfl adU abR abL fun p hp1=> ?_
  have hld:=hp1.all (U:=U) (ty:=364) abR acT acT;simp only[go_sem,hld,hb0,List.getElem_cons_zero,bO];refine(his a 1 _).pthen ?_;cases da:isI a 1
  ·simp only[go_sem]
   refine hbH.idx (e:=364) 1 rfl adU abR abL fun p hp1=> ?_
   have hld:=hp1.all (U:=U) (ty:=364) abR acs acs;simp only[go_sem,hld,hb0,List.getElem_cons_succ,List.getElem_cons_zero,bO];refine(his b 1 _).pthen ?_;cases db:isI b 1
   ·exact afR
   ·simp only[go_sem]
    refine(htr _).pthen ?_;simp only[go_sem,g6];exact .mk (bO (iL true)) (kL (x:=(iL true)) rfl _) (hH0.put n6' _) ⟨by unfold kO;rw[han,da,db];simp[e12]<;>rfl,rfl⟩
  ·simp only[go_sem]
   refine(htr _).pthen ?_;simp only[go_sem,g6];exact .mk (bO (iL true)) (kL (x:=(iL true)) rfl _) (hH0.put n6' _) ⟨by unfold kO;rw[han,da];simp[e12]<;>rfl,rfl⟩
 have hn13:op≠13:=by simpa using d13
 have hno:¬((op=12∨op=13)∧(l.any fun x=>isI x (op - 12))=true):=fun hh=>hh.1.elim hn12 hn13
 simp only[go_sem,d1,d2,d12,d13,g3,hb.len,aby];refine .intro (fun m ρ H=>∃(i:Nat) (z:AV),Acc U 30 H0 H z ((l.take i).map fun x=>aR x.v)∧i≤l.length∧m=l.length - i∧(∀j (h1:j<l.length),j<i→l[j].e=0)∧lk ρ 1=some y∧lk ρ 3=some (.ptr i3 0)∧lk ρ 6=some (.ptr i6 0)∧lk ρ 10=some z∧lk ρ 55=some y∧lk ρ 56=some (.i l.length)∧lk ρ 57=some (.i i)) l.length ?_ ?_
 ·refine⟨0,.sl [] .full,.full (.refl _),abI,rfl,fun j _ hj=>abI, ?_, ?_, ?_, ?_, ?_, ?_, ?_⟩<;>simp only[go_sem]
 ·rintro m ρ H ⟨i,z,hz,hi,rfl,hc,r1,r3,r6,r10,r55,r56,r57⟩
  have hsH:=hH0.trans hz.1;have hbH:=hb.sub hsH;have k3:=hz.1 _ _ g3;have k6:=hz.1 _ _ g6;simp only[go_sem,r56,r57];refine .intro (fun e=> ?_) (fun e=> ?_)
  ·have hlt:i<l.length:=abF e
   have w1:=abE i abI;have hsn:(l.take (i+1)).map (fun x=>aR x.v)=(l.take i).map (fun x=>aR x.v)++ [aR l[i].v]:=acX
   simp only[go_sem,r55,r57];refine hbH.idx (e:=364) i rfl ab7 abR abL fun p hp1=> ?_
   have hld:=hp1.all (U:=U) (ty:=364) abR aco aco;obtain⟨x,ex⟩:∃x,l[i]=x:=⟨_,rfl⟩;rw[ex]at hsn;simp only[go_sem,hld,abz,ex,bO];intro i12 h12;have n126:i12≠i6:=fun e=>adJ
   cases dx:(x.e !=0)
   ·have dx' :x.e=0:=by simpa using dx
    simp only[go_sem,r10,dx];refine(hz.sub (.ak h12)).app (zs:=[aR x.v]) abN abN (fun k hk=>hk) ac2 adj ab1 fun z' H' hz' kp=> ?_
    simp only[go_sem,r57,w1];refine⟨_, ?_,i+1,z',by rw[hsn];exact hz',abI,rfl,fun j h1 hj=> ?_, ?_, ?_, ?_, ?_, ?_, ?_, ?_⟩
    ·omega
    ·by_cases hji:j=i
     ·subst hji;rw[ex];exact dx'
     ·exact hc j h1 abI
    all_goals simp only[go_sem,r1,r3,r6,r55,r56]
   ·have hfi:l.find? (fun x=>x.e !=0)=some x:=by rw[←ex];exact List.find?_eq_some_iff_getElem.2 ⟨by rw[ex];exact dx,i,hlt,rfl,fun j hj=>afa⟩
    simp only[go_sem,r6,dx,aj,n126.symm,k6];exact .mk (bO ⟨[],ax,x.e⟩) (kL (x:=⟨[],ax,x.e⟩) rfl _) ((hsH.trans (.ak h12)).put n6' _) ⟨aeW,rfl⟩
  ·have hge:i=l.length:=by have:=abB e;omega
   subst hge;have hfi:l.find? (fun x=>x.e !=0)=none:=List.find?_eq_none.2 fun x hx=>by
    obtain⟨j,hj,rfl⟩:=List.mem_iff_getElem.1 hx;rw[hc j hj hj];decide
   have hnd:=ux (gs:=gs) (val:=val) (attr:=attr) hp1' hp2' hno hfi;rw[List.take_length]at hz;obtain⟨qz,eqz⟩:=hz.row;subst eqz;have hcl:=fun G=>Bj op (l.map (·.v)) aeP qz G
   rw[List.map_map]at hcl;have hcl:∀G,ai Tryz.prog 319 [.i op,.sl (l.map fun x=>aR x.v) qz] G fun r h' =>r=qG (gK op (l.map (·.v)))∧h' =G:=hcl
   cases d3:(op==3)
   case true=>
    have e3:op=3:=afz;obtain⟨a,ha⟩:∃a,l= [a]:=List.length_eq_one_iff.1 (by rw[hl,e3];rfl)
    have hb0:l.map bO= [bO a]:=by rw[ha];rfl
    simp only[e3,if_true,ha,List.headD_cons]at hnd;simp only[go_sem,r1,r3,k3,d3];refine hbH.idx (e:=364) 0 rfl adU abR abL fun p hp1=> ?_
    (try simp only[go_sem])
    refine hp1.field (f:=0) (off:=0) (t:=193) rfl acz fun p2 hp2=> ?_
    have hld:=hp2.part (U:=U) (ty:=193) acz acL;simp only[hb0,List.getElem_cons_zero,bO,AV.cells]at hld;cases db:((a.bag.length:Int) !=1)
    ·have hb1:(a.bag.length:Int)=1:=by simpa using db
     obtain⟨v,hv⟩:=List.length_eq_one_iff.1 (show a.bag.length=1 by omega)
     rw[hv]at hnd hld;have iv:=fun K=>fm.eq (xs:=[aR v]) (sz:=3) 0 abQ rfl K
     simp only[List.getElem_cons_zero,aR,Int.natCast_zero]at iv;simp only[go_sem,r1,hld,List.map_cons,List.map_nil,aR];refine hbH.idx (e:=364) 0 rfl adU abR abL fun p hp1=> ?_
     (try simp only[go_sem])
     refine hp1.field (f:=0) (off:=0) (t:=193) rfl acz fun p2 hp2=> ?_
     have hld:=hp2.part (U:=U) (ty:=193) acz acL;simp only[hb0,List.getElem_cons_zero,bO,AV.cells,hv,List.map_cons,List.map_nil,aR]at hld;simp only[go_sem,hld,iv,r6,k6];exact .mk (bO ⟨[],v,0⟩) (kL (x:=⟨[],v,0⟩) rfl _) (hsH.put n6' _) ⟨by rw[e3,ha,hnd]<;>rfl,rfl⟩
    ·simp only[go_sem,hld,aby,db,r6,k6]
     refine .mk (bO ⟨[],ax,4⟩) (kL (x:=⟨[],ax,4⟩) rfl _) (hsH.put n6' _) ⟨?_,rfl⟩;rw[e3,ha,hnd]
     congr 1
     split
     ·rename_i v hv;rw[hv]at db;simp at db
     ·rfl
   cases d4:(op==4)
   case true=>
    have e4:op=4:=by simpa using d4
    obtain⟨a,ha⟩:∃a,l= [a]:=List.length_eq_one_iff.1 (by rw[hl,e4];rfl)
    have hb0:l.map bO= [bO a]:=by rw[ha];rfl
    simp only[go_sem,r1,r3,k3,d3,d4];refine hbH.idx (e:=364) 0 rfl adU abR abL fun p hp1=> ?_
    (try simp only[go_sem])
    refine hp1.field (f:=0) (off:=0) (t:=193) rfl acz fun p2 hp2=> ?_
    have hld:=hp2.part (U:=U) (ty:=193) acz acL;simp only[hb0,List.getElem_cons_zero,bO,AV.cells]at hld;simp only[go_sem,hld,aby,r6,k6];exact .mk (bO ⟨[],⟨2,a.bag.length,[]⟩,0⟩) (kL (x:=⟨[],⟨2,a.bag.length,[]⟩,0⟩) rfl _) (hsH.put n6' _) ⟨by rw[hnd,e4,ha];rfl,rfl⟩
   cases d5:(op==5)
   case true=>
    have e5:op=5:=by simpa using d5
    obtain⟨a,b,hab⟩:∃a b,l= [a,b]:=wD (by rw[hl,e5];rfl)
    have hb0:l.map bO= [bO a,bO b]:=by rw[hab];rfl
    have hvh:=fun G=>N1 a.bag (by have:=hbag a (by rw[hab];simp);omega) b.v .no G
    simp only[aR]at hvh;have htr:=fun G=>uX (a.bag.any fun v=>eqV v b.v) G
    simp only[bO]at htr;simp only[go_sem,r3,k3,d3,d4,d5];refine .calls h [0,1,2,3,4,5,6,7,8,9,10] hsH abM rfl ?_;simp only[go_sem,r1];refine hb.idx (e:=364) 0 rfl adU abR abL fun p hp1=> ?_
    simp only[go_sem];refine hp1.field (f:=0) (off:=0) (t:=193) rfl acz fun p2 hp2=> ?_
    have hld:=hp2.part (U:=U) (ty:=193) acz acL;simp only[hb0,List.getElem_cons_zero,bO,AV.cells]at hld;simp only[go_sem,hld,r1];refine hb.idx (e:=364) 1 rfl adU abR abL fun p hp3=> ?_
    simp only[go_sem];refine hp3.field (f:=1) (off:=1) (t:=30) rfl acz fun p4 hp4=> ?_
    have hld4:=hp4.part (U:=U) (ty:=30) acz (by simp only[go_sem,hb0,List.getElem_cons_succ,List.getElem_cons_zero];exact abx rfl)
    simp only[hb0,List.getElem_cons_succ,List.getElem_cons_zero,bO,AV.cells]at hld4;simp only[go_sem,hld4];refine(hvh _).pthen ?_;refine⟨hsH, ?_⟩;simp only[go_sem];refine(htr _).pthen ?_;refine⟨hsH, ?_⟩;simp only[go_sem,r6,k6];refine⟨hsH.put n6' _, ?_⟩;exact .mk (bO (iL (a.bag.any fun v=>eqV v b.v))) (kL (x:=(iL (a.bag.any fun v=>eqV v b.v))) rfl _) (hsH.put n6' _) ⟨by rw[hnd,e5,hab];rfl,rfl⟩
   obtain⟨⟨v,e⟩,ev⟩:∃x,gK op (l.map (·.v))=x:=⟨_,rfl⟩
   rw[ev]at hcl;simp only[go_sem,r3,r10,k3,d3,d4,d5];refine(hcl _).pthen ?_;simp only[go_sem,qG,aR];intro i13 h13;have n136:i13≠i6:=fun e=>afi
   simp only[go_sem,r6,aj,n136.symm,k6];exact .mk (bO ⟨[],v,e⟩) (kL (x:=⟨[],v,e⟩) rfl _) ((hsH.trans (.ak h13)).put n6' _) ⟨by rw[hnd];simp only[if_neg (show¬op=3 by simpa using d3),if_neg (show¬op=4 by simpa using d4),if_neg (show¬op=5 by simpa using d5)];rw[ev]<;>rfl,rfl⟩
end Go.Proofs.YtcochaoekecfdaaGreatDoor
namespace Go.Bf
open Go Go.Ab Go.Proofs.YtcochaoekecfdaaGreatDoor
theorem BS{t:fT}(h:kT t=0):Mj t:=by
 obtain⟨h1,h2⟩:=AR h;refine⟨abI,fun x hx=> ?_⟩
 grind [zP,zO]
theorem M6.turn{m:aS}(h:M6 m):M6 (DX m):=by
 exact agp
theorem M6.indet{m:aS}(h:M6 m):M6 (gE m):=by
 exact agp
theorem M6.first{l:List aS}(h:∀m∈l,M6 m):M6 (firstM l):=by
 unfold firstM;cases hf:l.find? fun m=>decide (m≠naM)with
 |none=>decide
 |some m=>grind
theorem M6.only:∀(l:List aS) (j:aS),(∀m∈l,M6 m)→M6 j→M6 (nJ l j)
 | [],j,_,hj=>hj
 |m::r,j,h,hj=>by
  simp only[nJ];split
  ·decide
  ·refine M6.only r _ abJ ?_
   split
   ·grind
   ·split
    ·decide
    omega
theorem F1{alg:Int}{l:List aS}(h:∀m∈l,M6 m):M6 (gM alg l):=by
 unfold gM;split
 ·exact GA _
 ·split
  ·exact M6.turn (GA _)
  ·split
   ·exact .first h
   ·split
    ·exact .only _ _ h abL
    ·split
     ·split<;>decide
     ·split
      ·split<;>decide
      decide
theorem z6(r:cM)(t c:Nat):M6 (mI r t c).1:=by
 unfold mI;cases r.deny
 all_goals
  simp only[if_true,Bool.false_eq_true,if_false];split
  ·decide
  ·split
   ·decide
   ·first|(show M6 bh;decide)|(show M6 cF;decide)
theorem M1(alg:Int)(obls:List cE)(t:Nat){parts:List jr}(h:∀x∈parts,M6 x.1):M6 (oW alg obls t parts).1:=by
 have hc:M6 (gM alg (parts.map (·.1))):=F1 fun m hm=>by
  grind
 unfold oW;simp only;split
 ·decide
 ·split
  ·exact hc.indet
  ·split
   ·exact hc
   ·exact hc
mutual
theorem Bs(gs:List bl):∀p:bJ,M6 (fj gs p).1
 |.mk id set alg tgt rules kids obls=>by
  have ih:=CA gs kids;simp only[fj];split
  ·decide
  ·refine M1 alg obls _ fun x hx=> ?_
   rcases List.mem_append.1 hx with hx|hx
   ·obtain⟨r,_,rfl⟩:=List.mem_map.1 hx
    exact z6 _ _ _
   ·exact ih x hx
theorem CA(gs:List bl):∀l:List bJ,∀x∈lV gs l,M6 x.1
 | [],x,hx=>by simp[lV]at hx
 |k::r,x,hx=>by
  have h1:=Bs gs k;have h2:=CA gs r;simp only[lV,List.mem_cons]at hx;rcases hx with rfl|hx
  ·exact h1
  ·exact h2 x hx
end
theorem JK{gs:List bl}(h:N6 gs):qZ gs:=⟨by have:=h.len;omega,fun g hg=>by have:=(h.each g hg).2.2.2.1;omega⟩
theorem F9{α:Type}(B:Nat):∀(L:List (List α)),(∀x∈L,x.length≤B)→L.flatten.length≤L.length*B
 | [],_=>abQ
 |x::L,h=>by
  have h1:=h x abQ;have h2:=F9 B L fun y hy=>h y abJ
  rw[List.flatten_cons,abC,List.length_cons,Nat.add_mul];omega
theorem tr{alg:Int}{m:aS}{parts:List jr}{B:Nat}(hp:∀x∈parts,x.2.length≤B)(hn:parts.length≤32):(eu alg m parts).length≤32*B+B:=by
 unfold eu;split
 ·cases hf:parts.find? fun x=>x.1==m with
  |none=>simp
  |some x=>grind
 ·have h1:=F9 B (((parts.filter fun x=>x.1==m).map (·.2))) fun x hx=>by
   grind
  have h2:((parts.filter fun x=>x.1==m).map (·.2)).length≤32:=by
   grind
  have:=Nat.mul_le_mul_right B h2;omega
theorem j7(l:List cE)(m:aS):(dY l m).length≤l.length:=List.length_filter_le _ _
theorem zZ(r:cM)(t c:Nat):(mI r t c).2.length≤r.obls.length:=by
 unfold mI
 all_goals
  grind [j7]
def oB:Nat→Nat
 |0=>8
 |n+1=>8+33*oB n
theorem TH(n:Nat):8≤oB n:=by
 cases n with
 |zero=>decide
 |succ n=>grind [oB]
theorem Bq(gs:List bl):∀(n d:Nat) (p:bJ),d+n=5→mc d p→(fj gs p).2.length≤oB n
 |0,d,.mk id set alg tgt rules kids obls,hd,h=>by grind [mc]
 |n+1,d,.mk id set alg tgt rules kids obls,hd,h=>by
  simp only[mc,qj]at h;obtain⟨_,_,_,_,_,_,g2,g3,g4,g5,g6,g7⟩:=h;have hob:=(jY g3).1;have h8:=TH n;simp only[fj];split
  ·simp
  ·unfold oW
   simp only;split
   ·simp
   ·split
    ·simp
    ·split
     ·simp
     ·have h1:=tr (alg:=alg) (m:=gM alg ((rules.map (gU gs)++lV gs kids).map (·.1))) (parts:=rules.map (gU gs)++lV gs kids) (B:=oB n) (fun x hx=>by
       rcases List.mem_append.1 hx with hx|hx
       ·obtain⟨r,hr,rfl⟩:=List.mem_map.1 hx
        have:=zZ r (mb gs r.tgt) (pQ gs r.cond);have:=(jY (g6 r hr).2.2.2).1
        show(mI r (mb gs r.tgt) (pQ gs r.cond)).2.length≤_
        omega
       ·rw[sM]at hx
        obtain⟨k,hk,rfl⟩:=List.mem_map.1 hx;exact Bq gs n (d+1) k abI (g7 k hk)) (by grind [abC,aby,sM])
      have h2:=j7 obls (gM alg ((rules.map (gU gs)++lV gs kids).map (·.1)))
      simp only[abC,oB];omega
theorem Kf(gs:List bl){p:bJ}(h:mc 1 p):(fj gs p).2.length≤10000000:=Nat.le_trans (Bq gs 4 1 p rfl h) abL
theorem Jo{op:Int}{w:List Bool}(hw:ig op=some w):w.length=opsOf op∧1≤op∧op≤13:=by
 have h1:1≤op∧op≤13:=by
  grind [ig]
 refine⟨?_,h1⟩;rcases(show op=1∨op=2∨op=3∨op=4∨op=5∨op=6∨op=7∨op=8∨op=9∨op=10∨op=11∨op=12∨op=13 by omega)with rfl|rfl|rfl|rfl|rfl|rfl|rfl|rfl|rfl|rfl|rfl|rfl|rfl
 all_goals (simp[ig]at hw;subst hw;rfl)
theorem Jc{bs bs' :List Bool}{n:aO}(h:ie bs n=some bs'):(1≤n.op∧n.op≤13)∧opsOf n.op≤bs.length∧bs'.length=bs.length - opsOf n.op+1:=by
 unfold ie at h;cases hw:ig n.op with
 |none=>grind
 |some w=>
  grind [Jo,abC,List.length_take,List.length_singleton]
theorem NO{l:List aO}{z bs:List Bool}{i:Nat}(hl:fJ [] l=some z)(hi:i<l.length)(hb:fJ [] (l.take i)=some bs):∃bs',ie bs l[i]=some bs'∧fJ [] (l.take (i+1))=some bs' :=by
 have h1:=jH [] l i;rw[hl,hb,List.drop_eq_getElem_cons hi]at h1;simp only[fJ]at h1;cases hs:ie bs l[i]with
 |none=>rw[hs]at h1;cases h1
 |some bs' =>
  rw[jH [] _ i,List.take_take,Nat.min_eq_left abI,hb,List.take_succ_eq_append_getElem hi,List.drop_append_of_le_length abJ,List.drop_of_length_le abJ]
  grind [fJ]
theorem KW{gs:List bl}(hf:qZ gs)(n:aO)(l:List jg):(kO gs n l).bag.length≤1000000:=by
 unfold kO zG iL
 repeat' split
 all_goals first|exact hf.bag _|simp
def Tx(x:jg):AV:=.tup [aR x.v,.i x.e]
end Go.Bf
namespace Go.Proofs.YtcochaoekecfdaaGreatDoor
open Go Go.Ab Go.Bf
theorem Kg(l:List aO)(hn:l≠ [])(he:jM l=0)(gs:List bl)(hf:qZ gs)(h:Heap):ai Tryz.prog 273 [eV l,bH gs] h fun r h' =>r=Tx (vC gs l)∧h' =h:=by
 obtain⟨h32,hst⟩:=xy he hn;have hex:=fun G=>F6 l G
 rw[he]at hex;simp only[eV]at hex;have dl:((l.length:Int)==0)=false:=afN;refine abH Tryz.func273 51 [.cell 4 30,.tmp 5] fun hwf=> ?_
 simp only[go_sem,eV,bH];intro i4 h4;simp only[go_sem,aby,dl];refine(hex _).pthen ?_;simp only[go_sem,aby];obtain⟨H0,eH⟩:∃H0,upd h i4 (some (.obj [.i 0,.i 0,.s []] 30))=H0:=⟨_,rfl⟩;have hH0:Ab.Sub h H0:=by rw[←eH];exact .ak h4
 have g4:H0 i4=some (.obj [.i 0,.i 0,.s []] 30):=ada;rw[eH];clear eH;refine .intro (fun m ρ H=>∃(i:Nat) (y:AV) (st:List jg) (bs:List Bool),OwE 364 H0 H 5 y (st.map bO)∧Ab.Sub H0 H∧(l.take i).foldl (yO gs) []=st∧fJ [] (l.take i)=some bs∧bs.length=st.length∧(∀x∈st,x.bag.length≤1000000)∧i≤l.length∧m=l.length - i∧lk ρ 1=some (.sl (gs.map kJ) .no)∧lk ρ 4=some (.ptr i4 0)∧lk ρ 6=some y∧lk ρ 19=some (.sl (l.map dw) .no)∧lk ρ 20=some (.i l.length)∧lk ρ 21=some (.i i)) l.length ?_ ?_
 ·refine⟨0,_,[],[],.inl ⟨rfl,rfl⟩,.refl _,rfl,rfl,rfl,fun x hx=>abJ,abI,rfl, ?_, ?_, ?_, ?_, ?_, ?_⟩<;>simp only[go_sem]
 ·rintro m ρ H ⟨i,y,st,bs,hw,hsH,hfo,hbs,hlen,hbag,hi,rfl,r1,r4,r6,r19,r20,r21⟩
  have hsl:bs.length≤i:=by have:=rE _ _ _ hbs;simpa[Nat.min_eq_left hi]using this
  simp only[go_sem,r20,r21];refine .intro (fun e=> ?_) (fun e=> ?_)
  ·have hlt:i<l.length:=abF e
   have w1:IntKind.i64.wrap ((i:Int)+1)=((i+1:Nat):Int):=abV;obtain⟨bs',hb1,hb2⟩:=NO hst hlt hbs;have hfs:(l.take (i+1)).foldl (yO gs) []=yO gs st l[i]:=by grind [List.take_succ_eq_append_getElem]
   have ix:=fun k=>fm.eq (xs:=l.map dw) (sz:=7) i abJ abY k
   rw[abz]at ix;obtain⟨n,en⟩:∃n,l[i]=n:=⟨_,rfl⟩;rw[en]at hb1 hfs ix;obtain⟨hop,hle,hln⟩:=Jc hb1;rw[hlen]at hle;obtain⟨k,ek⟩:∃k,st.length - opsOf n.op=k:=⟨_,rfl⟩;have wk:IntKind.i64.wrap ((st.length:Int) - (opsOf n.op:Int))=(k:Int):=abV;have hstep:yO gs st n=st.take k++ [kO gs n (st.drop k)]:=by grind [yO]
   simp only[dw]at ix;simp only[go_sem,r19,r21,ix];intro i8 h8;obtain⟨H8,eH⟩:∃H8,upd H i8 (some (.obj [.i n.op,.i n.val.kind,.i n.val.n,.s n.val.s,.i n.attr.cat,.s n.attr.name,.b n.attr.must] 229))=H8:=⟨_,rfl⟩;have hs8:Ab.Sub H H8:=by rw[←eH];exact .ak h8
   have k8:H8 i8=some (.obj [.i n.op,.i n.val.kind,.i n.val.n,.s n.val.s,.i n.attr.cat,.s n.attr.name,.b n.attr.must] 229):=ada;have hw8:=hw.sub hs8;simp only[go_sem,r6,hw8.rd.len,aby];refine(EA n.op _).pthen ?_;rw[eH];clear eH;simp only[go_sem,wk];refine .calls (hm1 i8 (.obj [.i n.op,.i n.val.kind,.i n.val.n,.s n.val.s,.i n.attr.cat,.s n.attr.name,.b n.attr.must] 229)) [0,1,2,3,4,5,6,7,8,9,10,11] (.hm1 k8) abM rfl ?_;simp only[go_sem,r6];refine hw8.cut (U:=U) (x:=.i64) k abW rfl abJ abW abL fun z hz hzy=> ?_
   simp only[go_sem,r6,fQ];refine hw8.from (U:=U) (x:=.i64) k abW rfl abJ abW abL fun z2 hz2=> ?_
   rw[←List.map_drop]at hz2;rw[←List.map_take]at hz;have hnd:=No n hop (st.drop k) hz2 abJ (fun x hx=>hbag x (List.mem_of_mem_drop hx)) gs hf
   have hnb:=KW hf n (st.drop k);obtain⟨x,ex⟩:∃x,kO gs n (st.drop k)=x:=⟨_,rfl⟩;rw[ex]at hnd hnb hstep;simp only[dw,bH,bO]at hnd;simp only[go_sem,r1];refine hnd.pthen ?_;refine⟨.hm1 k8, ?_⟩;simp only[go_sem];have hone:Rd H8 5 (.sl [bO x] .full) [bO x]:=.sl (fun z hz=>aeA) .full
   simp only[bO]at hone;refine OwE.app (U:=U) (tb:=364) hz (hsH.trans hs8) hone abW abL abL abW abQ ab1 fun id y' H' hid hor how hoth=> ?_
   have n8:i8≠id:=by
    intro e8;rcases hor with ho|⟨lz,cz,ez⟩
    ·grind
    ·exact lq (hz.nid (id:=id) (by rw[ez];rfl)).2.2 k8 abL e8.symm
   have hsub' :Ab.Sub H0 H' :=fun j b hj=>by rw[hoth j (fun e=>abJ)];exact(hsH.trans hs8) _ _ hj
   refine⟨.hm1 abJ, ?_⟩;simp only[go_sem,r21,w1];refine⟨_, ?_,i+1,y',yO gs st n,bs',.inr ⟨id,hid,by rw[hstep,List.map_append];exact how⟩,hsub',hfs,hb2,abJ,fun w hw=> ?_,abI,rfl, ?_, ?_, ?_, ?_, ?_, ?_⟩
   ·omega
   ·grind
   all_goals simp only[go_sem,r1,r4,r19,r20]
  ·have hge:i=l.length:=by grind
   subst hge;rw[List.take_length]at hbs hfo;rw[hst]at hbs;cases hbs;obtain⟨x,rfl⟩:=List.length_eq_one_iff.1 hlen.symm;have hit:vC gs l=x:=by simp_all [vC,if_neg]
   obtain⟨id,hid,how⟩:=hw.ow abQ;have hwp:Rd (pick H [id]) 5 y [bO x]:=(how.same (bz (List.mem_singleton.2 rfl))).rd;have n4:i4≠id:=fun e=>abJ
   have k4:=hsH _ _ g4;simp only[go_sem];refine .calls (pick H [id]) [0,1,2,3,4,5,6,7,8,9] bw abM rfl ?_;simp only[go_sem,r6];refine hwp.idx (U:=U) (e:=364) 0 rfl abQ abW abL fun p hp1=> ?_
   simp only[go_sem];refine hp1.field (f:=1) (off:=1) (t:=30) rfl abL fun p2 hp2=> ?_
   have hld:=hp2.part (U:=U) (ty:=30) abL ad7;simp only[List.getElem_cons_zero,bO,AV.cells]at hld;simp only[go_sem,r6,hld];refine hwp.idx (U:=U) (e:=364) 0 rfl abQ abW abL fun p3 hp3=> ?_
   simp only[go_sem];refine hp3.field (f:=2) (off:=4) (t:=23) rfl abL fun p4 hp4=> ?_
   have hld4:=hp4.part (U:=U) (ty:=23) abL ad7;simp only[List.getElem_cons_zero,bO,AV.cells]at hld4;simp only[go_sem,r4,hld4,k4];refine⟨bw.put (by grind [pick]) _, ?_⟩
   exact .mk _ (.refl _) ((hH0.trans hsH).put h4 _) ⟨by rw[hit];rfl,rfl⟩
theorem MG(l:List aO)(he:jM l=0)(gs:List bl)(hf:qZ gs)(h:Heap):ai Tryz.prog 246 [eV l,bH gs] h fun r h' =>r= .i (pQ gs l:Nat)∧h' =h:=by
 by_cases hn:l= []
 ·subst hn
  refine abH Tryz.func246 26 [.tmp 4] fun hwf=> ?_
  simp only[go_sem,eV,bH,List.map_nil,List.length_nil];exact abU
 have hv:=fun G=>Kg l hn he gs hf G
 have hcd:pQ gs l=if isI (vC gs l) 1 then 2 else if isI (vC gs l) 0 then 0 else 1:=by
  simp_all [pQ,if_neg]
 obtain⟨x,ex⟩:∃x,vC gs l=x:=⟨_,rfl⟩;rw[ex]at hv hcd;simp only[eV,bH,Tx,aR]at hv;have hi1:∀(m:Int) G,ai Tryz.prog 274 [.agg [.sl [] .full,.i x.v.kind,.i x.v.n,.s x.v.s,.i x.e],.i m] G fun r h' =>r= .b (isI x m)∧h' =G:=fun m G=>MZ x m G
 have dl:((l.length:Int)==0)=false:=afN;refine abH Tryz.func246 26 [.tmp 4] fun hwf=> ?_
 simp only[go_sem,eV,bH,aby,dl];refine(hv _).pthen ?_;simp only[go_sem];intro i5 h5;simp only[go_sem];intro i7 h7;have n7:=aC h7;have hs:∀x y,Ab.Sub h (upd (upd h i5 x) i7 y):=fun x y=>((Sub.refl h).put h5 x).put n7 y
 simp only[go_sem];refine(hi1 1 _).pthen ?_;cases d1:isI x 1
 case true=>
  rw[d1]at hcd;simp only[go_sem];exact .mk _ (.refl _) (hs _ _) ⟨by rw[hcd];rfl,rfl⟩
 simp only[go_sem];refine(hi1 0 _).pthen ?_;cases d0:isI x 0
 all_goals
  rw[d1,d0]at hcd;simp only[go_sem];exact .mk _ (.refl _) (hs _ _) ⟨by rw[hcd];rfl,rfl⟩
end Go.Proofs.YtcochaoekecfdaaGreatDoor
namespace Go.Bf
open Go Go.Ab Go.Proofs.YtcochaoekecfdaaGreatDoor
def jA(l:List aS)(p:Perm):AV:=.sl (l.map aQ) p
theorem M9.na:M9 naM:=abL
theorem BC(l:List aS)(i:Nat)(h:i<l.length):(l.take (i+1)).foldl nD naM=nD ((l.take i).foldl nD naM) l[i]:=by
 grind [List.take_succ_eq_append_getElem]
theorem HQ{l:List aS}{q:aS→Bool}(hq:∀m,q m=decide (m≠naM))(h:l.findIdx q<l.length):firstM l=l[l.findIdx q]:=by
 unfold firstM;have e:q=fun m=>decide (m≠naM):=funext hq
 subst e;rw[show l.find? (fun m=>decide (m≠naM))=some l[l.findIdx fun m=>decide (m≠naM)]from List.find?_eq_some_iff_getElem.2 ⟨List.findIdx_getElem (w:=h),_,h,rfl,fun j hj=>abJ⟩]
 rfl
theorem HR{l:List aS}{q:aS→Bool}(hq:∀m,q m=decide (m≠naM))(h:¬l.findIdx q<l.length):firstM l=naM:=by
 unfold firstM;rw[List.find?_eq_none.2 fun x hx=>abJ]
 rfl
def vN(j m:aS):aS:=if j=naM then m else if m≠naM then oh else j
theorem K0{l:List aS}{i:Nat}(h:i<l.length)(j:aS):nJ (l.drop i) j=if yP l[i]=false then oh else nJ (l.drop (i+1)) (vN j l[i]):=by
 rw[List.drop_eq_getElem_cons h];rfl
end Go.Bf
namespace Go.Proofs.YtcochaoekecfdaaGreatDoor
open Go Go.Ab Go.Bf
theorem Ub:(U 34).sz=1:=abW
theorem Iw(ms:List aS)(hl:ms.length≤1000000000)(q:aS→Bool)(g:FuncId)(cap:List AV)(p:Perm)(h:Heap)(hp:∀m∈ms,ai Tryz.prog g (aQ m::cap) h fun r h' =>r= .b (q m)∧h' =h):
  ai Tryz.prog 305 [jA ms p,.fn g cap] h fun r h' =>r= .i (ixD q ms)∧h' =h:=by
 refine abH Tryz.func305 19 [.tmp 4] fun hwf=> ?_
 simp only[go_sem,jA,aby];refine .intro (fun m ρ h' =>h' =h∧∃i:Nat,i≤ms.length∧m=ms.length - i∧(∀j (hj:j<i) (h2:j<ms.length),q ms[j]=false)∧lk ρ 0=some (.sl (ms.map aQ) p)∧lk ρ 1=some (.fn g cap)∧lk ρ 7=some (.i ms.length)∧lk ρ 8=some (.i i)) ms.length ?_ ?_
 ·refine⟨rfl,0,abI,rfl,fun j hj=>abI, ?_, ?_, ?_, ?_⟩<;>simp only[go_sem]
 ·rintro m ρ h' ⟨rfl,i,hi,rfl,hc,r0,r1,r7,r8⟩
  simp only[go_sem,r7,r8];refine .intro (fun e=> ?_) (fun e=> ?_)
  ·have hlt:i<ms.length:=abF e
   have w1:IntKind.i64.wrap ((i:Int)+1)=((i+1:Nat):Int):=abV;have ix:=fun k=>fm.eq (xs:=ms.map aQ) (sz:=1) i abJ abY k
   rw[abz]at ix;have hg:=hp ms[i] (abD hlt);have hci:=fun(d:q ms[i]=false)=>(fun j (hj:j<i+1) (h2:j<ms.length)=>(by
    grind:q ms[j]=false))
   have hat:=fun(d:q ms[i]=true)=>nh hlt d fun j hj=>hc j hj abI
   obtain⟨m,em⟩:∃m,ms[i]=m:=⟨_,rfl⟩;rw[em]at ix hg hci hat;simp only[aQ]at ix;simp only[go_sem,r0,r1,r8,ix];refine(show ai Tryz.prog g (.v (.complex .f64 (hbit m.1) (hbit m.2))::cap) _ _ from hg).pthen ?_
   cases d1:q m
   ·simp only[go_sem,r8,w1]
    refine⟨_, ?_,rfl,i+1,abI,rfl,hci d1, ?_, ?_, ?_, ?_⟩
    ·omega
    all_goals simp only[go_sem,r0,r1,r7]
   ·simp only[go_sem]
    exact .same (.refl _) ⟨afJ,rfl⟩
  ·have hge:i=ms.length:=by grind
   simp only[go_sem];exact .same (.refl _) ⟨acd,rfl⟩
theorem EZ(ms:List aS)(hl:ms.length≤1000000000)(hmm:∀m∈ms,M9 m)(x:aS)(hx:M9 x)(p:Perm)(h:Heap):
  ai Tryz.prog 320 [jA ms p,aQ x] h fun r h' =>r= .i (ixD (fun y=>x==y) ms)∧h' =h:=by
 refine abH Tryz.func320 19 [.tmp 4] fun hwf=> ?_
 simp only[go_sem,jA,aby];refine .intro (fun m ρ h' =>h' =h∧∃i:Nat,i≤ms.length∧m=ms.length - i∧(∀j (hj:j<i) (h2:j<ms.length),(x==ms[j])=false)∧lk ρ 0=some (.sl (ms.map aQ) p)∧lk ρ 1=some (aQ x)∧lk ρ 7=some (.i ms.length)∧lk ρ 8=some (.i i)) ms.length ?_ ?_
 ·refine⟨rfl,0,abI,rfl,fun j hj=>abI, ?_, ?_, ?_, ?_⟩<;>simp only[go_sem]
 ·rintro m ρ h' ⟨rfl,i,hi,rfl,hc,r0,r1,r7,r8⟩
  simp only[go_sem,r7,r8];refine .intro (fun e=> ?_) (fun e=> ?_)
  ·have hlt:i<ms.length:=abF e
   have w1:IntKind.i64.wrap ((i:Int)+1)=((i+1:Nat):Int):=abV;have ix:=fun k=>fm.eq (xs:=ms.map aQ) (sz:=1) i abJ abY k
   rw[abz]at ix;have hm9:=hmm ms[i] (abD hlt);have hci:=fun(d:(x==ms[i])=false)=>(fun j (hj:j<i+1) (h2:j<ms.length)=>(by
    grind:(x==ms[j])=false))
   have hat:=fun(d:(x==ms[i])=true)=>nh (q:=fun y=>x==y) hlt d fun j hj=>hc j hj abI
   obtain⟨m,em⟩:∃m,ms[i]=m:=⟨_,rfl⟩;rw[em]at ix hm9 hci hat;simp only[aQ]at ix r1;have ne:=ye hx hm9;cases d1:(x==m)
   ·simp only[go_sem,r0,r1,r8,ix,ne,d1,w1]
    refine⟨_, ?_,rfl,i+1,abI,rfl,hci d1, ?_, ?_, ?_, ?_⟩
    ·omega
    all_goals simp only[go_sem,r0,r1,r7,aQ]
   ·simp only[go_sem,r0,r1,r8,ix,ne,d1]
    exact .same (.refl _) ⟨afJ,rfl⟩
  ·have hge:i=ms.length:=by grind
   simp only[go_sem];exact .same (.refl _) ⟨acd,rfl⟩
theorem ES(ms:List aS)(hl:ms.length≤1000000000)(hmm:∀m∈ms,M9 m)(x:aS)(hx:M9 x)(p:Perm)(h:Heap):
  ai Tryz.prog 309 [jA ms p,aQ x] h fun r h' =>r= .b (decide (x∈ms))∧h' =h:=by
 refine abH Tryz.func309 9 [.tmp 4] fun hwf=> ?_
 simp only[go_sem];refine(EZ ms hl hmm x hx p _).pthen ?_;simp only[go_sem];exact .same (.refl _) ⟨by rw[tW,show(ms.any fun y=>x==y)=decide (x∈ms) by grind];rfl,rfl⟩
theorem Ef(m:aS)(hmm:M9 m)(h:Heap):ai Tryz.prog 306 [aQ m] h fun r h' =>r= .b (!(m==naM))∧h' =h:=by
 have n:=(nb hmm).nna;refine abH Tryz.func306 5 [.tmp 2] fun hwf=> ?_
 simp only[go_sem,aQ,n];exact abU
theorem NQ(m:aS)(hmm:M9 m)(h:Heap):ai Tryz.prog 307 [aQ m] h fun r h' =>r= .b (yP m)∧h' =h:=by
 obtain⟨n1,n2,n3,_⟩:=nb hmm;refine abH Tryz.func307 13 [.tmp 2] fun hwf=> ?_
 have es:yP m=(m==naM||(m==bh||m==cF)):=by
  unfold yP
  grind
 rw[es];cases d1:(m==naM)<;>cases d2:(m==bh)<;>cases d3:(m==cF)
 all_goals
  simp only[go_sem,aQ,n1,n2,n3,d1,d2,d3];exact abU
theorem Kk(ms:List aS)(hl:ms.length≤1000000000)(hmm:∀m∈ms,M9 m)(p:Perm)(h:Heap):ai Tryz.prog 279 [jA ms p] h fun r h' =>r=aQ (firstM ms)∧h' =h:=by
 refine abH Tryz.func279 12 [.tmp 2] fun hwf=> ?_
 simp only[go_sem,jA];refine(Iw ms hl (fun m=> !(m==naM)) _ [] p _ fun m h=>Ef m (hmm m h) _).pthen ?_
 have hq:∀m:aS,(!(m==naM))=decide (m≠naM):=fun m=>abJ
 by_cases hx:ms.findIdx (fun m=> !(m==naM))<ms.length
 ·obtain⟨i,ei⟩:∃i,ms.findIdx (fun m=> !(m==naM))=i:=⟨_,rfl⟩
  have ef:=HQ hq hx;have e1:ixD (fun m=> !(m==naM)) ms=(i:Nat):=by rw[ixD,ei];omega
  simp only[ei]at ef;have d1:decide ((0:Int)≤((i:Nat):Int))=true:=decide_eq_true abI;have ix:=fun k=>fm.eq (xs:=ms.map aQ) (sz:=1) i abJ abY k
  rw[abz,←ef]at ix;rw[e1];simp only[go_sem,d1,ix];exact abU
 ·have e1:ixD (fun m=> !(m==naM)) ms= -1:=by simp_all [ixD,if_neg]
  have d1:decide ((0:Int)≤ -1)=false:=rfl;rw[e1];simp only[go_sem,d1];exact .same (.refl _) ⟨by rw[HR hq hx];rfl,rfl⟩
theorem LG(j m:aS)(hj:M9 j)(hmm:M9 m)(h:Heap):ai Tryz.prog 308 [.i 4,aQ j,aQ m] h fun r h' =>r=aQ (vN j m)∧h' =h:=by
 have n1:=(nb hj).na;have n2:=(nb hmm).nna;refine abH Tryz.func308 31 [.tmp 6] fun hwf=> ?_
 cases d1:(j==naM)
 case true=>
  simp only[go_sem,aQ,n1,d1];exact .same (.refl _) ⟨by rw[vN,if_pos abJ];rfl,rfl⟩
 cases d2:(m==naM)
 ·simp only[go_sem,aQ,n1,n2,d1,d2]
  exact .same (.refl _) ⟨by rw[vN,if_neg abJ,if_pos abJ];rfl,rfl⟩
 ·simp only[go_sem,aQ,n1,n2,d1,d2]
  exact .same (.refl _) ⟨by rw[vN,if_neg abJ,if_neg abJ];rfl,rfl⟩
theorem M9.step{j m:aS}(hj:M9 j)(hmm:M9 m):M9 (vN j m):=by
 unfold vN
 repeat' split
 ·omega
 ·decide
 omega
theorem Nu(ms:List aS)(hl:ms.length≤1000000000)(hmm:∀m∈ms,M9 m)(p:Perm)(h:Heap):ai Tryz.prog 280 [jA ms p] h fun r h' =>r=aQ (nJ ms naM)∧h' =h:=by
 refine abH Tryz.func280 20 [.tmp 2] fun hwf=> ?_
 simp only[go_sem,jA,aby];refine .intro (fun m ρ h' =>h' =h∧∃(i:Nat) (j:aS),i≤ms.length∧m=ms.length - i∧M9 j∧nJ (ms.drop i) j=nJ ms naM∧lk ρ 3=some (aQ j)∧lk ρ 6=some (.sl (ms.map aQ) p)∧lk ρ 7=some (.i ms.length)∧lk ρ 8=some (.i i)) ms.length ?_ ?_
 ·refine⟨rfl,0,naM,abI,rfl,.na,rfl, ?_, ?_, ?_, ?_⟩<;>simp only[go_sem,aQ,naM,hbit]
 ·rintro m ρ h' ⟨rfl,i,j,hi,rfl,hj,ho,r3,r6,r7,r8⟩
  simp only[go_sem,r7,r8];refine .intro (fun e=> ?_) (fun e=> ?_)
  ·have hlt:i<ms.length:=abF e
   have w1:IntKind.i64.wrap ((i:Int)+1)=((i+1:Nat):Int):=abV;have ix:=fun k=>fm.eq (xs:=ms.map aQ) (sz:=1) i abJ abY k
   rw[abz]at ix;have hm9:=hmm ms[i] (abD hlt);rw[K0 hlt]at ho;obtain⟨m,em⟩:∃m,ms[i]=m:=⟨_,rfl⟩;rw[em]at ix hm9 ho;have hsu:=fun G=>NQ m hm9 G
   have hst:=fun G=>LG j m hj hm9 G
   simp only[aQ]at ix hsu hst r3;simp only[go_sem,r6,r8,ix];refine(hsu _).pthen ?_;cases d1:yP m
   ·rw[if_pos d1]at ho
    simp only[go_sem];exact .same (.refl _) ⟨by rw[←ho];rfl,rfl⟩
   ·rw[if_neg abJ]at ho
    simp only[go_sem,r3];refine(hst _).pthen ?_;simp only[go_sem,r8,w1];refine⟨_, ?_,rfl,i+1,vN j m,abI,rfl,M9.step hj hm9,ho, ?_, ?_, ?_, ?_⟩
    ·omega
    all_goals simp only[go_sem,r6,r7,aQ]
  ·have hge:i=ms.length:=by grind
   subst hge;rw[List.drop_length]at ho;simp only[go_sem,r3];exact .same (.refl _) ⟨by rw[←ho];rfl,rfl⟩
theorem AU(ms:List aS)(hl:ms.length≤1000000000)(hmm:∀m∈ms,M9 m)(a b:aS)(hb:M9 b)(p:Perm)(h:Heap):ai Tryz.prog 281 [jA ms p,aQ a,aQ b] h fun r h' =>r=aQ (if b∈ms then b else a)∧h' =h:=by
 refine abH Tryz.func281 12 [.tmp 6] fun hwf=> ?_
 simp only[go_sem];refine(ES ms hl hmm b hb p _).pthen ?_
 by_cases d:b∈ms
 ·simp only[go_sem,decide_eq_true d,if_pos d]
  exact abU
 ·simp only[go_sem,decide_eq_false d,if_neg d]
  exact abU
theorem Pp(alg:Int)(ha:1≤alg∧alg≤6)(ms:List aS)(hl:ms.length≤1000000000)(hmm:∀m∈ms,M6 m)(p:Perm)(h:Heap):ai Tryz.prog 247 [.i alg,jA ms p] h fun r h' =>r= .tup [aQ (gM alg ms),.i 0]∧h' =h:=by
 have hm9:=fun m h=>(hmm m h).m9
 refine abH Tryz.func247 49 [.tmp 4,.tmp 5] fun hwf=> ?_
 simp only[go_sem,jA,aby];refine .intro (fun m ρ h' =>h' =h∧∃i:Nat,i≤ms.length∧m=ms.length - i∧M9 ((ms.take i).foldl nD naM)∧lk ρ 0=some (.i alg)∧lk ρ 1=some (.sl (ms.map aQ) p)∧lk ρ 6=some (aQ ((ms.take i).foldl nD naM))∧lk ρ 9=some (.sl (ms.map aQ) p)∧lk ρ 10=some (.i ms.length)∧lk ρ 11=some (.i i)) ms.length ?_ ?_
 ·refine⟨rfl,0,abI,rfl,.na, ?_, ?_, ?_, ?_, ?_, ?_⟩<;>simp only[go_sem,aQ,naM,hbit,List.take_zero,List.foldl_nil]
 ·rintro m ρ h' ⟨rfl,i,hi,rfl,hj,r0,r1,r6,r9,r10,r11⟩
  obtain⟨j,ej⟩:∃j,(ms.take i).foldl nD naM=j:=⟨_,rfl⟩;rw[ej]at hj r6;simp only[go_sem,r10,r11];refine .intro (fun e=> ?_) (fun e=> ?_)
  ·have hlt:i<ms.length:=abF e
   have w1:IntKind.i64.wrap ((i:Int)+1)=((i+1:Nat):Int):=abV;have ix:=fun k=>fm.eq (xs:=ms.map aQ) (sz:=1) i abJ abY k
   rw[abz]at ix;have hm6:=hmm ms[i] (abD hlt);have hsn:=BC ms i hlt;rw[ej]at hsn;obtain⟨m,em⟩:∃m,ms[i]=m:=⟨_,rfl⟩;rw[em]at ix hm6 hsn;have hri:=fun G=>BF m hm6 G
   have hjo:=fun G=>M4 j m hj hm6.m9 G
   simp only[aQ]at ix hri hjo r6;simp only[go_sem,r9,r11,ix];refine(hri _).pthen ?_;simp only[go_sem,r6];refine(hjo _).pthen ?_;simp only[go_sem,r11,w1];refine⟨_, ?_,rfl,i+1,abI,rfl,by grind [M9.join], ?_, ?_, ?_, ?_, ?_, ?_⟩
   ·omega
   all_goals simp only[go_sem,r0,r1,r9,r10,aQ,hsn]
  ·have hge:i=ms.length:=by grind
   subst hge;rw[List.take_length]at ej;have ej' :wC ms=j:=ej;have hov:=fun G=>GC j hj G
   have htu:=fun(x:aS) (G:Heap)=>NT x G
   have hov2:=fun G=>GC (DX j) ⟨hj.2,hj.1⟩ G
   have h1:=Kk ms hl hm9 p;have h2:=Nu ms hl hm9 p;have h3:=AU ms hl hm9 cF bh abL p;have h4:=AU ms hl hm9 bh cF abL p;simp only[jA]at h1 h2 h3 h4;rcases(show alg=1∨alg=2∨alg=3∨alg=4∨alg=5∨alg=6 by omega)with rfl|rfl|rfl|rfl|rfl|rfl
   ·simp only[go_sem,r0,r6]
    refine(hov _).pthen ?_;simp only[go_sem];exact .same (.refl _) ⟨by simp only[gM,ej',if_true];rfl,rfl⟩
   ·simp only[go_sem,r0,r6]
    refine(htu _ _).pthen ?_;simp only[go_sem];refine(hov2 _).pthen ?_;simp only[go_sem];refine(htu _ _).pthen ?_;simp only[go_sem];exact .same (.refl _) ⟨by simp only[gM,ej'];rfl,rfl⟩
   ·simp only[go_sem,r0,r1]
    refine(h1 _).pthen ?_;exact age
   ·simp only[go_sem,r0,r1]
    refine(h2 _).pthen ?_;exact age
   ·simp only[go_sem,r0,r1]
    refine(h3 _).pthen ?_;exact ahv
   ·simp only[go_sem,r0,r1]
    refine(h4 _).pthen ?_;exact ahv
end Go.Proofs.YtcochaoekecfdaaGreatDoor
