/- The law TopLog,TopTampered: pack 5 of its texts. -/
import Derived.Test.YtelkmnkejghkeaaGreatDoorPk1
import Derived.Test.YtelkmnkejghkeaaGreatDoorPk2
import Derived.Test.YtelkmnkejghkeaaGreatDoorPk3
import Derived.Test.YtelkmnkejghkeaaGreatDoorPk4
set_option linter.unusedSimpArgs false
set_option linter.unusedVariables false
set_option maxRecDepth 100000
namespace Go.Bf
open Go Go.Ab
def jc(cat:Int)(name:Txt)(g:bt):Bool:=g.cat==cat && g.name==name
def getD(l:List bt)(cat:Int)(name:Txt):List bu:=match l.find? (jc cat name)with
 |some g=>g.bag
 |none=>[]
end Go.Bf
namespace Go.Proofs.YtelkmnkejghkeaaGreatDoor
open Go Go.Ab Go.Bf Tryz
variable {cat:Int}{name:Txt}{gs:List bt}
theorem MU{α:Type}(y:AV)(xs:List AV)(ds:List α)(q:α→Bool)(g:FuncId)(cap:List AV)(h:Heap)(hb:Rd h 3 y xs)(hn:xs.length=ds.length)(hl:xs.length≤1000000000)(hx:∀x∈xs,bA x=true)
  (hp:∀i (h1:i<xs.length) (h2:i<ds.length),ai prog g (xs[i]::cap) h fun r h' =>r= .b (q ds[i])∧h' =h):
  ai prog 306 [y,.fn g cap] h fun r h' =>r= .i (ixD q ds)∧h' =h:=by
 refine aeB func306 19 [.tmp 4] fun hwf=>?_
 simp only[go_sem,hb.len];refine .intro (fun m ρ h' =>h' =h∧∃i:Nat,i≤xs.length∧m=xs.length - i∧(∀j (hj:j<i) (h2:j<ds.length),q ds[j]=false)∧lk ρ 0=some y∧lk ρ 1=some (.fn g cap)∧lk ρ 7=some (.i xs.length)∧lk ρ 8=some (.i i)) xs.length ?_ ?_
 ·refine⟨rfl,0,aeC,rfl,fun j hj=>aeC,?_,?_,?_,?_⟩<;>simp only[go_sem]
 ·rintro m ρ h' ⟨rfl,i,hi,rfl,hc,r0,r1,r7,r8⟩
  simp only[go_sem,r7,r8];refine .intro (fun e=>?_) (fun e=>?_)
  ·have hlt:i<xs.length:=aez e
   have hlt2:i<ds.length:=aeC;have w1:IntKind.i64.wrap ((i:Int)+1)=((i+1:Nat):Int):=aeN;simp only[go_sem,r0,r1,r8];refine hb.idx (e:=177) i rfl hlt aeR aeG fun p hp1=>?_
   have hld:=hp1.all (U:=U) (ty:=177) aeG afy agt;simp only[go_sem,hld];refine(show ai prog g (xs[i]::cap) _ _ from hp i hlt hlt2).pthen ?_
   cases d1:q ds[i]
   ·simp only[go_sem,r8,w1]
    refine⟨_,?_,rfl,i+1,aeC,rfl,fun j hj h2=>?_,?_,?_,?_,?_⟩
    ·omega
    ·grind
    all_goals simp only[go_sem,r0,r1,r7]
   ·simp only[go_sem]
    exact .same (.refl _) ⟨afm,rfl⟩
  ·have hge:i=xs.length:=by grind
   simp only[go_sem];exact .same (.refl _) ⟨ae7,rfl⟩
theorem KN{h:Heap}(g:bt){k1 k2:Nat}(h1:h k1=some (.obj [.i cat] 3))(h2:h k2=some (.obj [.s name] 9)):ai prog 307 [lO g,.ptr k1 0,.ptr k2 0] h fun r h' =>r= .b (jc cat name g)∧h' =h:=by
 refine aeB func307 15 [.tmp 4] fun hwf=>?_
 simp only[go_sem,lO];intro i1 hi1;have n1:k1≠i1:=fun e=>aeD
 have n2:k2≠i1:=fun e=>aeD
 simp only[go_sem,ak,n1,h1];cases d1:(g.cat==cat)
 ·simp only[go_sem]
  exact .mk _ (.refl _) (.aj hi1) ⟨by simp only[jc,d1];rfl,rfl⟩
 ·simp only[go_sem,ak,n2,h2]
  exact .mk _ (.refl _) (.aj hi1) ⟨by simp only[jc,d1];rfl,rfl⟩
theorem NP(gs:List bt)(cat:Int)(name:Txt)(hl:gs.length≤1000000000)(h:Heap):ai prog 284 [bJ gs,.i cat,.s name] h fun r h' =>r= .i (ixD (jc cat name) gs)∧h' =h:=by
 refine aeB func284 10 [.tmp 6] fun hwf=>?_
 simp only[go_sem,bJ];intro i1 h1;simp only[go_sem];intro i2 h2;have n2:=aB h2;have hs:∀a b,Ab.Sub h (upd (upd h i1 a) i2 b):=fun a b=>((Sub.refl h).put h1 a).put n2 b
 simp only[go_sem];refine(MU _ _ gs (jc cat name) _ [.ptr i1 0,.ptr i2 0] _ (eE lO 3 (fun _=>rfl) _ gs) aeJ aeD (pH (fun _=>rfl) _) fun i a b=>by
  rw[aet];exact KN _ (by grind [ag,ah]) (ah ..)).pthen ?_
 simp only[go_sem];exact agf
theorem get_at(h:gs.findIdx (jc cat name)<gs.length):getD gs cat name=gs[gs.findIdx (jc cat name)].bag:=by unfold getD;rw[show gs.find? (jc cat name)=some gs[gs.findIdx (jc cat name)]from List.find?_eq_some_iff_getElem.2 ⟨List.findIdx_getElem (w:=h),_,h,rfl,fun j hj=>aeD⟩]
theorem S1(h:¬gs.findIdx (jc cat name)<gs.length):getD gs cat name= []:=by grind [getD,jc,List.findIdx_le_length,List.find?_eq_none,List.findIdx_eq_length]
end Go.Proofs.YtelkmnkejghkeaaGreatDoor
namespace Go.Bf
open Go Go.Ab
variable {c:aM}{cs:List aM}{f:cM}{fs:List cM}{name:Txt}{v:bu}
def two(a:UInt8)(n:Nat):Txt:=[a,(97+n).toUInt8]
def cT:Txt:=[99]
def stC(st:Txt)(log:List yj):aM:=⟨cT,Yu,st,[],log⟩
def qg:List Txt:=[jV,xD,Bb,ij]
abbrev lt(a b:Txt):Prop:=Op.bytesLess a b=true
theorem lt_irrefl:∀a:Txt,¬lt a a
 | []=>aeG
 |a::x=>by
  have:=lt_irrefl x;simp only[lt,Op.bytesLess,Bool.or_eq_true,Bool.and_eq_true,decide_eq_true_eq,beq_self_eq_true,true_and,not_or];exact⟨UInt8.lt_irrefl a,this⟩
theorem lt_trans:∀ {a b c:Txt},lt a b→lt b c→lt a c
 |_,[],_,h,_=>by simp_all [Txt,lt,Op.bytesLess]
 | [],b::y,c,_,h=>by cases c<;>simp[lt,Op.bytesLess]at h⊢
 |a::x,b::y,[],_,h=>by simp[lt,Op.bytesLess]at h
 |a::x,b::y,c::z,h1,h2=>by
  simp only[lt,Op.bytesLess,Bool.or_eq_true,Bool.and_eq_true,decide_eq_true_eq,beq_iff_eq]at h1 h2⊢;rcases h1 with h1|⟨rfl,h1⟩
  ·grind
  ·rcases h2 with h2|⟨rfl,h2⟩
   ·grind
   ·exact .inr ⟨rfl,lt_trans h1 h2⟩
theorem Bw:∀a b:Txt,lt a b∨a=b∨lt b a
 | [],[]=>aeJ
 | [],b::y=> .inl rfl
 |a::x,[]=> .inr (.inr rfl)
 |a::x,b::y=>by
  simp only[lt,Op.bytesLess,Bool.or_eq_true,Bool.and_eq_true,decide_eq_true_eq,beq_iff_eq];rcases UInt8.lt_or_lt_of_ne (a:=a) (b:=b)with h
  by_cases e:a=b
  ·subst e
   rcases Bw x y with h|rfl|h
   ·grind
   ·simp
   grind
  grind
def Asc(cs:List aM):Prop:=cs.Pairwise fun a b=>lt a.id b.id
theorem Il{id:Txt}(h:¬lt c.id id):findD (c::cs) id=0:=by simp_all [Op.bytesLess,false,findD,List.findIdx_cons,geB]
theorem Im{id:Txt}(h:lt c.id id):findD (c::cs) id=findD cs id+1:=by simp_all [Op.bytesLess,true,findD,List.findIdx_cons,geB]
theorem vZ:∀ {cs:List aM},Asc cs→∀id,bZ cs id=cs.any fun c=>c.id==id
 | [],_,id=>rfl
 |c::cs,h,id=>by
  obtain⟨h1,h2⟩:=List.pairwise_cons.1 h
  by_cases hl:lt c.id id
  ·have hne:(c.id==id)=false:=by
    grind [beq_eq_false_iff_ne,lt_irrefl]
   have e:bZ (c::cs) id=bZ cs id:=by
    grind [bZ,Im]
   rw[e,vZ h2 id,List.any_cons,hne,Bool.false_or]
  ·have e:bZ (c::cs) id=(c.id==id):=by
    grind [bZ,Il]
   rw[e,List.any_cons];cases hc:(c.id==id)
   ·have hlt:lt id c.id:=by
     rcases Bw c.id id with h|h|h
     ·grind
     ·grind
     omega
    grind
   ·simp
theorem HX:∀ {cs:List aM},Asc cs→∀c:aM,(cs.any fun d=>d.id==c.id)=false→Asc (cs.take (findD cs c.id)++ [c]++cs.drop (findD cs c.id))
 | [],_,c,_=>by simp[Asc,findD]
 |d::cs,h,c,hn=>by
  obtain⟨h1,h2⟩:=List.pairwise_cons.1 h;simp only[List.any_cons,Bool.or_eq_false_iff]at hn
  by_cases hl:lt d.id c.id
  ·rw[Im hl]
   simp only[List.take_succ_cons,List.drop_succ_cons,List.cons_append];refine List.pairwise_cons.2 ⟨fun e he=>?_,HX h2 c hn.2⟩
   grind
  ·rw[Il hl]
   have hlt:lt c.id d.id:=by
    rcases Bw d.id c.id with h|h|h
    ·grind
    ·grind
    omega
   refine List.pairwise_cons.2 ⟨fun e he=>?_,h⟩
   rcases List.mem_cons.1 he with rfl|he
   ·omega
   grind [lt_trans]
def FH(fs:List cM):Prop:=fs.Pairwise fun a b=>lt a.name b.name
theorem B8(name:Txt)(v:bu):eO [] name v= [⟨name,v⟩]:=rfl
theorem Aq(h:lt f.name name):eO (f::fs) name v=f::eO fs name v:=by
 have hb:Op.bytesLess f.name name=true:=h;unfold eO;simp only[List.findIdx_cons,geB,hb,Bool.not_true,cond_false,List.getElem?_cons_succ];generalize hi:fs.findIdx (fun f=> !Op.bytesLess f.name name)=i
 cases e:fs[i]? with
 |none=>simp
 |some g=>
  by_cases hg:g.name=name
  ·simp[hg]
  ·simp[hg]
theorem Ao(h:f.name=name):eO (f::fs) name v=⟨f.name,v⟩::fs:=by
 subst h;have hb:Op.bytesLess f.name f.name=false:=by
  grind [Op.bytesLess,lt_irrefl]
 unfold eO;simp[List.findIdx_cons,geB,hb]
theorem Ap(h:lt name f.name):eO (f::fs) name v=⟨name,v⟩::f::fs:=by
 have hb:Op.bytesLess f.name name=false:=by
  grind [Op.bytesLess,lt_irrefl,lt_trans]
 have hne:f.name≠name:=fun e=>by rw[e]at h;exact lt_irrefl _ h
 unfold eO;simp[List.findIdx_cons,geB,hb,hne]
theorem wj:∀ {fs:List cM} {name:Txt} {v:bu} {g:cM},g∈eO fs name v→g=⟨name,v⟩∨g∈fs
 | [],name,v,g,h=>by grind [B8,List.mem_singleton]
 |f::fs,name,v,g,h=>by
  rcases Bw f.name name with hl|hl|hl
  ·rw[Aq hl]at h
   rcases List.mem_cons.1 h with rfl|h
   ·simp
   ·rcases wj h with h|h
    ·grind
    grind
  ·rw[Ao hl]at h
   grind
  ·rw[Ap hl]at h
   grind
theorem B6:∀ {fs:List cM} {name:Txt} {v:bu},FH fs→FH (eO fs name v)
 | [],name,v,_=>by grind [B8,FH]
 |f::fs,name,v,h=>by
  obtain⟨h1,h2⟩:=List.pairwise_cons.1 h;rcases Bw f.name name with hl|hl|hl
  ·rw[Aq hl]
   refine List.pairwise_cons.2 ⟨fun g hg=>?_,B6 h2⟩
   rcases wj hg with rfl|hg
   ·omega
   grind
  ·rw[Ao hl]
   exact List.pairwise_cons.2 ⟨h1,h2⟩
  ·rw[Ap hl]
   refine List.pairwise_cons.2 ⟨fun g hg=>?_,h⟩
   rcases List.mem_cons.1 hg with rfl|hg
   ·omega
   grind [lt_trans]
theorem B7:∀ {fs:List cM} {name:Txt} {v:bu},FH fs→(eO fs name v).length=if fs.any (fun f=>f.name==name)then fs.length else fs.length+1
 | [],name,v,_=>rfl
 |f::fs,name,v,h=>by
  obtain⟨h1,h2⟩:=List.pairwise_cons.1 h;rcases Bw f.name name with hl|hl|hl
  ·have hne:(f.name==name)=false:=by grind [beq_eq_false_iff_ne,lt_irrefl]
   rw[Aq hl,List.length_cons,B7 h2,List.any_cons,hne,Bool.false_or];split<;>simp
  ·grind [Ao]
  ·have hne:(f.name==name)=false:=by grind [beq_eq_false_iff_ne,lt_irrefl]
   have hno:(fs.any fun f=>f.name==name)=false:=List.any_eq_false.2 fun g hg he=>by
    have:=lt_trans hl (h1 g hg);rw[beq_iff_eq.1 he]at this;exact lt_irrefl _ this
   rw[Ap hl,List.any_cons,hne,hno];simp
theorem Gd(f:cM)(fs:List cM)(n:Txt):dU (f::fs) n=if f.name=n then f.val else dU fs n:=by grind [dU]
def mkC(who id:Txt):aM:=⟨id,who,jV,[],[⟨0,who,[110,101,119]⟩]⟩
def Y0(cs:List aM)(id:Txt):Bool:=cs.any fun c=>c.id==id
end Go.Bf
namespace Go.Ab
open Go
section
variable {α : Type}
def dget(l:List (List UInt8×α))(k:List UInt8):Option α:=(l.find? fun p=>p.1==k).map (·.2)
def dset(l:List (List UInt8×α))(k:List UInt8)(v:α):List (List UInt8×α):=if(dget l k).isSome then l.map (fun p=>if p.1==k then(p.1,v)else p)else l++ [(k,v)]
end
end Go.Ab
namespace Go.Bf
open Go Go.Ab Go.Proofs.YtelkmnkejghkeaaGreatDoor
structure Own (cs:List aM) (own:List (Txt×Txt)):Prop where
 asc:Asc cs
 len:cs.length=own.length
 small:cs.length≤64
 mem:∀c∈cs,c=mkC c.owner c.id∧dget own c.id=some c.owner
 has:∀id,Y0 cs id=(dget own id).isSome
 who:∀id w,dget own id=some w→w≠ []
 keys:∀p∈own,p.1.length≤3
theorem qS:∀ {cs:List aM},Asc cs→∀ {id:Txt},bZ cs id=true→bw cs id∈cs∧(bw cs id).id=id:=by
 unfold bw
 grind [bZ,List.getElem?_eq_getElem]
end Go.Bf
namespace Go.Proofs.YtelkmnkejghkeaaGreatDoor
open Go Go.Ab Go.Bf Tryz
def oC(o:OpD):Prop:=i64 o.kind∧i64 o.val.kind∧i64 o.val.n∧i64 o.review
theorem inH{P:Program}{f:FuncId}{args:List AV}{h:Heap}{Q:AV→Heap→Prop}(hh:∀H2,H2=h→ai P f args H2 Q):ai P f args h Q:=hh h rfl
end Go.Proofs.YtelkmnkejghkeaaGreatDoor
namespace Go.Bf
open Go Go.Ab Go.Proofs.YtelkmnkejghkeaaGreatDoor
def Y1(v:Int):bu:=⟨2,v,[]⟩
structure Last (fs:List cM) (last:List (Txt×Int)):Prop where
 asc:FH fs
 len:fs.length=last.length
 small:fs.length≤16
 kind:∀f∈fs,f.val.kind=2
 get:∀n,dU fs n=((dget last n).map Y1).getD aq
 keys:∀p∈last,p.1.length=2
end Go.Bf
namespace Go.Bf
open Go Go.Ab
variable {n:Nat}{st a:PS}{s:Txt}{ts:List qC}
def Fine(n:Nat)(st:PS):Prop:=(st.bad=0∨st.bad=5∨st.bad=6)∧0≤st.place∧st.place≤n
def B9(n:Nat)(ts:List qC):Prop:=∀i,0≤(ts.getD i ⟨7,0,0,[]⟩).pos∧(ts.getD i ⟨7,0,0,[]⟩).pos≤n
theorem yU{e p:Int}(h:Fine n st)(he:e=5∨e=6)(h0:0≤p)(h1:p≤n):Fine n (bH st e p):=by
 unfold bH;split
 ·exact⟨.inr he,h0,h1⟩
 omega
theorem DV{b:PS}(h:Rch a b)(ht:B9 n a.ts)(hf:Fine n a):Fine n b:=by
 induction h with
 |refl=>omega
 |wrong e p h1 he hp ih=>
  obtain⟨i,_,rfl⟩:=hp;rw[(sn h1).1];exact yU ih he (ht i).1 (ht i).2
 |next _ _ _ ih=>exact ih
theorem I3{b:PS}(h:oD a b):b.ts=a.ts:=by
 induction h with
 |refl=>rfl
 |small _ h1 ih=>grind [sn,trans]
 |rule _ _ _ _ ih=>exact ih
theorem JW{b:PS}(h:oD a b)(ht:B9 n a.ts)(hf:Fine n a):Fine n b:=by
 induction h with
 |refl=>omega
 |small h1 h2 ih=>grind [DV,I3]
 |rule _ _ _ _ ih=>exact ih
theorem zb(h:pR s= .ok ts):B9 s.length ts:=by
 obtain⟨pre,rfl,_,h3,_⟩:=Bs h;intro i
 grind
theorem MI(h:pR s= .ok ts):Fine s.length (qE s (gQ 4 ⟨ts,0,0,0,0⟩)):=by
 have h0:Fine s.length ⟨ts,0,0,0,0⟩:=⟨.inl rfl,Int.le_refl _,aeJ⟩;have hr:=CW 4 ⟨ts,0,0,0,0⟩;have h1:=JW hr (zb h) h0;have ht:B9 s.length (gQ 4 ⟨ts,0,0,0,0⟩).2.ts:=by rw[I3 hr];exact zb h
 have h2:Fine s.length (if(aL (gQ 4 ⟨ts,0,0,0,0⟩).2).kind=7 then(gQ 4 ⟨ts,0,0,0,0⟩).2 else br (gQ 4 ⟨ts,0,0,0,0⟩).2):=by
  grind [DV,kZ]
 unfold qE;generalize (if(aL (gQ 4 ⟨ts,0,0,0,0⟩).2).kind=7 then(gQ 4 ⟨ts,0,0,0,0⟩).2 else br (gQ 4 ⟨ts,0,0,0,0⟩).2)=st1 at h2⊢
 split
 ·exact yU h2 (.inl rfl) aeC (Int.le_refl _)
 ·exact aiJ
theorem rF(s:Txt):(aQ s).2.1=0∧(aQ s).2.2=0∧gK (aQ s).1=0∨
  ((aQ s).2.1=5∨(aQ s).2.1=6)∧0≤(aQ s).2.2∧(aQ s).2.2≤s.length∧(aQ s).1=pE:=by
 unfold aQ;cases h:pR s with
 |bad e a=>
  have:=ur h;exact .inr ⟨this.1,this.2.1,this.2.2,rfl⟩
 |ok ts=>
  have hf:=MI h;simp only[zF];split
  ·rename_i hb
   refine .inl ⟨rfl,rfl,?_⟩;simp only;unfold qE at hb;generalize (if(aL (gQ 4 ⟨ts,0,0,0,0⟩).2).kind=7 then(gQ 4 ⟨ts,0,0,0,0⟩).2 else br (gQ 4 ⟨ts,0,0,0,0⟩).2)=st1 at hb
   split at hb
   ·simp_all [bH,if_pos,absurd,Int]
   omega
  ·rename_i hb
   exact .inr ⟨hf.1.resolve_left hb,hf.2.1,hf.2.2,rfl⟩
end Go.Bf
namespace Go.Bf
open Go Go.Ab Go.Proofs.YtelkmnkejghkeaaGreatDoor
variable {k:Nat}{s:an}{o:OpD}{cs:List aM}{c:aM}
theorem rN{p:bD}(h:gK p=0):mM 1 p:=by
 cases hw:kY ⟨[],0⟩ 1 p with
 |bad e=>
  have:=uJ 4 1 _ _ e rfl hw;rw[gK,hw]at h;exact(this h).elim
 |ok m=>grind [IX]
theorem Sr{fs:List cM}(h:∀f∈fs,eqV f.val aq=false)(n:Txt):(fs.any fun f=>f.name==n)= !(eqV (dU fs n) aq):=by
 induction fs with
 |nil=>rfl
 |cons f fs ih=>
  rw[Gd,List.any_cons]
  grind
structure vf (c:aM):Prop where
 id:bp c.id=true
 owner:bp c.owner=true
 state:c.state∈qg
 asc:FH c.fields
 nfields:c.fields.length≤16
 field:∀f∈c.fields,bp f.name=true∧bz f.val=true∧eqV f.val aq=false
 log1:1≤c.log.length
 log2:c.log.length≤256
 actor:∀x∈c.log,bp x.actor=true∧i64 x.tick
structure dI (k:Nat) (s:an):Prop where
 tick:0≤s.tick∧s.tick≤1099511627776
 asc:Asc s.cases
 ncases:s.cases.length≤64
 case:∀c∈s.cases,vf c
 nrev:s.reviews.length≤1000
 nnot:s.notices.length≤1000
 roles:s.roles.length≤64
 role:∀r∈s.roles,bp r.subj=true∧bp r.role=true
 pol:gK s.policy=0
 ver:0≤s.version∧s.version≤k
theorem dI.few(h:dI k s):Few s:=by
 have h1:=h.ncases;have h2:=h.nrev;have h3:=h.nnot;have h4:=h.roles;refine⟨aeC,fun c hc=>?_,fun c hc=>?_,aeC,aeC,aeC⟩
 ·have:=(h.case c hc).nfields;omega
 ·have:=(h.case c hc).log2;omega
theorem dI.mM(h:dI k s):mM 1 s.policy:=rN h.pol
theorem dI.HF(h:dI k s):i64 s.tick:=by have:=h.tick;constructor<;>omega
theorem Li:dI 0 th:=by refine⟨aeG,.nil,aeG,fun c h=>afs,aeG,aeG,aeG,fun r h=>afs,aeR,aeG⟩
theorem kV{s:Txt}(h:jn s=true)(hn:s≠ []):bp s=true:=by simp_all [jn,Bool.or_eq_true,beq_iff_eq]
structure R7 (o:OpD):Prop where
 subj:bp o.subj=true
 kind:1≤o.kind∧o.kind≤8
 case:jn o.case=true
 field:jn o.field=true
 to:jn o.to=true
 val:eqV o.val aq=true∨bz o.val=true
 text:o.text.length≤4096
 ok:okD o=true
theorem ug(h:cN o=true):R7 o:=by simp only[cN,Bool.and_eq_true,decide_eq_true_eq,Bool.or_eq_true,dW]at h;obtain⟨⟨⟨⟨⟨⟨⟨h1,h2⟩,h3⟩,h4⟩,h5⟩,h6⟩,h7⟩,⟨⟨h8,h9⟩,h10⟩,h11⟩:=h;exact⟨h1,⟨h8,h9⟩,h4,h5,h6,h7,h3,h10⟩
theorem yV{a b:Txt}(h:nq a b=true):b∈qg:=by
 unfold nq at h;simp only[qg,List.mem_cons,List.not_mem_nil,or_false]
 grind
theorem mem_modify{α:Type}{l:List α}{i:Nat}{f:α→α}{x:α}(h:x∈l.modify i f):x∈l∨∃hi:i<l.length,x=f l[i]:=by
 obtain⟨j,hj,rfl⟩:=List.mem_iff_getElem.1 h
 grind
theorem kW{α β:Type}{l:List α}{i:Nat}{f:α→α}{g:α→β}(h:∀x,g (f x)=g x):(l.modify i f).map g=l.map g:=by
 refine List.ext_getElem aeJ fun j h1 h2=>?_
 grind
theorem Cl{cs':List aM}(h:cs'.map (·.id)=cs.map (·.id))(ha:Asc cs):Asc cs' :=by
 unfold Asc at*;have h1:(cs.map (·.id)).Pairwise lt:=aeD
 rw[←h,List.pairwise_map]at h1;exact h1
theorem Qe{i:Nat}{d:aM}(h:d∈cs.take i++ [c]++cs.drop i):d=c∨d∈cs:=by grind
theorem Ol(hs:dI k s)(hr:bI s o=0):dI (k+1) (doD aQ s o):=by
 have hf:cN o=true:=by
  unfold bI at hr
  grind
 have F:=ug hf;have vk:0≤s.version∧s.version≤((k+1:Nat):Int):=⟨hs.ver.1,by have:=hs.ver.2;omega⟩
 unfold bI at hr;rw[hf]at hr;simp only[Bool.true_eq_false,if_false]at hr;have hok:=F.ok;unfold okD at hok;have t64:=hs.HF;unfold doD
 by_cases k1:o.kind=1
 ·simp only[k1,if_true]at hr hok⊢
  have hno:bZ s.cases o.case=false:=by
   grind
  rw[hno]at hr;simp only[Bool.false_eq_true,if_false]at hr;have hlt:¬64≤s.cases.length:=fun h=>ait
  have hc:bp o.case=true:=kV F.case aeD;rw[vZ hs.asc]at hno;refine {hs with asc:= ?_,ncases:= ?_,case:= ?_,ver:=vk}
  ·exact HX hs.asc (jG s ⟨o.case,o.subj,jV,[],[]⟩ o.subj [110,101,119]) hno
  ·grind
  ·intro c h
   rcases Qe h with rfl|h
   ·exact⟨hc,F.subj,by simp[jG,qg],.nil,aiL,fun f h=>afs,aiL,aiL,fun x h=>by
     simp only[jG,List.nil_append,List.mem_singleton]at h;subst h;exact⟨F.subj,t64⟩⟩
   ·exact hs.case c h
 ·simp only[k1,if_false]at hr hok⊢
  by_cases k3:o.kind=3
  ·have hk:2≤o.kind∧o.kind≤4:=by omega
   simp only[hk,and_self,if_true]at hr;simp only[k3,if_true];have e2:¬(o.kind=2∨o.kind=6):=aeC;simp only[k3,if_true,show¬((3:Int)=2∨(3:Int)=6) by decide,if_false,Bool.and_eq_true,Bool.not_eq_true']at hok
   have hth:bZ s.cases o.case=true:=by
    unfold bT at hr
    grind
   unfold bT at hr;rw[hth]at hr;simp only[Bool.true_eq_false,if_false,k3,true_and]at hr;obtain⟨hm,hid⟩:=qS hs.asc hth;have hlt:=jW hth;have hce:bw s.cases o.case=s.cases[findD s.cases o.case]:=by
    simp_all [bw,if_pos]
   rw[hce]at hr hm;generalize hcc:s.cases[findD s.cases o.case]=c at hr hm;have hc:=hs.case c hm;have h16:¬(c.fields.length≥16∧eqV (dU c.fields o.field) aq=true):=fun h=>by simp[h.1,h.2]at hr
   rw[if_neg h16]at hr;have hlg:¬c.log.length≥256:=fun h=>ait
   have hnf:bp o.field=true:=kV F.field aeD;have hvz:eqV o.val aq=false:=hok.2;have hv:bz o.val=true:=F.val.resolve_left aeD;refine {hs with asc:= ?_,ncases:= ?_,case:= ?_,ver:=vk}
   ·exact Cl (kW fun x=>rfl) hs.asc
   ·simpa using hs.ncases
   ·intro d hd
    rcases mem_modify hd with hd|⟨hi,rfl⟩
    ·exact hs.case d hd
    ·rw[hcc]
     have hany:=Sr (fun f hf=>(hc.field f hf).2.2) o.field
     have hlen:=B7 (v:=o.val) (name:=o.field) hc.asc;refine⟨hc.id,hc.owner,hc.state,B6 hc.asc,?_,?_,aiL,?_,?_⟩
     ·simp only[jG]
      rw[hlen,hany];have:=hc.nfields;cases he:eqV (dU c.fields o.field) aq
      ·simp;omega
      ·rw[he]at h16;simp at h16⊢;omega
     ·intro f hf
      rcases wj hf with rfl|hf
      ·grind
      ·exact hc.field f hf
     ·grind [jG,aew,List.length_singleton]
     ·intro x hx
      exact ajU
  ·simp only[k3,if_false]at hok⊢
   by_cases k4:o.kind=4
   ·have hk:2≤o.kind∧o.kind≤4:=by omega
    simp only[hk,and_self,if_true]at hr;simp only[k4,if_true];have hth:bZ s.cases o.case=true:=by
     unfold bT at hr
     grind
    unfold bT at hr;rw[hth]at hr;simp only[Bool.true_eq_false,if_false,k4]at hr;obtain⟨hm,hid⟩:=qS hs.asc hth;have hlt:=jW hth;have hce:bw s.cases o.case=s.cases[findD s.cases o.case]:=by
     simp_all [bw,if_pos]
    rw[hce]at hr hm;generalize hcc:s.cases[findD s.cases o.case]=c at hr hm;have hc:=hs.case c hm;simp only[show¬((4:Int)=3) by decide,false_and,if_false,show((4:Int)≠2) by decide,ne_eq,not_false_eq_true,true_and,false_or]at hr
    have hlg:¬c.log.length≥256:=fun h=>ait
    rw[if_neg hlg]at hr;have hfo:nq c.state o.to=true:=by
     grind
    refine {hs with asc:= ?_,ncases:= ?_,case:= ?_,ver:=vk}
    ·exact Cl (kW fun x=>rfl) hs.asc
    ·simpa using hs.ncases
    ·intro d hd
     rcases mem_modify hd with hd|⟨hi,rfl⟩
     ·exact hs.case d hd
     ·rw[hcc]
      refine⟨hc.id,hc.owner,yV hfo,hc.asc,hc.nfields,hc.field,aiL,?_,?_⟩
      ·grind [jG,aew,List.length_singleton]
      ·intro x hx
       exact ajU
   ·simp only[k4,if_false]at hok⊢
    by_cases k5:o.kind=5
    ·simp only[k5,if_true]
     refine {hs with nrev:= ?_,ver:=vk}
     simpa using hs.nrev
    ·simp only[k5,if_false]at hok⊢
     by_cases k6:o.kind=6
     ·have hk:¬(2≤o.kind∧o.kind≤4):=by omega
      simp only[k6,if_true]at hr;simp only[k6,if_true];simp only[k6,or_true,if_true,Bool.and_eq_true]at hok;have hc:bp o.case=true:=kV F.case aeD;have hfd:bp o.field=true:=kV F.field aeD;cases hh:yZ s.roles ⟨o.case,o.field⟩with
      |true=>simp only[if_true];exact {hs with ver:=vk}
      |false=>
       rw[hh]at hr;have hlt:¬s.roles.length≥64:=fun h=>ait
       simp only[Bool.false_eq_true,if_false];refine {hs with roles:= ?_,role:= ?_,ver:=vk}
       ·grind
       ·intro r h
        rcases List.mem_append.1 h with h|h
        ·exact hs.role r h
        grind
     ·simp only[k6,if_false]
      by_cases k7:o.kind=7
      ·simp only[k7,if_true]
       by_cases hp:(aQ o.text).2.1=0
       ·simp only[hp,if_true]
        have hr0:gK (aQ o.text).1=0:=by
         grind [rF,absurd]
        refine {hs with pol:=hr0,ver:= ?_}
        have:=hs.ver;constructor
        ·grind
        grind
       ·simp only[hp,if_false]
        exact {hs with ver:=vk}
      ·simp only[k7,if_false]
       by_cases k8:o.kind=8
       ·simp only[k8,if_true]
        have hk:¬(2≤o.kind∧o.kind≤4):=aeC;simp only[k8,if_true]at hr;have hlt:¬s.tick>1099511627776 - o.review:=fun h=>ait
        simp only[k8,show¬((8:Int)=2∨(8:Int)=6) by decide,if_false,if_true,Bool.and_eq_true,decide_eq_true_eq]at hok
        refine {hs with tick:= ?_,ver:=vk}
        have:=hs.tick;constructor
        ·grind
        grind
       ·simp only[k8,if_false]
        exact {hs with ver:=vk}
theorem qj(o:OpD)(hs:dI k s):dI (k+1) (cR aQ s o):=by
 unfold cR
 by_cases h:bI s o=0
 ·simp_all [if_pos,Ol]
 ·rw[if_neg h]
  exact {hs with ver:=⟨hs.ver.1,by have:=hs.ver.2;omega⟩}
theorem dR.eq{xs:List AV}{sz:Nat}(j:Nat)(hj:j<xs.length)(hz:xs[j].cells.length=sz)(k:AV→Prop):dR xs (j:Int) sz k=k (.pe xs[j] 0):=propext ⟨fun h=>by
 obtain⟨_,b,hb,_,hk⟩:=h;have:xs[j]? =some xs[j]:=aeJ;rw[show((j:Int).toNat)=j by simp,this]at hb
 cases hb;exact hk,fun h=>dR.at j hj hz h⟩
def AW(l:List bu):Prop:=l.length≤16∧∀v∈l,bz v=true∧∀w∈l.head?,v.kind=w.kind
structure Q7 (gs:List bt):Prop where
 len:gs.length≤64
 each:∀g∈gs,1≤g.cat∧g.cat≤4∧bp g.name=true∧AW g.bag
 dist:gs.Pairwise fun a b=>jc b.cat b.name a=false
def xK(g:bt):Int×Txt:=(g.cat,g.name)
theorem Mu(gs:List bt):(gs.Pairwise fun a b=>jc b.cat b.name a=false)↔(gs.map xK).Nodup:=by simp[List.Nodup,List.pairwise_map,bt,jc,false,xK]
theorem jD{v:bu}(h:bz v=true):AW [v]:=⟨aeJ,fun w hw=>aeD⟩
theorem pQ{s:Txt}(h:bp s=true):bz (idV s)=true:=by grind [bz,idV]
theorem Ju{l:List iD}(h:∀r∈l,bp r.role=true)(s:Txt):AW (dw l s):=by
 have hv:∀v∈dw l s,bz v=true∧v.kind=5:=fun v hv=>by
  have:=List.mem_of_mem_take hv;obtain⟨r,hr,rfl⟩:=List.mem_map.1 this;exact⟨pQ aeD,rfl⟩
 refine⟨by grind [dw,List.length_take],fun v hm=>⟨(hv v hm).1,fun w hw=>?_⟩⟩
 grind
theorem Mj{c:UInt8}{i j:Nat}(h:tU c j=true)(hi:i≠0):tU c i=true:=by
 simp only[tU,Bool.or_eq_true,Bool.and_eq_true,decide_eq_true_eq]at h⊢
 grind
theorem Ge{n:Txt}(h:bp n=true)(hl:n.length≤14):bp ([102,95]++n)=true:=by
 simp only[bp,Bool.and_eq_true,decide_eq_true_eq]at h⊢;obtain⟨⟨h1,h2⟩,h3⟩:=h;refine⟨⟨?_,aeJ⟩,aeD⟩;unfold wD at h1⊢;rw[List.all_eq_true]at h1⊢
 rintro⟨c,i⟩ hp
 rw[List.mk_mem_zipIdx_iff_getElem?]at hp
 match i,hp with
 |0,hp=>cases hp;rfl
 |1,hp=>cases hp;rfl
 |i+2,hp=>
  exact Mj (h1 (c,i) (List.mk_mem_zipIdx_iff_getElem?.2 hp)) aeC
theorem HB{s:Txt}(h:s∈qg):bp s=true:=by simp only[qg,List.mem_cons,List.not_mem_nil,or_false]at h;rcases h with rfl|rfl|rfl|rfl<;>kernel_rfl
theorem Dg(k:Int)(h:1≤k∧k≤8):bp (iV k)=true:=by
 have:(List.range 9).all (fun n=>bp (iV n))=true:=aeR
 have h2:=List.all_eq_true.1 this k.toNat aeD
 rwa [show((k.toNat:Nat):Int)=k by omega]at h2
theorem Ov(l:List yj)(s:Txt):bz (u6 l s)=true:=by unfold u6;cases l.any fun x=>x.actor==s<;>rfl
theorem Jz(hc:vf c)(s:Txt):∀g∈cE c s,g.cat=3∧bp g.name=true∧AW g.bag:=by
 intro g hg;simp only[cE,List.mem_append,List.mem_cons,List.not_mem_nil,or_false]at hg;rcases hg with((rfl|rfl|rfl|rfl|rfl)|hg)|hg
 ·exact⟨rfl,aeR,jD (pQ hc.id)⟩
 ·exact⟨rfl,aeR,jD (pQ hc.owner)⟩
 ·exact⟨rfl,aeR,jD (pQ (HB hc.state))⟩
 ·exact⟨rfl,aeR,jD aeR⟩
 ·exact⟨rfl,aeR,jD (Ov _ _)⟩
 ·cases hl:c.log.getLast? with
  |none=>grind
  |some x=>
   rw[hl]at hg;rw[List.mem_singleton.1 hg];exact⟨rfl,aeR,jD (pQ (hc.actor x (List.mem_of_getLast? hl)).1)⟩
 ·obtain⟨f,hf,rfl⟩:=List.mem_map.1 hg
  obtain⟨hf1,hf2⟩:=List.mem_filter.1 hf;have hf2:f.name.length≤14:=aeD;obtain⟨h1,h2,_⟩:=hc.field f hf1;exact⟨rfl,Ge h1 hf2,jD h2⟩
theorem Jy(hc:vf c)(s:Txt):((cE c s).map xK).Nodup:=by
 have hfn:(((c.fields.filter fun f=>decide (f.name.length≤14)).map fun f=>(⟨3,[102,95]++f.name,[f.val]⟩:bt)).map xK).Nodup:=by
  rw[List.map_map,List.Nodup,List.pairwise_map];refine((List.Pairwise.filter _ hc.asc).imp fun {a b} hab he=>?_)
  simp_all [Function.comp,xK,Prod.mk.injEq,true_and,List.append_cancel_left_eq,lt_irrefl]
 have hff:∀x∈((c.fields.filter fun f=>decide (f.name.length≤14)).map fun f=>(⟨3,[102,95]++f.name,[f.val]⟩:bt)).map xK,∃t,x=(3,102::t):=by
  intro x hx;obtain⟨g,hg,rfl⟩:=List.mem_map.1 hx;obtain⟨f,hf,rfl⟩:=List.mem_map.1 hg;exact⟨_,rfl⟩
 unfold cE;rw[List.map_append,List.nodup_append];refine⟨?_,hfn,?_⟩
 ·cases c.log.getLast? with
  |none=>simp[xK,idT]
  |some x=>simp[xK,idT]
 ·intro a ha b hb
  obtain⟨t,rfl⟩:=hff b hb;intro e;cases hl:c.log.getLast? with
  |none=>
   simp_all [xK,idT]
  |some x=>
   simp_all [xK,idT]
theorem Jt(hs:dI k s)(hf:cN o=true):Q7 (fQ s o):=by
 have F:=ug hf;have hcs:∀g∈(if bZ s.cases o.case=true∧o.kind≠6 then cE (bw s.cases o.case) o.subj else []),g.cat=3∧bp g.name=true∧AW g.bag:=by
  intro g hg;split at hg
  ·rename_i ht
   exact Jz (hs.case _ (qS hs.asc ht.1).1) _ g hg
  ·cases hg
 have hcd:((if bZ s.cases o.case=true∧o.kind≠6 then cE (bw s.cases o.case) o.subj else []).map xK).Nodup:=by
  split
  ·rename_i ht
   exact Jy (hs.case _ (qS hs.asc ht.1).1) _
  ·exact .nil
 have hcl:(if bZ s.cases o.case=true∧o.kind≠6 then cE (bw s.cases o.case) o.subj else []).length≤22:=by
  split
  ·rename_i ht
   have hc:=hs.case _ (qS hs.asc ht.1).1;have h16:=hc.nfields;have:((bw s.cases o.case).fields.filter fun f=>decide (f.name.length≤14)).length≤(bw s.cases o.case).fields.length:=List.length_filter_le _ _
   simp only[cE,aew,aes,List.length_cons,List.length_nil];cases (bw s.cases o.case).log.getLast? <;>simp<;>omega
  ·simp
 unfold fQ;generalize (if bZ s.cases o.case=true∧o.kind≠6 then cE (bw s.cases o.case) o.subj else [])=C at hcs hcd hcl⊢
 have e1:(if o.field= []then []else [(⟨2,[102,105,101,108,100],[idV o.field]⟩:bt)])=if o.field= []then []else [(⟨2,[102,105,101,108,100],[idV o.field]⟩:bt)]:=rfl
 have hro:AW (dw s.roles o.subj):=Ju (fun r hr=>(hs.role r hr).2) _
 have htk:bz ⟨4,s.tick,[]⟩=true:=by
  have:=hs.tick;simp[bz,this]
 have hac:=pQ (Dg o.kind F.kind);have hsu:=pQ F.subj;refine⟨?_,?_,?_⟩
 ·by_cases p1:o.field= []<;>by_cases p2:o.to= []<;>simp[p1,p2]<;>omega
 ·intro g hg
  simp only[List.mem_append,List.mem_cons,List.not_mem_nil,or_false]at hg;rcases hg with((((rfl|rfl|rfl)|hg)|hg)|rfl)|hg
  ·exact⟨aeJ,aeJ,aeF,jD hsu⟩
  ·exact⟨aeJ,aeJ,aeF,hro⟩
  ·exact⟨aeJ,aeJ,aeF,jD hac⟩
  ·split at hg
   ·cases hg
   ·rename_i hne
    rw[List.mem_singleton.1 hg];exact⟨aeJ,aeJ,aeF,jD (pQ (kV F.field hne))⟩
  ·split at hg
   ·cases hg
   ·rename_i hne
    rw[List.mem_singleton.1 hg];exact⟨aeJ,aeJ,aeF,jD (pQ (kV F.to hne))⟩
  ·exact⟨aeJ,aeJ,aeF,jD htk⟩
  ·obtain⟨h1,h2,h3⟩:=hcs g hg
   exact⟨aeC,aeC,h2,h3⟩
 ·rw[Mu,List.map_append,List.nodup_append]
  refine⟨?_,hcd,?_⟩
  ·by_cases p1:o.field= []<;>by_cases p2:o.to= []<;>simp[p1,p2,xK,idT]
  ·intro a ha b hb e
   subst e;obtain⟨g,hg,rfl⟩:=List.mem_map.1 hb;have h3:=(hcs g hg).1;have hne:∀x∈([⟨1,idT,[idV o.subj]⟩,⟨1,[114,111,108,101],dw s.roles o.subj⟩,⟨2,[110,97,109,101],[idV (iV o.kind)]⟩]++(if o.field= []then []else [⟨2,[102,105,101,108,100],[idV o.field]⟩])++(if o.to= []then []else [⟨2,[116,111],[idV o.to]⟩])++ [⟨4,[110,111,119],[⟨4,s.tick,[]⟩]⟩]:List bt),x.cat≠3:=by
    intro x hx;simp only[List.mem_append,List.mem_cons,List.not_mem_nil,or_false]at hx;rcases hx with(((rfl|rfl|rfl)|hx)|hx)|rfl
    ·simp
    ·simp
    ·simp
    ·split at hx
     ·cases hx
     ·rw[List.mem_singleton.1 hx];simp
    ·split at hx
     ·cases hx
     ·rw[List.mem_singleton.1 hx];simp
    ·simp
   obtain⟨x,hx,he⟩:=List.mem_map.1 ha;have:x.cat=g.cat:=congrArg Prod.fst he;exact hne x hx (by rw[this,h3])
def sL:an→List AV
 |⟨tick,cs,rv,nt,ro,.mk pid set alg tgt rules kids obls,ver⟩=>[.i tick,gw cs,kR rv,lU nt,eJ ro,.s pid,.b set,.i alg,aV tgt,.sl (rules.map aC) .no,.sl (fO kids) .no,ay obls,.i ver]
theorem vU(s:an):cG s= .agg (sL s):=by obtain⟨tick,cs,rv,nt,ro,⟨pid,set,alg,tgt,rules,kids,obls⟩,ver⟩:=s;rfl
structure Stays (cs cs' :List aM) (id:Txt):Prop where
 len:cs'.length≤cs.length+1
 ids:∀c∈cs,∃d∈cs',d.id=c.id
 rest:∀c∈cs,c.id≠id→c∈cs'
abbrev aT:=Nat×Nat
def naM:aT:=(0,0)
def aY:aT:=(2,0)
def cF:aT:=(0,2)
def wV:aT:=(1,0)
def wU:aT:=(0,1)
def nC:aT:=(1,1)
def vG:List aT:=[naM,aY,cF,wV,wU,nC]
abbrev j0:=aT×List cB
def gY(m:aT):aT:=if m=aY then wV else if m=cF then wU else m
def oZ(a b:aT):aT:=(max a.1 b.1,max a.2 b.2)
def Fw(m:aT):aT:=(m.2,m.1)
def rD(j:aT):aT:=
 if j.2=2 then cF else if j.2=1∧1≤j.1 then nC else if j.2=1 then wU else if j.1=2 then aY else if j.1=1 then wV else naM
def xW(l:List aT):aT:=l.foldl oZ naM
def firstM(l:List aT):aT:=(l.find? fun m=>decide (m≠naM)).getD naM
def z8(m:aT):Bool:=decide (m=naM∨m=aY∨m=cF)
def pg:List aT→aT→aT
 | [],j=>j
 |m::r,j=>if z8 m=false then nC else pg r (if j=naM then m else if m≠naM then nC else j)
def iq(alg:Int)(l:List aT):aT:=
 if alg=1 then rD (xW l)
 else if alg=2 then Fw (rD (Fw (xW l)))
 else if alg=3 then firstM l
 else if alg=4 then pg l naM
 else if alg=5 then(if aY∈l then aY else cF)
 else if alg=6 then(if cF∈l then cF else aY)
 else naM
def yB(gs:List bt)(a:qI):List bu:=getD gs a.cat a.name
def nZ(a b:bu):Option Bool:=
 if bz a=false∨bz b=false∨a.kind≠b.kind∨a.kind=1 then none
 else if a.kind=3∨a.kind=5 then some (Op.bytesLess a.s b.s)else some (decide (a.n<b.n))
def cU(m:bP)(v:bu):Option Bool:=
 if m.op=1 then(if v.kind=m.val.kind then some (eqV v m.val)else none)
 else if m.op=2 then nZ v m.val else nZ m.val v
def ko(gs:List bt)(m:bP):Nat:=
 if yB gs m.attr= []∧m.attr.must=true then 1
 else if(yB gs m.attr).any fun v=>cU m v==some true then 2
 else if(yB gs m.attr).any fun v=>cU m v==none then 1 else 0
def Dj(gs:List bt)(l:List bP):Nat:=l.foldl (fun a m=>min a (ko gs m)) 2
def Aw(gs:List bt)(l:List (List bP)):Nat:=l.foldl (fun a x=>max a (Dj gs x)) 0
def nH(gs:List bt)(t:gv):Nat:=t.foldl (fun a x=>min a (Aw gs x)) 2
structure jP where
 bag:List bu
 v:bu
 e:Int
def dM(b:Bool):bu:=⟨1,if b then 1 else 0,[]⟩
def jq(b:Bool):jP:=⟨[],dM b,0⟩
def isI(x:jP)(n:Int):Bool:=x.e==0 && eqV x.v ⟨1,n,[]⟩
abbrev w64(n:Int):Int:=IntKind.i64.wrap n
def LS(a b:Int):Bool:=decide (0<b) && decide (w64 (9223372036854775807 - b)<a)||decide (b<0) && decide (a<w64 (-9223372036854775808 - b))
def Om(a b:Int):Bool:=decide (0<b) && decide (a<w64 (-9223372036854775808+b))||decide (b<0) && decide (w64 (9223372036854775807+b)<a)
def KD(a b:Int):Bool:=a== -1 && b== -9223372036854775808||b== -1 && a== -9223372036854775808||a !=0 && w64 ((w64 (a*b)).tdiv a) !=b
def oF(e:Int):bu×Int:=(aq,e)
def AF(o:Bool)(n:Int):bu×Int:=if o then oF 3 else(⟨2,w64 n,[]⟩,0)
def ig(op:Int)(l:List bu):bu×Int:=
 if¬(6≤op∧op≤13)∨l.length≠(if op=11 then 1 else 2)∨(l.all bz)=false then oF 1
 else
  let a:=l.getD 0 aq;let b:=l.getD 1 aq
  if op=6 then(if a.kind=b.kind then(dM (eqV a b),0)else oF 2)
  else if op=7 then(match nZ a b with
   |some x=>(dM x,0)
   |none=>oF 2)
  else if op=8∨op=9∨op=10 then
   (if l.all fun v=>v.kind==2 then(if op=8 then AF (LS a.n b.n) (a.n+b.n)else if op=9 then AF (Om a.n b.n) (a.n - b.n)else AF (KD a.n b.n) (a.n*b.n))else oF 2)
  else if(l.all fun v=>v.kind==1)=false then oF 2
  else if op=11 then(dM (a.n==0),0)
  else if op=12 then(dM (a.n==1 && b.n==1),0)
  else(dM (a.n==1||b.n==1),0)
def opsOf(op:Int):Nat:=if op=1∨op=2 then 0 else if op=3∨op=4∨op=11 then 1 else 2
def AT(r:bu×Int):jP:=⟨[],r.1,r.2⟩
def lT(gs:List bt)(n:aR)(l:List jP):jP:=
 if n.op=1 then⟨[],n.val,0⟩
 else if n.op=2 then(if yB gs n.attr= []∧n.attr.must=true then⟨[],aq,4⟩else⟨yB gs n.attr,aq,0⟩)
 else if(n.op=12∨n.op=13)∧(l.any fun x=>isI x (n.op - 12))=true then jq (n.op==13)
 else match l.find? fun x=>x.e !=0 with
  |some x=>⟨[],aq,x.e⟩
  |none=>
   if n.op=3 then(match (l.headD ⟨[],aq,0⟩).bag with
    | [v]=>⟨[],v,0⟩
    |_=>⟨[],aq,4⟩)
   else if n.op=4 then⟨[],⟨2,(l.headD ⟨[],aq,0⟩).bag.length,[]⟩,0⟩
   else if n.op=5 then jq ((l.headD ⟨[],aq,0⟩).bag.any fun v=>eqV v (l.getD 1 ⟨[],aq,0⟩).v)
   else AT (ig n.op (l.map (·.v)))
def z7(gs:List bt)(st:List jP)(n:aR):List jP:=st.take (st.length - opsOf n.op)++ [lT gs n (st.drop (st.length - opsOf n.op))]
def wW(gs:List bt)(l:List aR):jP:=if l= []then AT (oF 1)else(l.foldl (z7 gs) []).headD (AT (oF 1))
def qU(gs:List bt)(l:List aR):Nat:=if l.isEmpty then 2 else if isI (wW gs l) 1 then 2 else if isI (wW gs l) 0 then 0 else 1
def eY(l:List cB)(m:aT):List cB:=l.filter fun o=>o.on==1 && m==aY||o.on==2 && m==cF
def nW(r:cQ)(t c:Nat):j0:=
 let m:=if r.deny then cF else aY
 if t=0∨t=2∧c=0 then(naM,[])else if t=1∨c=1 then(gY m,[])else(m,eY r.obls m)
def iH(gs:List bt)(r:cQ):j0:=nW r (nH gs r.tgt) (qU gs r.cond)
def fh(alg:Int)(m:aT)(parts:List j0):List cB:=
 if alg=3 then((parts.find? fun x=>x.1==m).map (·.2)).getD []else((parts.filter fun x=>x.1==m).map (·.2)).flatten
def qu(alg:Int)(obls:List cB)(t:Nat)(parts:List j0):j0:=
 let m:=iq alg (parts.map (·.1))
 if t=0 then(naM,[])else if t=1 then(gY m,[])else if m≠aY∧m≠cF then(m,[])
 else(m,fh alg m parts++eY obls m)
mutual
def fN(gs:List bt):bD→j0
 |.mk id set alg tgt rules kids obls=>if nH gs tgt=0 then(naM,[])else qu alg obls (nH gs tgt) (rules.map (iH gs)++nj gs kids)
def nj(gs:List bt):List bD→List j0
 | []=>[]
 |k::r=>fN gs k::nj gs r
end
theorem ud(gs:List bt):∀l:List bD,nj gs l=l.map (fN gs)
 | []=>aeR
 |k::r=>by simp[nj,ud gs r]
def tv:bD→gv
 |.mk _ _ _ t _ _ _=>t
def o6:gv→Option bP
 | []=>none
 | [l]::r=>match l.find? fun m=>m.op==1 && !m.attr.must with
  |some m=>some m
  |none=>o6 r
 |_::r=>o6 r
def tg(gs:List bt)(p:bD):Bool:=match o6 (tv p)with
 |none=>true
 |some m=>decide (ko gs m≠0)
mutual
def lV(gs:List bt):bD→bD
 |.mk id set alg tgt rules kids obls=> .mk id set alg tgt rules (kQ gs kids) obls
def kQ(gs:List bt):List bD→List bD
 | []=>[]
 |k::r=>if tg gs k then lV gs k::kQ gs r else kQ gs r
end
end Go.Bf
namespace Go.Ab
open Go
section
variable {U : TypeId → TI} {ρ : Env} {h0 h h' : Heap} {sz id : Nat} {tb : TypeId} {y : AV} {xs : List AV} {e : TypeId} {K : AV → Prop} {x : IntKind} {m : Int}
theorem vr(xs:List AV)(j:Nat):au xs=au (xs.take j)++au (xs.drop j):=ahY
theorem OwE.cut(hw:OwE tb h0 h sz y xs){hi:Operand}(j:Nat)(hm:ev ρ hi=some (.v (.int x m)))(hj:m=j)(hl:j≤xs.length)(hz:(U tb).sz=sz)(h1:sz≠0)
  (hk:∀z,OwE tb h0 h sz z (xs.take j)→(z=y∨∃id l l' c,y= .ob id 0 l c sz∧z= .ob id 0 l' c sz)→K z):gL U ρ y none (some hi) none K (.slice tb):=by
 subst hj;subst hz
 rcases hw with⟨rfl,rfl⟩|⟨id,h2,cap,rest,rfl,h3,h4,h5,h6⟩
 ·rw[oo,fE,hm]
  refine⟨h1,?_⟩;have:j=0:=aeD;subst this;refine⟨aeC,aeJ,?_⟩;exact hk _ (.inl ⟨rfl,rfl⟩) (.inl rfl)
 ·rw[BU]
  refine⟨h1,rfl,?_⟩;simp only[mT,fE,hm,dJ,nX];refine⟨aeC,aeC,aeC,?_⟩;simp only[Int.toNat_natCast,Nat.zero_mul,Nat.add_zero,Nat.sub_zero,show(((0:Nat):Int)).toNat=0 from rfl]
  have e1:(xs.take j).length=j:=aeD;have hs:Sized (U tb).sz (xs.drop j):=fun z hz=>h6 z (List.mem_of_mem_drop hz)
  refine hk _ (.inr ⟨id,h2,cap,au (xs.drop j)++rest,by rw[e1],by grind [vr,List.append_assoc],?_,aeC,fun z hz=>h6 z (List.mem_of_mem_take hz)⟩) (.inr ⟨id,_,_,cap,rfl,rfl⟩)
  rw[aew,aX hs,h4,List.length_drop,e1,←Nat.add_mul]
  grind
theorem OwE.from(hw:OwE tb h0 h sz y xs){lo:Operand}(j:Nat)(hm:ev ρ lo=some (.v (.int x m)))(hj:m=j)(hl:j≤xs.length)(hz:(U tb).sz=sz)(h1:sz≠0)
  (hk:∀z,Rd h sz z (xs.drop j)→K z):gL U ρ y (some lo) none none K (.slice tb):=by
 subst hj;subst hz
 rcases hw with⟨rfl,rfl⟩|⟨id,h2,cap,rest,rfl,h3,h4,h5,h6⟩
 ·have:j=0:=by grind
  subst this;rw[rO,fE,hm];refine⟨h1,by simp[Sized],?_⟩
  exact⟨aeC,aeJ,aeJ,hk _ (.sl (by intro z hz;grind [nM]) _)⟩
 ·rw[BU]
  refine⟨h1,rfl,?_⟩;simp only[mT,fE,hm,dJ,nX];refine⟨aeC,aeC,aeC,?_⟩;simp only[Int.toNat_natCast,Nat.zero_add];have e1:(xs.drop j).length=xs.length - j:=aeJ;have hs:Sized (U tb).sz (xs.drop j):=fun z hz=>h6 z aeD
  have ht:Sized (U tb).sz (xs.take j):=fun z hz=>h6 z aeD
  have e2:=aX hs;have e3:=aX ht;refine hk _ ⟨hs,.inr ⟨id,j*(U tb).sz,cap - j,_,tb,by rw[e1],h3,?_,?_⟩⟩
  ·grind [vr,aew]
  grind [vr,List.append_assoc,List.drop_left,List.take_left]
end
end Go.Ab
namespace Go.Bf
open Go Go.Ab Go.Proofs.YtelkmnkejghkeaaGreatDoor
def hbit:Nat→Nat
 |0=>0
 |1=>4602678819172646912
 |_=>4607182418800017408
def aN(m:aT):AV:=.v (.complex .f64 (hbit m.1) (hbit m.2))
def M9(m:aT):Prop:=m.1≤2∧m.2≤2
def M6(m:aT):Prop:=m∈vG
instance (m:aT):Decidable (M9 m):=inferInstanceAs (Decidable (_∧_))
instance (m:aT):Decidable (M6 m):=inferInstanceAs (Decidable (m∈vG))
theorem M6.m9{m:aT}(h:M6 m):M9 m:=by exact ajn
theorem le2{n:Nat}(h:n≤2):n=0∨n=1∨n=2:=aeC
theorem zB{m n:aT}(hmm:M9 m)(hn:M9 n)(K:AV→Prop):gu .eql (.complex .f64 (hbit m.1) (hbit m.2)) (.complex .f64 (hbit n.1) (hbit n.2)) K=K (.b (m==n)):=
 o9 (fun P ty w=>by
  exact ajk) K
theorem BB{m n:aT}(hmm:M9 m)(hn:M9 n)(K:AV→Prop):gu .neq (.complex .f64 (hbit m.1) (hbit m.2)) (.complex .f64 (hbit n.1) (hbit n.2)) K=K (.b (!(m==n))):=
 o9 (fun P ty w=>by
  exact ajk) K
structure Nb (m:aT):Prop where
 na:∀K,gu .eql (.complex .f64 (hbit m.1) (hbit m.2)) (.complex .f64 0 0) K=K (.b (m==naM))
 pe:∀K,gu .eql (.complex .f64 (hbit m.1) (hbit m.2)) (.complex .f64 4607182418800017408 0) K=K (.b (m==aY))
 de:∀K,gu .eql (.complex .f64 (hbit m.1) (hbit m.2)) (.complex .f64 0 4607182418800017408) K=K (.b (m==cF))
 ip:∀K,gu .eql (.complex .f64 (hbit m.1) (hbit m.2)) (.complex .f64 4602678819172646912 0) K=K (.b (m==wV))
 id:∀K,gu .eql (.complex .f64 (hbit m.1) (hbit m.2)) (.complex .f64 0 4602678819172646912) K=K (.b (m==wU))
 ib:∀K,gu .eql (.complex .f64 (hbit m.1) (hbit m.2)) (.complex .f64 4602678819172646912 4602678819172646912) K=K (.b (m==nC))
 nna:∀K,gu .neq (.complex .f64 (hbit m.1) (hbit m.2)) (.complex .f64 0 0) K=K (.b (!(m==naM)))
 npe:∀K,gu .neq (.complex .f64 (hbit m.1) (hbit m.2)) (.complex .f64 4607182418800017408 0) K=K (.b (!(m==aY)))
 nde:∀K,gu .neq (.complex .f64 (hbit m.1) (hbit m.2)) (.complex .f64 0 4607182418800017408) K=K (.b (!(m==cF)))
theorem nb{m:aT}(h:M9 m):Nb m:=
 ⟨zB (n:=naM) h aeG,zB (n:=aY) h aeG,zB (n:=cF) h aeG,zB (n:=wV) h aeG,zB (n:=wU) h aeG,zB (n:=nC) h aeG,
  BB (n:=naM) h aeG,BB (n:=aY) h aeG,BB (n:=cF) h aeG⟩
theorem RB{a b:Nat}(ha:a≤2)(hb:b≤2)(k:AV→Prop):AB [.v (.float .f64 (hbit a)),.v (.float .f64 (hbit b))] k=k (.v (.float .f64 (hbit (max a b)))):=
 GR (fun P ts ty w=>by
  rcases le2 ha with rfl|rfl|rfl<;>rcases le2 hb with rfl|rfl|rfl<;>rfl) k
structure Fb (a:Nat):Prop where
 one:∀K,gu .eql (.float .f64 (hbit a)) (.float .f64 4607182418800017408) K=K (.b (a==2))
 half:∀K,gu .eql (.float .f64 (hbit a)) (.float .f64 4602678819172646912) K=K (.b (a==1))
 ge:∀K,gu .geq (.float .f64 (hbit a)) (.float .f64 4602678819172646912) K=K (.b (decide (1≤a)))
theorem fb{a:Nat}(h:a≤2):Fb a:=by
 rcases le2 h with rfl|rfl|rfl<;>
  exact⟨o9 fun P ty w=>rfl,o9 fun P ty w=>rfl,o9 fun P ty w=>rfl⟩
end Go.Bf
namespace Go.Proofs.YtelkmnkejghkeaaGreatDoor
open Go Go.Ab Go.Bf Tryz
theorem CK(m:aT)(hmm:M6 m)(h:Heap):ai prog 277 [aN m] h fun r h' =>r= .b true∧h' =h:=by
 have hn:ai prog 68 [aN m] h fun r h' =>(∃c l,r= .s (c::l))∧h' =h:=by
  obtain⟨n1,n2,n3,n4,n5,n6⟩:=nb hmm.m9;refine aeB func68 16 [.tmp 2] fun hwf=>?_
  cases d1:(m==naM)
  case true=>simp only[go_sem,aN,n1,d1];exact .same (.refl _) ⟨⟨_,_,rfl⟩,rfl⟩
  cases d2:(m==aY)
  case true=>simp only[go_sem,aN,n1,n2,d1,d2];exact .same (.refl _) ⟨⟨_,_,rfl⟩,rfl⟩
  cases d3:(m==cF)
  case true=>simp only[go_sem,aN,n1,n2,n3,d1,d2,d3];exact .same (.refl _) ⟨⟨_,_,rfl⟩,rfl⟩
  cases d4:(m==wV)
  case true=>simp only[go_sem,aN,n1,n2,n3,n4,d1,d2,d3,d4];exact .same (.refl _) ⟨⟨_,_,rfl⟩,rfl⟩
  cases d5:(m==wU)
  case true=>simp only[go_sem,aN,n1,n2,n3,n4,n5,d1,d2,d3,d4,d5];exact .same (.refl _) ⟨⟨_,_,rfl⟩,rfl⟩
  have d6:(m==nC)=true:=by
   unfold M6 vG at hmm
   grind
  simp only[go_sem,aN,n1,n2,n3,n4,n5,n6,d1,d2,d3,d4,d5,d6];exact .same (.refl _) ⟨⟨_,_,rfl⟩,rfl⟩
 refine aeB func277 6 [.tmp 2] fun hwf=>?_
 simp only[go_sem];refine hn.mono ?_
 rintro r h' ⟨⟨c,l,rfl⟩,rfl⟩
 exact ai1
theorem ze(m:aT)(hmm:M9 m)(h:Heap):ai prog 251 [aN m] h fun r h' =>r=aN (gY m)∧h' =h:=by
 obtain⟨n1,n2,n3,n4,n5,n6⟩:=nb hmm;refine aeB func251 9 [.tmp 2] fun hwf=>?_
 cases d2:(m==aY)
 case true=>simp only[go_sem,aN,n2,d2];exact .same (.refl _) ⟨by rw[gY,if_pos aeD];rfl,rfl⟩
 cases d3:(m==cF)
 case true=>simp only[go_sem,aN,n2,n3,d2,d3];exact .same (.refl _) ⟨by rw[gY,if_neg aeD,if_pos aeD];rfl,rfl⟩
 simp only[go_sem,aN,n2,n3,d2,d3];exact .same (.refl _) ⟨by rw[gY,if_neg aeD,if_neg aeD];rfl,rfl⟩
theorem uG(m:aT)(h:Heap):ai prog 299 [aN m] h fun r h' =>r= .tup [.v (.float .f64 (hbit m.1)),.v (.float .f64 (hbit m.2))]∧h' =h:=by
 refine aeB func299 10 [.tmp 2,.tmp 3] fun hwf=>?_
 simp only[go_sem,aN];exact aeL
theorem RI(a b:Nat)(h:Heap):ai prog 300 [.v (.float .f64 (hbit a)),.v (.float .f64 (hbit b))] h fun r h' =>r=aN (a,b)∧h' =h:=by
 refine aeB func300 8 [.tmp 4] fun hwf=>?_
 exact ai1
theorem QS(m:aT)(h:Heap):ai prog 280 [aN m] h fun r h' =>r=aN (Fw m)∧h' =h:=by
 refine aeB func280 13 [.tmp 2] fun hwf=>?_
 simp only[go_sem];refine(uG m _).pthen ?_;simp only[go_sem];refine(RI m.2 m.1 _).pthen ?_;exact ai1
theorem PT(a b:aT)(ha:M9 a)(hb:M9 b)(h:Heap):ai prog 278 [aN a,aN b] h fun r h' =>r=aN (oZ a b)∧h' =h:=by
 have m1:=RB ha.1 hb.1;have m2:=RB ha.2 hb.2;refine aeB func278 26 [.tmp 4] fun hwf=>?_
 simp only[go_sem];refine(uG a _).pthen ?_;simp only[go_sem];refine(uG b _).pthen ?_;simp only[go_sem,m1,m2];refine(RI _ _ _).pthen ?_;exact ai1
theorem M9.join{a b:aT}(ha:M9 a)(hb:M9 b):M9 (oZ a b):=⟨Nat.max_le.2 ⟨ha.1,hb.1⟩,Nat.max_le.2 ⟨ha.2,hb.2⟩⟩
theorem IV(j:aT):M6 (rD j):=by
 unfold rD
 repeat' split
 all_goals decide
theorem IW(j:aT)(hj:M9 j)(h:Heap):ai prog 279 [aN j] h fun r h' =>r=aN (rD j)∧h' =h:=by
 obtain⟨p1,p2,p3⟩:=fb hj.1;obtain⟨q1,q2,q3⟩:=fb hj.2;refine aeB func279 29 [.tmp 2] fun hwf=>?_
 simp only[go_sem];refine(uG j _).pthen ?_;cases d1:(j.2==2)
 case true=>simp only[go_sem,q1,d1];exact .same (.refl _) ⟨by rw[rD,if_pos aeD];rfl,rfl⟩
 have e1:¬j.2=2:=aeD;cases d2:(j.2==1)
 case true=>
  have e2:j.2=1:=aeD;cases d3:decide (1≤j.1)
  ·simp only[go_sem,p3,q1,q2,d1,d2,d3];exact .same (.refl _) ⟨by rw[rD,if_neg e1,if_neg aeD,if_pos e2];rfl,rfl⟩
  ·simp only[go_sem,p3,q1,q2,d1,d2,d3];exact .same (.refl _) ⟨by rw[rD,if_neg e1,if_pos ⟨e2,aeu d3⟩];rfl,rfl⟩
 have e2:¬j.2=1:=aeD;cases d4:(j.1==2)
 case true=>simp only[go_sem,p1,q1,q2,d1,d2,d4];exact .same (.refl _) ⟨by rw[rD,if_neg e1,if_neg (fun h=>e2 h.1),if_neg e2,if_pos aeD];rfl,rfl⟩
 cases d5:(j.1==1)
 case true=>simp only[go_sem,p1,p2,q1,q2,d1,d2,d4,d5];exact .same (.refl _) ⟨by rw[rD,if_neg e1,if_neg (fun h=>e2 h.1),if_neg e2,if_neg aeD,if_pos aeD];rfl,rfl⟩
 simp only[go_sem,p1,p2,q1,q2,d1,d2,d4,d5];exact .same (.refl _) ⟨by rw[rD,if_neg e1,if_neg (fun h=>e2 h.1),if_neg e2,if_neg aeD,if_neg aeD];rfl,rfl⟩
end Go.Proofs.YtelkmnkejghkeaaGreatDoor
namespace Go.Bf
open Go Go.Ab Go.Proofs.YtelkmnkejghkeaaGreatDoor
def zm(a b:bu):Int:=if bz a=false∨bz b=false then 1 else 2
def lR(a b:bu):AV:=match nZ a b with
 |some x=> .tup [.b x,.i 0]
 |none=> .tup [.b false,.i (zm a b)]
theorem Bq{a b:bu}(h:bz a=false∨bz b=false):lR a b= .tup [.b false,.i 1]:=by
 unfold lR nZ;rw[if_pos aeD]
 simp_all [zm,if_pos]
theorem zl{a b:bu}(h1:bz a=true)(h2:bz b=true)(h:a.kind≠b.kind∨a.kind=1):lR a b= .tup [.b false,.i 2]:=by simp_all [lR,nZ,if_pos,zm]
theorem Qb{a b:bu}(h1:bz a=true)(h2:bz b=true)(h:a.kind=b.kind)(h0:a.kind≠1)(ht:a.kind=3∨a.kind=5):lR a b= .tup [.b (Op.bytesLess a.s b.s),.i 0]:=by simp_all [lR,nZ,if_neg,if_pos]
theorem Qa{a b:bu}(h1:bz a=true)(h2:bz b=true)(h:a.kind=b.kind)(h0:a.kind≠1)(ht:¬(a.kind=3∨a.kind=5)):lR a b= .tup [.b (decide (a.n<b.n)),.i 0]:=by simp_all [lR,nZ,if_neg]
end Go.Bf
namespace Go.Proofs.YtelkmnkejghkeaaGreatDoor
open Go Go.Ab Go.Bf Tryz
theorem Ad(k:Int)(h:Heap):ai prog 174 [.i k] h fun r h' =>r= .b (k==3||k==5)∧h' =h:=by
 refine aeB func174 9 [.tmp 2] fun hwf=>?_
 cases d1:(k==3)<;>cases d2:(k==5)
 all_goals
  simp only[go_sem,d1,d2];exact aeL
theorem CJ(a b:bu)(h:Heap):ai prog 286 [aS a,aS b] h fun r h' =>r=lR a b∧h' =h:=by
 have ha:=fun(G:Heap)=>ga a G
 have hb:=fun(G:Heap)=>ga b G
 simp only[aS]at ha hb;refine aeB func286 40 [.tmp 4,.tmp 5] fun hwf=>?_
 simp only[go_sem,aS];intro i1 h1;simp only[go_sem];intro i2 h2;have n21:=aI h2;have n2:=aB h2;have hs:∀x y,Ab.Sub h (upd (upd h i1 x) i2 y):=fun x y=>((Sub.refl h).put h1 x).put n2 y
 simp only[go_sem,ak,n21.symm];refine(ha _).pthen ?_;cases da:bz a
 ·simp only[go_sem]
  exact .mk _ (.refl _) (hs _ _) ⟨by rw[Bq (.inl da)];rfl,rfl⟩
 simp only[go_sem];refine(hb _).pthen ?_;cases db:bz b
 ·simp only[go_sem]
  exact .mk _ (.refl _) (hs _ _) ⟨by rw[Bq (.inr db)];rfl,rfl⟩
 cases dk:(a.kind !=b.kind)
 case true=>
  simp only[go_sem,ak,n21.symm,dk];exact .mk _ (.refl _) (hs _ _) ⟨by rw[zl da db (.inl aeD)];rfl,rfl⟩
 have ek:a.kind=b.kind:=aeD;cases d1:(a.kind==1)
 case true=>
  simp only[go_sem,ak,n21.symm,dk,d1];exact .mk _ (.refl _) (hs _ _) ⟨by rw[zl da db (.inr aeD)];rfl,rfl⟩
 have e1:a.kind≠1:=aeD;simp only[go_sem,ak,n21.symm,dk,d1];refine(Ad _ _).pthen ?_;cases dt:(a.kind==3||a.kind==5)
 ·simp only[go_sem,ak,n21.symm]
  exact .mk _ (.refl _) (hs _ _) ⟨by rw[Qa da db ek e1 aeD];rfl,rfl⟩
 ·simp only[go_sem,ak,n21.symm]
  exact .mk _ (.refl _) (hs _ _) ⟨by rw[Qb da db ek e1 aeD];rfl,rfl⟩
def J8(bag:List bu)(must:Bool):AV:=if bag= []∧must=true then .tup [.sl [] .no,.i 4]else .tup [.sl (bag.map aS) .no,.i 0]
theorem It(gs:List bt)(cat:Int)(name:Txt)(must:Bool)(hl:gs.length≤1000000000)(hb:∀g∈gs,g.bag.length≤1000000)(h:Heap):ai prog 253 [bJ gs,.agg [.i cat,.s name,.b must]] h fun r h' =>r=J8 (getD gs cat name) must∧h' =h:=by
 have hpl:=fun G=>NP gs cat name hl G
 simp only[bJ]at hpl;have frz:∀(x:AV) (e:Int),Weak x (.sl [] .no)→Weak (.tup [x,.i e]) (.tup [.sl [] .no,.i e]):=fun x e hx=> .tup _ _ rfl fun i a b=>by
  rcases i with _|_|i
  ·grind
  ·exact afX
  grind
 refine aeB func253 30 [.tmp 4,.tmp 5] fun hwf=>?_
 simp only[go_sem,bJ];intro i1 h1;simp only[go_sem];refine(hpl _).pthen ?_
 by_cases hx:gs.findIdx (jc cat name)<gs.length
 ·have e1:ixD (jc cat name) gs=(gs.findIdx (jc cat name):Nat):=by simp_all [ixD,if_pos]
  have d1:decide ((0:Int)≤((gs.findIdx (jc cat name):Nat):Int))=true:=decide_eq_true aeC;rw[e1];simp only[go_sem,d1];refine .at (gs.findIdx (jc cat name)) aeD aeQ ?_;simp only[go_sem,aet,lO];rw[if_neg (fun hh=>hh.1)]
  have hlb:=hb _ (aex hx);rw[get_at hx];obtain⟨B,eB⟩:∃B,gs[gs.findIdx (jc cat name)].bag=B:=⟨_,rfl⟩;rw[eB]at hlb⊢;refine(Dz _ (B.map aS) _ (eE aS 3 (fun _=>rfl) _ _) aeD (bn (fun _=>rfl) _)).pthen ?_
  cases d2:((B.length:Int)==0)
  ·have e2:B≠ []:=by grind
   simp only[go_sem,d2,aes];exact .mk _ (.refl _) (.aj h1) ⟨by rw[J8,if_neg (fun hh=>e2 hh.1)];rfl,rfl⟩
  ·have e3:(B.length:Int)=0:=by grind
   have e2:B= []:=List.length_eq_zero_iff.1 aeC;subst e2;cases must
   ·simp only[go_sem,List.map_nil,List.length_nil]
    exact aeU
   ·simp only[go_sem,List.map_nil,List.length_nil]
    exact agu
 ·have e1:ixD (jc cat name) gs= -1:=by simp_all [ixD,if_neg]
  have d1:decide ((0:Int)≤ -1)=false:=rfl;rw[e1,S1 hx];cases must
  ·simp only[go_sem,d1]
   exact .mk (.tup [.sl [] .no,.i 0]) (frz _ _ (.sl _ _)) (.aj h1) ⟨rfl,rfl⟩
  ·simp only[go_sem,d1]
   exact agu
def ng(m:bP)(v:bu):AV:=
 if m.op=1 then(if v.kind=m.val.kind then .tup [.b (eqV v m.val),.i 0]else .tup [.b false,.i 2])
 else if m.op=2 then lR v m.val else lR m.val v
theorem FN(m:bP)(v:bu)(h:Heap):ai prog 254 [dV m,aS v] h fun r h' =>r=ng m v∧h' =h:=by
 have hl1:=fun G=>CJ v m.val G
 have hl2:=fun G=>CJ m.val v G
 simp only[aS]at hl1 hl2;refine aeB func254 42 [.tmp 4,.tmp 5] fun hwf=>?_
 simp only[go_sem,dV,aS];intro i1 h1;simp only[go_sem];intro i2 h2;have n21:=aI h2;have n2:=aB h2;have hs:∀x y,Ab.Sub h (upd (upd h i1 x) i2 y):=fun x y=>((Sub.refl h).put h1 x).put n2 y
 cases d1:(m.op==1)
 case true=>
  have e1:m.op=1:=aeD;cases dk:(v.kind !=m.val.kind)
  ·have dk' :v.kind=m.val.kind:=by grind
   simp only[go_sem,ak,n21.symm,d1,dk];exact .mk _ (.refl _) (hs _ _) ⟨by rw[ng,if_pos e1,if_pos dk'];rfl,rfl⟩
  ·simp only[go_sem,ak,n21.symm,d1,dk]
   exact .mk _ (.refl _) (hs _ _) ⟨by rw[ng,if_pos e1,if_neg aeD];rfl,rfl⟩
 have e1:m.op≠1:=aeD;have aft:∀a b:bu,∃x e,lR a b= .tup [.b x,.i e]:=fun a b=>by
  unfold lR;split
  ·simp
  simp
 cases d2:(m.op==2)
 case true=>
  have e2:m.op=2:=aeD;obtain⟨x,e,ee⟩:=aft v m.val;rw[ee]at hl1;simp only[go_sem,ak,n21.symm,d1,d2];refine(hl1 _).pthen ?_;simp only[go_sem];exact .mk _ (.refl _) (hs _ _) ⟨by rw[ng,if_neg e1,if_pos e2,ee];rfl,rfl⟩
 ·have e2:m.op≠2:=by grind
  obtain⟨x,e,ee⟩:=aft m.val v;rw[ee]at hl2;simp only[go_sem,ak,n21.symm,d1,d2];refine(hl2 _).pthen ?_;simp only[go_sem];exact .mk _ (.refl _) (hs _ _) ⟨by rw[ng,if_neg e1,if_neg e2,ee];rfl,rfl⟩
theorem Ca(m:bP)(v:bu):∃e:Int,(e !=0)=(cU m v==none)∧ng m v= .tup [.b (cU m v==some true),.i e]:=by
 have hl:∀a b:bu,∃e:Int,(e !=0)=(nZ a b==none)∧lR a b= .tup [.b (nZ a b==some true),.i e]:=fun a b=>by
  unfold lR;cases hx:nZ a b with
  |some x=>simp
  |none=>refine⟨zm a b,?_,rfl⟩;grind [zm]
 unfold ng cU
 by_cases e1:m.op=1
 ·rw[if_pos e1,if_pos e1]
  by_cases ek:v.kind=m.val.kind
  ·rw[if_pos ek,if_pos ek]
   exact⟨0,rfl,aeJ⟩
  ·rw[if_neg ek,if_neg ek]
   exact⟨2,rfl,rfl⟩
 ·rw[if_neg e1,if_neg e1]
  by_cases e2:m.op=2
  ·rw[if_pos e2,if_pos e2];exact hl _ _
  ·rw[if_neg e2,if_neg e2];exact hl _ _
theorem J9(bag:List bu)(must:Bool):∃e:Int,(e !=0)=decide (bag= []∧must=true)∧J8 bag must= .tup [.sl (bag.map aS) .no,.i e]:=by
 unfold J8;split
 ·simp_all
 grind
def sA(gs:List bt):Prop:=gs.length≤1000000∧∀g∈gs,g.bag.length≤1000000
theorem sA.bag{gs:List bt}(h:sA gs)(a:qI):(yB gs a).length≤1000000:=by
 unfold yB getD;split
 ·rename_i g hg;exact h.2 g aeD
 ·simp
theorem Bx(m:bP)(gs:List bt)(hf:sA gs)(h:Heap):ai prog 208 [dV m,bJ gs] h fun r h' =>r= .i (ko gs m:Nat)∧h' =h:=by
 have hg:=fun G=>It gs m.attr.cat m.attr.name m.attr.must (by have:=hf.1;omega) hf.2 G
 have hbl:=hf.bag m.attr;obtain⟨B,eB⟩:∃B,yB gs m.attr=B:=⟨_,rfl⟩;have eg:Go.Bf.getD gs m.attr.cat m.attr.name=B:=eB;rw[eB]at hbl;rw[eg]at hg;have hmm:ko gs m=if B= []∧m.attr.must=true then 1 else if B.any (fun v=>cU m v==some true)then 2 else if B.any (fun v=>cU m v==none)then 1 else 0:=by
  unfold ko;rw[eB]
 obtain⟨eg,hge,hga⟩:=J9 B m.attr.must;rw[hga]at hg;have hag:=fun(v:bu) (G:Heap)=>FN m v G
 simp only[dV,bJ,aS]at hag hg;refine aeB func208 38 [.tmp 4] fun hwf=>?_
 simp only[go_sem,dV,bJ];intro i1 h1;simp only[go_sem];refine(hg _).pthen ?_;cases d0:decide (B= []∧m.attr.must=true)
 case true=>
  rw[d0]at hge;simp only[go_sem,hge];exact .mk _ (.refl _) (.aj h1) ⟨by rw[hmm,if_pos (aeu d0)];rfl,rfl⟩
 rw[d0]at hge;rw[if_neg (aev d0)]at hmm;simp only[go_sem,hge,aes];obtain⟨H,eH⟩:∃H,upd h i1 (some (.obj [.i m.attr.cat,.s m.attr.name,.b m.attr.must,.i m.op,.i m.val.kind,.i m.val.n,.s m.val.s] 264))=H:=⟨_,rfl⟩;have hH:Ab.Sub h H:=by rw[←eH];exact .aj h1
 have k1:H i1=some (.obj [.i m.attr.cat,.s m.attr.name,.b m.attr.must,.i m.op,.i m.val.kind,.i m.val.n,.s m.val.s] 264):=af5;rw[eH];clear eH;refine .intro (fun q ρ G=>Ab.Sub H G∧∃i:Nat,i≤B.length∧q=B.length - i∧(∀j (hj:j<i) (h2:j<B.length),(cU m B[j]==some true)=false)∧lk ρ 2=some (.ptr i1 0)∧lk ρ 7=some (.i (if(B.take i).any (fun v=>cU m v==none)then 1 else 0))∧lk ρ 21=some (.sl (B.map aS) .no)∧lk ρ 22=some (.i B.length)∧lk ρ 23=some (.i i)) B.length ?_ ?_
 ·refine⟨.refl _,0,aeC,rfl,fun j hj=>aeC,?_,?_,?_,?_,?_⟩<;>simp only[go_sem]
  simp
 ·rintro q ρ G ⟨hs,i,hi,rfl,hc,r2,r7,r21,r22,r23⟩
  have k1' :=hs _ _ k1;simp only[go_sem,r22,r23];refine .intro (fun e=>?_) (fun e=>?_)
  ·have hlt:i<B.length:=aez e
   have w1:=aey i aeC;have hsn:(B.take (i+1)).any (fun v=>cU m v==none)=((B.take i).any (fun v=>cU m v==none)||(cU m B[i]==none)):=any_succ hlt
   have ix:=fun k=>dR.eq (xs:=B.map aS) (sz:=3) i aeX aeQ k
   rw[aet]at ix;have hci:=fun(d:(cU m B[i]==some true)=false)=>(fun j (hj:j<i+1) (h2:j<B.length)=>(by
    by_cases hji:j=i
    ·subst hji;exact d
    ·exact hc j aeC h2:(cU m B[j]==some true)=false))
   have hat:=fun(d:(cU m B[i]==some true)=true)=>(List.any_eq_true.2 ⟨B[i],aex hlt,d⟩:B.any (fun v=>cU m v==some true)=true)
   obtain⟨v,ev⟩:∃v,B[i]=v:=⟨_,rfl⟩;rw[ev]at ix hsn hci hat;simp only[aS]at ix;obtain⟨e,he1,he2⟩:=Ca m v;have hag1:=hag v;rw[he2]at hag1;simp only[go_sem,r21,r23,ix];intro i4 h4;have n41:i4≠i1:=fun e=>by rw[e,k1']at h4;cases h4
   simp only[go_sem,r2,ak,n41.symm,k1'];refine(hag1 _).pthen ?_;cases d1:(cU m v==some true)
   ·cases d2:(cU m v==none)
    ·rw[d2]at he1 hsn
     rw[Bool.or_false]at hsn;simp only[go_sem,r23,he1,w1];refine⟨_,?_,hs.trans (.aj h4),i+1,aeC,rfl,hci d1,?_,?_,?_,?_,?_⟩
     ·omega
     all_goals simp only[go_sem,r2,r7,r21,r22,hsn]
    ·rw[d2]at he1 hsn
     rw[Bool.or_true]at hsn;simp only[go_sem,r23,he1,w1];refine⟨_,?_,hs.trans (.aj h4),i+1,aeC,rfl,hci d1,?_,?_,?_,?_,?_⟩
     ·omega
     all_goals simp only[go_sem,r2,r21,r22,hsn]
   ·simp only[go_sem]
    refine .mk _ (.refl _) (hH.trans (hs.trans (.aj h4))) ⟨by rw[hmm,if_pos (hat d1)];rfl,rfl⟩
  ·have hge:i=B.length:=by have:=aev e;omega
   subst hge;rw[List.take_length]at r7;simp only[go_sem,r7];refine .mk _ (.refl _) (hH.trans hs) ⟨?_,rfl⟩;have hno:B.any (fun v=>cU m v==some true)=false:=List.any_eq_false.2 fun x hx=>by
    obtain⟨j,hj,rfl⟩:=List.mem_iff_getElem.1 hx;rw[hc j hj hj];decide
   rw[hmm,hno];cases B.any (fun v=>cU m v==none)<;>rfl
theorem IL(a b:Nat):(if((b:Int)<(a:Int))then(b:Int)else(a:Int))=((min a b:Nat):Int):=by grind
theorem Qd(a b:Nat):(if((a:Int)<(b:Int))then(b:Int)else(a:Int))=((max a b:Nat):Int):=by grind
theorem O9(l:List bP)(hl:l.length≤1000000)(gs:List bt)(hf:sA gs)(h:Heap):ai prog 247 [jl l,bJ gs] h fun r h' =>r= .i (Dj gs l:Nat)∧h' =h:=by
 have hmt:=fun(m:bP) (G:Heap)=>Bx m gs hf G
 simp only[dV,bJ]at hmt;refine aeB func247 21 [.tmp 4] fun hwf=>?_
 simp only[go_sem,jl,bJ,aes];refine .intro (fun q ρ G=>Ab.Sub h G∧∃i:Nat,i≤l.length∧q=l.length - i∧lk ρ 1=some (.sl (gs.map lO) .no)∧lk ρ 5=some (.i (Dj gs (l.take i):Nat))∧lk ρ 8=some (.sl (l.map dV) .no)∧lk ρ 9=some (.i l.length)∧lk ρ 10=some (.i i)) l.length ?_ ?_
 ·exact akg
 ·rintro q ρ G ⟨hs,i,hi,rfl,r1,r5,r8,r9,r10⟩
  simp only[go_sem,r9,r10];refine .intro (fun e=>?_) (fun e=>?_)
  ·have hlt:i<l.length:=aez e
   have w1:IntKind.i64.wrap ((i:Int)+1)=((i+1:Nat):Int):=aeN;have hsn:Dj gs (l.take (i+1))=min (Dj gs (l.take i)) (ko gs l[i]):=by
    grind [Dj,List.take_succ_eq_append_getElem]
   have ix:=fun k=>dR.eq (xs:=l.map dV) (sz:=7) i aeD aeQ k
   rw[aet]at ix;obtain⟨m,em⟩:∃m,l[i]=m:=⟨_,rfl⟩;rw[em]at ix hsn;have hmt1:=hmt m;simp only[dV]at ix;simp only[go_sem,r8,r10,ix];intro i4 h4;simp only[go_sem,r1,r5];refine(hmt1 _).pthen ?_;simp only[go_sem,r10,IL,w1];refine⟨_,?_,hs.trans (.aj h4),i+1,aeC,rfl,?_,?_,?_,?_,?_⟩
   ·omega
   all_goals simp only[go_sem,r1,r8,r9,hsn]
  ·have hge:i=l.length:=by grind
   exact ajZ
def OZ(t:gv):Prop:=t.length≤1000000∧∀x∈t,x.length≤1000000∧∀l∈x,l.length≤1000000
theorem Np(t:gv)(ht:OZ t)(gs:List bt)(hf:sA gs)(h:Heap):ai prog 204 [aV t,bJ gs] h fun r h' =>r= .i (nH gs t:Nat)∧h' =h:=by
 have hat:=fun(l:List bP) (hl:l.length≤1000000) (G:Heap)=>O9 l hl gs hf G
 simp only[jl,bJ]at hat;have htl:=ht.1;refine aeB func204 34 [.tmp 4] fun hwf=>?_
 simp only[go_sem,aV,bJ,aes];refine .intro (fun q ρ G=>Ab.Sub h G∧∃i:Nat,i≤t.length∧q=t.length - i∧lk ρ 1=some (.sl (gs.map lO) .no)∧lk ρ 5=some (.i (nH gs (t.take i):Nat))∧lk ρ 11=some (.sl (t.map cV) .no)∧lk ρ 12=some (.i t.length)∧lk ρ 13=some (.i i)) t.length ?_ ?_
 ·exact akg
 ·rintro q ρ G ⟨hs,i,hi,rfl,r1,r5,r11,r12,r13⟩
  simp only[go_sem,r12,r13];refine .intro (fun e=>?_) (fun e=>?_)
  ·have hlt:i<t.length:=aez e
   have w1:IntKind.i64.wrap ((i:Int)+1)=((i+1:Nat):Int):=aeN;have hsn:nH gs (t.take (i+1))=min (nH gs (t.take i)) (Aw gs t[i]):=by
    grind [nH,List.take_succ_eq_append_getElem]
   have ix:=fun k=>dR.eq (xs:=t.map cV) (sz:=1) i aeD aeQ k
   rw[aet]at ix;obtain⟨hx1,hx2⟩:=ht.2 t[i] (aex hlt);obtain⟨x,ex⟩:∃x,t[i]=x:=⟨_,rfl⟩;rw[ex]at ix hsn hx1 hx2;simp only[cV]at ix;simp only[go_sem,r11,r13,ix,aes];refine .intro (fun q ρ' K=>Ab.Sub h K∧∃n:Nat,n≤x.length∧q=x.length - n∧lk ρ' 1=some (.sl (gs.map lO) .no)∧lk ρ' 5=some (.i (nH gs (t.take i):Nat))∧lk ρ' 8=some (.i (Aw gs (x.take n):Nat))∧lk ρ' 11=some (.sl (t.map cV) .no)∧lk ρ' 12=some (.i t.length)∧lk ρ' 13=some (.i i)∧lk ρ' 17=some (.sl (x.map jl) .no)∧lk ρ' 18=some (.i x.length)∧lk ρ' 19=some (.i n)) x.length ?_ ?_
   ·refine⟨hs,0,aeC,rfl,?_,?_,?_,?_,?_,?_,?_,?_,?_⟩<;>simp only[go_sem,r1,r5,r11,r12,r13]
    rfl
   ·rintro q ρ' K ⟨hs',n,hn,rfl,s1,s5,s8,s11,s12,s13,s17,s18,s19⟩
    simp only[go_sem,s18,s19];refine .intro (fun e=>?_) (fun e=>?_)
    ·have hlt2:n<x.length:=aez e
     have w2:IntKind.i64.wrap ((n:Int)+1)=((n+1:Nat):Int):=aeN;have hsn2:Aw gs (x.take (n+1))=max (Aw gs (x.take n)) (Dj gs x[n]):=by
      grind [Aw,List.take_succ_eq_append_getElem]
     have ix2:=fun k=>dR.eq (xs:=x.map jl) (sz:=1) n aeD aeQ k
     rw[aet]at ix2;have hx3:=hx2 x[n] (aex hlt2);obtain⟨l,el⟩:∃l,x[n]=l:=⟨_,rfl⟩;rw[el]at ix2 hsn2 hx3;simp only[jl]at ix2;simp only[go_sem,s1,s8,s17,s19,ix2];refine(hat l hx3 _).pthen ?_;simp only[go_sem,s19,Qd,w2];refine⟨_,?_,hs',n+1,aeC,rfl,?_,?_,?_,?_,?_,?_,?_,?_,?_⟩
     ·omega
     all_goals simp only[go_sem,s1,s5,s11,s12,s13,s17,s18,hsn2]
    ·have hge:n=x.length:=by grind
     subst hge;rw[List.take_length]at s8;simp only[go_sem,s5,s8,s13,IL,w1];refine⟨_,?_,hs',i+1,aeC,rfl,?_,?_,?_,?_,?_⟩
     ·omega
     all_goals simp only[go_sem,s1,s11,s12,hsn]
  ·have hge:i=t.length:=by grind
   exact ajZ
end Go.Proofs.YtelkmnkejghkeaaGreatDoor
namespace Go.Bf
open Go Go.Ab Go.Proofs.YtelkmnkejghkeaaGreatDoor
def AE(o:Bool)(n:Int):AV:=if o then .tup [.i 0,.i 3]else .tup [.i (w64 n),.i 0]
def rS(r:bu×Int):AV:=.tup [aS r.1,.i r.2]
end Go.Bf
namespace Go.Proofs.YtelkmnkejghkeaaGreatDoor
open Go Go.Ab Go.Bf Tryz
theorem Sn(a b:Int)(h:Heap):ai prog 319 [.i a,.i b] h fun r h' =>r=AE (LS a b) (a+b)∧h' =h:=by
 refine aeB func319 27 [.tmp 4,.tmp 5] fun hwf=>?_
 cases d1:decide (0<b)<;>cases d2:decide (IntKind.i64.wrap (9223372036854775807 - b)<a)<;>cases d3:decide (b<0)<;>cases d4:decide (a<IntKind.i64.wrap (-9223372036854775808 - b))
 all_goals
  simp only[go_sem,d1,d2,d3,d4];exact .same (.refl _) ⟨by simp only[AE,LS,w64,d1,d2,d3,d4];rfl,rfl⟩
theorem TO(a b:Int)(h:Heap):ai prog 320 [.i a,.i b] h fun r h' =>r=AE (Om a b) (a - b)∧h' =h:=by
 refine aeB func320 27 [.tmp 4,.tmp 5] fun hwf=>?_
 cases d1:decide (0<b)<;>cases d2:decide (a<IntKind.i64.wrap (-9223372036854775808+b))<;>cases d3:decide (b<0)<;>cases d4:decide (IntKind.i64.wrap (9223372036854775807+b)<a)
 all_goals
  simp only[go_sem,d1,d2,d3,d4];exact .same (.refl _) ⟨by simp only[AE,Om,w64,d1,d2,d3,d4];rfl,rfl⟩
theorem Tm(a b:Int)(h:Heap):ai prog 321 [.i a,.i b] h fun r h' =>r=AE (KD a b) (a*b)∧h' =h:=by
 refine aeB func321 36 [.tmp 4,.tmp 5] fun hwf=>?_
 cases d0:(a !=0)
 ·have e0:a=0:=by grind
  subst e0;cases d1:(b== -1)
  all_goals
   simp only[go_sem,d1];exact .same (.refl _) ⟨by simp[AE,KD,w64,ax],rfl⟩
 have e0:a≠0:=aeD;cases d1:(a== -1)<;>cases d2:(b== -9223372036854775808)<;>cases d3:(b== -1)<;>cases d4:(a== -9223372036854775808)<;>cases d5:(IntKind.i64.wrap ((IntKind.i64.wrap (a*b)).tdiv a) !=b)
 all_goals
  simp only[go_sem,d0,d1,d2,d3,d4,d5,e0];exact .same (.refl _) ⟨by simp only[AE,KD,w64,d0,d1,d2,d3,d4,d5];rfl,rfl⟩
theorem BZ(b:Bool)(h:Heap):ai prog 317 [.b b] h fun r h' =>r=aS (dM b)∧h' =h:=by
 refine aeB func317 8 [.cell 2 48] fun hwf=>?_
 simp only[go_sem];intro i1 h1;simp only[go_sem];intro i2 h2;have n21:=aI h2;have n2:=aB h2;cases b
 all_goals
  simp only[go_sem,ak,n21.symm];exact .mk _ (.refl _) ((((Sub.refl h).put h1 _).put n2 _).put h1 _) ⟨rfl,rfl⟩
theorem Cj(kind:Int)(l:List bu)(hl:l.length≤1000000)(p:Perm)(h:Heap):ai prog 322 [.i kind,.sl (l.map aS) p] h fun r h' =>r= .b (l.all fun v=>v.kind==kind)∧h' =h:=by
 refine aeB func322 18 [.tmp 4] fun hwf=>?_
 simp only[go_sem,aes];refine .intro (fun q ρ G=>Ab.Sub h G∧∃i:Nat,i≤l.length∧q=l.length - i∧(∀j (hj:j<i) (h2:j<l.length),(l[j].kind==kind)=true)∧lk ρ 0=some (.i kind)∧lk ρ 7=some (.sl (l.map aS) p)∧lk ρ 8=some (.i l.length)∧lk ρ 9=some (.i i)) l.length ?_ ?_
 ·refine⟨.refl _,0,aeC,rfl,fun j hj=>aeC,?_,?_,?_,?_⟩<;>simp only[go_sem]
 ·rintro q ρ G ⟨hs,i,hi,rfl,hc,r0,r7,r8,r9⟩
  simp only[go_sem,r8,r9];refine .intro (fun e=>?_) (fun e=>?_)
  ·have hlt:i<l.length:=aez e
   have w1:IntKind.i64.wrap ((i:Int)+1)=((i+1:Nat):Int):=aeN;have ix:=fun k=>dR.eq (xs:=l.map aS) (sz:=3) i aeD aeQ k
   rw[aet]at ix;have hci:=fun(d:(l[i].kind==kind)=true)=>(fun j (hj:j<i+1) (h2:j<l.length)=>(by
    grind:(l[j].kind==kind)=true))
   have hat:=fun(d:(l[i].kind==kind)=false)=>(List.all_eq_false.2 ⟨l[i],aex hlt,aeD⟩:(l.all fun v=>v.kind==kind)=false)
   obtain⟨v,ev⟩:∃v,l[i]=v:=⟨_,rfl⟩;rw[ev]at ix hci hat;simp only[aS]at ix;cases d1:(v.kind==kind)
   ·have d2:(v.kind !=kind)=true:=by grind
    simp only[go_sem,r7,r9,ix];intro i4 h4;simp only[go_sem,r0,d2];exact .mk _ (.refl _) (hs.trans (.aj h4)) ⟨aiD,rfl⟩
   ·have d2:(v.kind !=kind)=false:=by grind
    simp only[go_sem,r7,r9,ix];intro i4 h4;simp only[go_sem,r0,r9,d2,w1];refine⟨_,?_,hs.trans (.aj h4),i+1,aeC,rfl,hci d1,?_,?_,?_,?_⟩
    ·omega
    all_goals simp only[go_sem,r0,r7,r8]
  ·have hge:i=l.length:=by grind
   simp only[go_sem];exact .mk _ (.refl _) hs ⟨by rw[List.all_eq_true.2 fun x hx=>ahk];rfl,rfl⟩
theorem G0(g:FuncId)(a b:bu)(o:Bool)(n:Int)(hg:∀G,ai prog g [.i a.n,.i b.n] G fun r h' =>r=AE o n∧h' =G)(p:Perm)(h:Heap):
  ai prog 318 [.fn g [],.sl [aS a,aS b] p] h fun r h' =>r=rS (if([a,b].all fun v=>v.kind==2)then AF o n else oF 2)∧h' =h:=by
 have ix0:=fun k=>dR.eq (xs:=[aS a,aS b]) (sz:=3) 0 aeJ rfl k
 have ix1:=fun k=>dR.eq (xs:=[aS a,aS b]) (sz:=3) 1 aeJ rfl k
 simp only[List.getElem_cons_zero,List.getElem_cons_succ,aS,Int.natCast_zero,Int.natCast_one]at ix0 ix1;have hal:=fun(G:Heap)=>Cj 2 [a,b] aeJ p G
 simp only[List.map_cons,List.map_nil,aS]at hal;refine aeB func318 31 [.cell 4 48,.tmp 5] fun hwf=>?_
 simp only[go_sem,aS];intro i1 h1;simp only[go_sem];refine(hal _).pthen ?_;cases d1:([a,b].all fun v=>v.kind==2)
 ·simp only[go_sem]
  exact aeU
 ·simp only[go_sem]
  refine .quiet aeF ?_;simp only[go_sem,ix0,ix1];cases o
  ·refine⟨_,hg _,?_⟩
   simp only[go_sem,AE];exact aeU
  ·refine⟨_,hg _,?_⟩
   simp only[go_sem,AE];exact aeU
theorem xX{α:Type}{l:List α}(h:l.length=2):∃a b,l= [a,b]:=by
 match l,h with
 | [a,b],_=>exact⟨a,b,rfl⟩
def GS(op:Int)(l:List bu):Bool:= !(decide (op<6)||decide (13<op)||(l.length:Int) !=(if op==11 then 1 else 2)) && l.all bz
theorem Tj(op:Int)(l:List bu)(hl:l.length≤1000000)(p:Perm)(h:Heap):ai prog 316 [.i op,.sl (l.map aS) p] h fun r h' =>r= .b (GS op l)∧h' =h:=by
 have hvr:=fun(v:bu) (G:Heap)=>ga v G
 simp only[aS]at hvr;refine aeB func316 32 [.tmp 4] fun hwf=>?_
 cases d11:(op==11)
 all_goals
  have hmm:GS op l=(!(decide (op<6)||decide (13<op)||(l.length:Int) !=(if op==11 then 1 else 2)) && l.all bz):=rfl
  rw[d11]at hmm;simp only[if_true,Bool.false_eq_true,if_false]at hmm;cases d6:decide (op<6)
  case true=>
   rw[d6]at hmm;simp only[go_sem,d11,d6];exact .same (.refl _) ⟨by rw[hmm];rfl,rfl⟩
  cases d13:decide (13<op)
  case true=>
   rw[d6,d13]at hmm;simp only[go_sem,d11,d6,d13];exact .same (.refl _) ⟨by rw[hmm];rfl,rfl⟩
  rw[d6,d13]at hmm;simp only[Bool.or_false,Bool.false_or]at hmm;obtain⟨b,eb⟩:∃b,((l.length:Int) !=(if op==11 then 1 else 2))=b:=⟨_,rfl⟩
  rw[d11]at eb;simp only[if_true,Bool.false_eq_true,if_false]at eb;rw[eb]at hmm;cases b
  case true=>
   simp only[go_sem,d11,d6,d13,aes,eb];exact .same (.refl _) ⟨by rw[hmm];rfl,rfl⟩
  simp only[Bool.not_false,Bool.true_and]at hmm;simp only[go_sem,d11,d6,d13,aes,eb];refine .intro (fun q ρ G=>Ab.Sub h G∧∃i:Nat,i≤l.length∧q=l.length - i∧(∀j (hj:j<i) (h2:j<l.length),bz l[j]=true)∧lk ρ 22=some (.sl (l.map aS) p)∧lk ρ 23=some (.i l.length)∧lk ρ 24=some (.i i)) l.length ?_ ?_
  ·refine⟨.refl _,0,aeC,rfl,fun j hj=>aeC,?_,?_,?_⟩<;>simp only[go_sem]
  ·rintro q ρ G ⟨hs,i,hi,rfl,hc,r22,r23,r24⟩
   simp only[go_sem,r23,r24];refine .intro (fun e=>?_) (fun e=>?_)
   ·have hlt:i<l.length:=aez e
    have w1:IntKind.i64.wrap ((i:Int)+1)=((i+1:Nat):Int):=aeN;have ix:=fun k=>dR.eq (xs:=l.map aS) (sz:=3) i aeD aeQ k
    rw[aet]at ix;have hci:=fun(d:bz l[i]=true)=>(fun j (hj:j<i+1) (h2:j<l.length)=>(by
     grind:bz l[j]=true))
    have hat:=fun(d:bz l[i]=false)=>(List.all_eq_false.2 ⟨l[i],aex hlt,aeD⟩:l.all bz=false)
    obtain⟨v,ev⟩:∃v,l[i]=v:=⟨_,rfl⟩;rw[ev]at ix hci hat;simp only[aS]at ix;simp only[go_sem,r22,r24,ix];intro i4 h4;simp only[go_sem];refine(hvr v _).pthen ?_;cases d1:bz v
    ·simp only[go_sem]
     exact .mk _ (.refl _) (hs.trans (.aj h4)) ⟨by rw[hmm,hat d1];rfl,rfl⟩
    ·simp only[go_sem,r24,w1]
     refine⟨_,?_,hs.trans (.aj h4),i+1,aeC,rfl,hci d1,?_,?_,?_⟩
     ·omega
     all_goals simp only[go_sem,r22,r23]
   ·have hge:i=l.length:=by grind
    simp only[go_sem];exact .mk _ (.refl _) hs ⟨by rw[hmm,List.all_eq_true.2 fun x hx=>ahk];rfl,rfl⟩
theorem Mg{op:Int}{l:List bu}(h:GS op l=false):ig op l=oF 1:=by
 unfold ig;rw[if_pos]
 by_cases h1:6≤op∧op≤13
 ·by_cases h2:l.length=if op=11 then 1 else 2
  ·refine .inr (.inr ?_)
   unfold GS at h
   grind
  omega
 omega
theorem Jx{op:Int}{l:List bu}(h:GS op l=true):(6≤op∧op≤13)∧l.all bz=true∧(op=11∧(∃a,l= [a])∨op≠11∧∃a b,l= [a,b]):=by
 unfold GS at h;simp only[Bool.and_eq_true,Bool.not_eq_true',Bool.or_eq_false_iff,decide_eq_false_iff_not]at h;obtain⟨⟨⟨h1,h2⟩,h3⟩,h4⟩:=h;refine⟨aeC,h4,?_⟩
 by_cases e:op=11
 ·subst e
  have h3' :(l.length:Int)=1:=aeD;exact .inl ⟨rfl,List.length_eq_one_iff.1 aeC⟩
 ·have h3' :(l.length:Int)=2:=by grind
  exact .inr ⟨e,xX aeC⟩
theorem Cn(op:Int)(l:List bu)(hl:l.length≤1000000)(p:Perm)(h:Heap):ai prog 313 [.i op,.sl (l.map aS) p] h fun r h' =>r=rS (ig op l)∧h' =h:=by
 have hmy:=fun G=>Tj op l hl p G
 cases dm:GS op l
 ·rw[dm]at hmy
  refine aeB func313 111 [.cell 4 48,.tmp 5] fun hwf=>?_
  simp only[go_sem];intro i1 h1;simp only[go_sem];refine(hmy _).pthen ?_;simp only[go_sem];exact .mk _ (.refl _) (.aj h1) ⟨by rw[Mg dm];rfl,rfl⟩
 rw[dm]at hmy;obtain⟨hop,hall,hf⟩:=Jx dm;rcases hf with⟨rfl,a,rfl⟩|⟨e11,a,b,rfl⟩
 ·have ix0:=fun k=>dR.eq (xs:=[aS a]) (sz:=3) 0 aeJ rfl k
  simp only[List.getElem_cons_zero,aS,Int.natCast_zero]at ix0;have hal:=fun(G:Heap)=>Cj 1 [a] aeJ p G
  simp only[List.map_cons,List.map_nil,aS]at hal hmy;have hc:ig 11 [a]=if(([a].all fun v=>v.kind==1)=false)then oF 2 else(dM (a.n==0),0):=by
   unfold ig;rw[if_neg (by simp[hall])]
   simp
  have htr:=fun G=>BZ (a.n==0) G
  refine aeB func313 111 [.cell 4 48,.tmp 5] fun hwf=>?_
  simp only[go_sem,List.map_cons,List.map_nil,aS];intro i1 h1;simp only[go_sem];refine(hmy _).pthen ?_;simp only[go_sem];refine(hal _).pthen ?_;cases d1:([a].all fun v=>v.kind==1)
  ·simp only[go_sem]
   exact .mk _ (.refl _) (.aj h1) ⟨by rw[hc,if_pos d1];rfl,rfl⟩
  ·simp only[go_sem,ix0]
   refine(htr _).pthen ?_;simp only[go_sem,aS];exact .mk _ (.refl _) (.aj h1) ⟨by rw[hc,if_neg (by rw[d1];decide)];rfl,rfl⟩
 ·have ix0:=fun k=>dR.eq (xs:=[aS a,aS b]) (sz:=3) 0 aeJ rfl k
  have ix1:=fun k=>dR.eq (xs:=[aS a,aS b]) (sz:=3) 1 aeJ rfl k
  simp only[List.getElem_cons_zero,List.getElem_cons_succ,aS,Int.natCast_zero,Int.natCast_one]at ix0 ix1;have hal:=fun(G:Heap)=>Cj 1 [a,b] aeJ p G
  have hva:bz a=true∧bz b=true:=by simpa using hall
  have hnu:=fun(g:FuncId) (o:Bool) (n:Int) hg (G:Heap)=>G0 g a b o n hg p G
  simp only[List.map_cons,List.map_nil,aS]at hal hmy hnu;have hle:=fun G=>CJ a b G
  simp only[aS]at hle;have htr:=fun(x:Bool) G=>BZ x G
  have hc:ig op [a,b]=if op=6 then(if a.kind=b.kind then(dM (eqV a b),0)else oF 2)
    else if op=7 then(match nZ a b with
     |some x=>(dM x,0)
     |none=>oF 2)
    else if op=8∨op=9∨op=10 then
     (if [a,b].all fun v=>v.kind==2 then(if op=8 then AF (LS a.n b.n) (a.n+b.n)else if op=9 then AF (Om a.n b.n) (a.n - b.n)else AF (KD a.n b.n) (a.n*b.n))else oF 2)
    else if([a,b].all fun v=>v.kind==1)=false then oF 2
    else if op=12 then(dM (a.n==1 && b.n==1),0)
    else(dM (a.n==1||b.n==1),0):=by
   unfold ig;rw[if_neg (by simp[hall,e11,hop.1,hop.2])]
   simp only[e11,if_false];rfl
  refine aeB func313 111 [.cell 4 48,.tmp 5] fun hwf=>?_
  simp only[go_sem,List.map_cons,List.map_nil,aS];intro i1 h1;simp only[go_sem];refine(hmy _).pthen ?_;rcases(show op=6∨op=7∨op=8∨op=9∨op=10∨op=12∨op=13 by omega)with rfl|rfl|rfl|rfl|rfl|rfl|rfl
  ·simp only[go_sem]
   refine⟨.of aeF,?_⟩;cases dk:(a.kind !=b.kind)
   case true=>
    simp only[go_sem,ix0,ix1,dk];exact .mk _ (.refl _) (.aj h1) ⟨by rw[hc,if_pos rfl,if_neg (by simpa using dk)];rfl,rfl⟩
   ·simp only[go_sem,ix0,ix1,dk]
    refine .calls cS [0,1,2,3,4,5,6,7,8,9] (fun _ _ e=>ae2) aeF rfl ?_
    simp only[go_sem,ix0,ix1];have htr1:=htr (eqV a b);simp only[eqV]at htr1;refine(htr1 _).pthen ?_;refine⟨fun _ _ e=>ae2,?_⟩
    simp only[go_sem,aS];refine⟨fun _ _ e=>ae2,?_⟩
    exact .mk _ (.refl _) (.aj h1) ⟨by rw[hc,if_pos rfl,if_pos (by simpa using dk)];rfl,rfl⟩
  ·have hc7:ig 7 [a,b]=(match nZ a b with
     |some x=>(dM x,0)
     |none=>oF 2):=by rw[hc];rfl
   simp only[go_sem];refine .quiet aeF ?_;simp only[go_sem,ix0,ix1];refine⟨_,hle _,?_⟩;cases hl:nZ a b with
   |none=>
    have e2:zm a b=2:=by simp[zm,hva]
    rw[hl]at hc7;simp only[go_sem,lR,hl,e2];exact .mk _ (.refl _) (.aj h1) ⟨by rw[hc7];rfl,rfl⟩
   |some x=>
    rw[hl]at hc7;simp only[go_sem,lR,hl];refine(htr x _).pthen ?_;simp only[go_sem,aS];exact .mk _ (.refl _) (.aj h1) ⟨by rw[hc7];rfl,rfl⟩
  ·have hc8:ig 8 [a,b]=if [a,b].all (fun v=>v.kind==2)then AF (LS a.n b.n) (a.n+b.n)else oF 2:=by rw[hc];rfl
   have hg:=hnu 319 _ _ (fun G=>Sn a.n b.n G)
   rw[←hc8]at hg;obtain⟨⟨v,e⟩,ex⟩:∃x,ig 8 [a,b]=x:=⟨_,rfl⟩;exact ajh
  ·have hc8:ig 9 [a,b]=if [a,b].all (fun v=>v.kind==2)then AF (Om a.n b.n) (a.n - b.n)else oF 2:=by rw[hc];rfl
   have hg:=hnu 320 _ _ (fun G=>TO a.n b.n G)
   rw[←hc8]at hg;obtain⟨⟨v,e⟩,ex⟩:∃x,ig 9 [a,b]=x:=⟨_,rfl⟩;exact ajh
  ·have hc8:ig 10 [a,b]=if [a,b].all (fun v=>v.kind==2)then AF (KD a.n b.n) (a.n*b.n)else oF 2:=by rw[hc];rfl
   have hg:=hnu 321 _ _ (fun G=>Tm a.n b.n G)
   rw[←hc8]at hg;obtain⟨⟨v,e⟩,ex⟩:∃x,ig 10 [a,b]=x:=⟨_,rfl⟩;exact ajh
  ·have hc12:ig 12 [a,b]=if([a,b].all fun v=>v.kind==1)=false then oF 2 else(dM (a.n==1 && b.n==1),0):=by rw[hc];rfl
   simp only[go_sem];refine(hal _).pthen ?_;cases d1:([a,b].all fun v=>v.kind==1)
   ·simp only[go_sem]
    exact .mk _ (.refl _) (.aj h1) ⟨by rw[hc12,if_pos d1];rfl,rfl⟩
   ·rw[if_neg (by rw[d1];decide)]at hc12
    cases da:(a.n==1)<;>cases db:(b.n==1)
    all_goals
     rw[da,db]at hc12;simp only[go_sem,ix0,ix1,da,db];refine(htr _ _).pthen ?_;simp only[go_sem,aS];exact .mk _ (.refl _) (.aj h1) ⟨by rw[hc12];rfl,rfl⟩
  ·have hc13:ig 13 [a,b]=if([a,b].all fun v=>v.kind==1)=false then oF 2 else(dM (a.n==1||b.n==1),0):=by rw[hc];rfl
   simp only[go_sem];refine(hal _).pthen ?_;cases d1:([a,b].all fun v=>v.kind==1)
   ·simp only[go_sem]
    exact .mk _ (.refl _) (.aj h1) ⟨by rw[hc13,if_pos d1];rfl,rfl⟩
   ·rw[if_neg (by rw[d1];decide)]at hc13
    cases da:(a.n==1)<;>cases db:(b.n==1)
    all_goals
     rw[da,db]at hc13;simp only[go_sem,ix0,ix1,da,db];refine(htr _ _).pthen ?_;simp only[go_sem,aS];exact .mk _ (.refl _) (.aj h1) ⟨by rw[hc13];rfl,rfl⟩
end Go.Proofs.YtelkmnkejghkeaaGreatDoor
namespace Go.Bf
open Go Go.Ab Go.Proofs.YtelkmnkejghkeaaGreatDoor
def bO(x:jP):AV:=.agg [.sl (x.bag.map aS) .no,.i x.v.kind,.i x.v.n,.s x.v.s,.i x.e]
end Go.Bf
namespace Go.Proofs.YtelkmnkejghkeaaGreatDoor
open Go Go.Ab Go.Bf Tryz
variable {gs:List bt}{op:Int}{val:bu}{attr:qI}{l:List jP}
theorem S7(x:jP)(n:Int)(h:Heap):ai prog 276 [bO x,.i n] h fun r h' =>r= .b (isI x n)∧h' =h:=by
 refine aeB func276 15 [.tmp 4] fun hwf=>?_
 simp only[go_sem,bO];exact ajd
theorem PL(x:jP)(n:Int)(h:Heap):ai prog 276 [.agg [.sl [] .full,.i x.v.kind,.i x.v.n,.s x.v.s,.i x.e],.i n] h fun r h' =>r= .b (isI x n)∧h' =h:=by
 refine aeB func276 15 [.tmp 4] fun hwf=>?_
 simp only[go_sem];exact ajd
theorem we(b:Bool)(h:Heap):ai prog 311 [.b b] h fun r h' =>r=bO (jq b)∧h' =h:=by
 refine aeB func311 10 [.cell 2 373] fun hwf=>?_
 simp only[go_sem];intro i1 h1;simp only[go_sem];intro i2 h2;have n21:=aI h2;have n2:=aB h2;cases b
 all_goals
  simp only[go_sem,ak,n21.symm];refine .mk (bO (jq _)) ?_ ((((Sub.refl h).put h1 _).put n2 _).put h1 _) ⟨rfl,rfl⟩;refine .agg _ _ rfl fun i a b=>?_
  rcases i with _|_|_|_|_|i
  ·exact ahg
  all_goals first|exact .refl _|(simp at a;omega)
theorem Ga(op:Int)(h:Heap):ai prog 297 [.i op] h fun r h' =>r= .i (opsOf op:Nat)∧h' =h:=by
 refine aeB func297 11 [.tmp 2] fun hwf=>?_
 cases d1:(op==1)
 case true=>simp only[go_sem,d1];exact .same (.refl _) ⟨by rw[opsOf,if_pos (.inl aeD)];rfl,rfl⟩
 cases d2:(op==2)
 case true=>simp only[go_sem,d1,d2];exact .same (.refl _) ⟨by rw[opsOf,if_pos (.inr aeD)];rfl,rfl⟩
 have e1:¬(op=1∨op=2):=aeD;cases d3:(op==3)
 case true=>simp only[go_sem,d1,d2,d3];exact .same (.refl _) ⟨by rw[opsOf,if_neg e1,if_pos (.inl aeD)];rfl,rfl⟩
 cases d4:(op==4)
 case true=>simp only[go_sem,d1,d2,d3,d4];exact .same (.refl _) ⟨by rw[opsOf,if_neg e1,if_pos (.inr (.inl aeD))];rfl,rfl⟩
 cases d5:(op==11)
 case true=>simp only[go_sem,d1,d2,d3,d4,d5];exact .same (.refl _) ⟨by rw[opsOf,if_neg e1,if_pos (.inr (.inr aeD))];rfl,rfl⟩
 have e2:¬(op=3∨op=4∨op=11):=aeD;simp only[go_sem,d1,d2,d3,d4,d5];exact .same (.refl _) ⟨by rw[opsOf,if_neg e1,if_neg e2];rfl,rfl⟩
theorem GG(vs:List bu)(hl:vs.length≤1000000000)(x:bu)(p:Perm)(h:Heap):
  ai prog 323 [.sl (vs.map aS) p,aS x] h fun r h' =>r= .i (ixD (fun y=>eqV x y) vs)∧h' =h:=by
 refine aeB func323 19 [.tmp 4] fun hwf=>?_
 simp only[go_sem,aS];intro i1 h1;simp only[go_sem,aes];refine .intro (fun m ρ G=>G=upd h i1 (some (.obj [.i x.kind,.i x.n,.s x.s] 48))∧∃i:Nat,i≤vs.length∧m=vs.length - i∧(∀j (hj:j<i) (h2:j<vs.length),eqV x vs[j]=false)∧lk ρ 0=some (.sl (vs.map aS) p)∧lk ρ 3=some (.ptr i1 0)∧lk ρ 7=some (.i vs.length)∧lk ρ 8=some (.i i)) vs.length ?_ ?_
 ·refine⟨rfl,0,aeC,rfl,fun j hj=>aeC,?_,?_,?_,?_⟩<;>simp only[go_sem]
 ·rintro m ρ G ⟨rfl,i,hi,rfl,hc,r0,r3,r7,r8⟩
  simp only[go_sem,r7,r8];refine .intro (fun e=>?_) (fun e=>?_)
  ·have hlt:i<vs.length:=aez e
   have w1:IntKind.i64.wrap ((i:Int)+1)=((i+1:Nat):Int):=aeN;have ix:=fun k=>dR.eq (xs:=vs.map aS) (sz:=3) i aeD aeQ k
   rw[aet]at ix;have hci:=fun(d:eqV x vs[i]=false)=>(fun j (hj:j<i+1) (h2:j<vs.length)=>(by
    grind:eqV x vs[j]=false))
   have hat:=fun(d:eqV x vs[i]=true)=>oJ (q:=fun y=>eqV x y) hlt d fun j hj=>hc j hj aeC
   obtain⟨v,ev⟩:∃v,vs[i]=v:=⟨_,rfl⟩;rw[ev]at ix hci hat;simp only[aS]at ix;simp only[go_sem,r0,r3,r8];refine⟨.of aeF,?_⟩;cases d1:eqV x v
   ·have d2:=d1
    simp only[eqV]at d2;simp only[go_sem,r8,ix,d2,w1];refine⟨_,?_,rfl,i+1,aeC,rfl,hci d1,?_,?_,?_,?_⟩
    ·omega
    all_goals simp only[go_sem,r0,r3,r7]
   ·have d2:=d1
    simp only[eqV]at d2;simp only[go_sem,ix,d2];exact .mk _ (.refl _) (.aj h1) ⟨aiD,rfl⟩
  ·have hge:i=vs.length:=by grind
   simp only[go_sem];exact .mk _ (.refl _) (.aj h1) ⟨ae7,rfl⟩
theorem Pa{vs:List bu}{x:bu}:decide ((0:Int)≤ixD (fun y=>eqV x y) vs)=vs.any fun v=>eqV v x:=by
 have hsy:(fun v=>eqV v x)=fun v=>eqV x v:=by simp[funext,eqV,BEq.comm]
 rw[vj,hsy]
theorem Q2(vs:List bu)(hl:vs.length≤1000000000)(x:bu)(p:Perm)(h:Heap):ai prog 312 [.sl (vs.map aS) p,aS x] h fun r h' =>r= .b (vs.any fun v=>eqV v x)∧h' =h:=by
 have h1:∀G,ai prog 315 [.sl (vs.map aS) p,aS x] G fun r h' =>r= .b (vs.any fun v=>eqV v x)∧h' =G:=fun G=>by
  have hq:=fun K=>GG vs hl x p K
  refine aeB func315 9 [.tmp 4] fun hwf=>?_
  simp only[go_sem,aS];intro i1 h1;simp only[go_sem];refine(hq _).pthen ?_;simp only[go_sem,Pa];exact aeU
 refine aeB func312 8 [.tmp 4] fun hwf=>?_
 simp only[go_sem,aS];intro i1 h1';simp only[go_sem];refine(h1 _).pthen ?_;simp only[go_sem];exact .mk _ (.refl _) (.aj h1') ⟨rfl,rfl⟩
theorem lQ{L:List AV}{x:jP}(hL:L=x.bag.map aS)(q:Perm):Weak (.agg [.sl L q,.i x.v.kind,.i x.v.n,.s x.v.s,.i x.e]) (bO x):=by
 subst hL;refine .agg _ _ rfl fun i a b=>?_
 rcases i with _|_|_|_|_|i
 ·exact ahg
 all_goals first|exact .refl _|(simp at a;omega)
theorem uy(op:Int):opsOf op≤2:=by grind [opsOf]
theorem vI{x:jP}(h1:op≠1)(h2:op≠2)(hno:¬((op=12∨op=13)∧(l.any fun x=>isI x (op - 12))=true))(hx:l.find? (fun x=>x.e !=0)=some x):lT gs ⟨op,val,attr⟩ l=⟨[],aq,x.e⟩:=by simp_all [lT,if_neg]
theorem vH(h1:op≠1)(h2:op≠2)(hno:¬((op=12∨op=13)∧(l.any fun x=>isI x (op - 12))=true))(hx:l.find? (fun x=>x.e !=0)=none):lT gs ⟨op,val,attr⟩ l=(if op=3 then(match (l.headD ⟨[],aq,0⟩).bag with
    | [v]=>⟨[],v,0⟩
    |_=>⟨[],aq,4⟩)
   else if op=4 then⟨[],⟨2,(l.headD ⟨[],aq,0⟩).bag.length,[]⟩,0⟩
   else if op=5 then jq ((l.headD ⟨[],aq,0⟩).bag.any fun v=>eqV v (l.getD 1 ⟨[],aq,0⟩).v)
   else Go.Bf.AT (ig op (l.map (·.v)))):=by
 unfold lT;simp only[if_neg h1,if_neg h2,if_neg hno,hx]
 all_goals rfl
theorem Qg{h:Heap}{y:AV}(n:aR)(hop:1≤n.op∧n.op≤13)(l:List jP)(hb:Rd h 5 y (l.map bO))(hl:l.length=opsOf n.op)(hbag:∀x∈l,x.bag.length≤1000000)(gs:List bt)(hf:sA gs):
  ai prog 298 [dL n,y,bJ gs] h fun r h' =>r=bO (lT gs n l)∧h' =h:=by
 obtain⟨op,val,attr⟩:=n;simp only at hop hl;have hl2:l.length≤2:=by rw[hl];exact uy op
 have uV:(U 48).sz=3:=aeM;have hg:=fun G=>It gs attr.cat attr.name attr.must (by have:=hf.1;omega) hf.2 G
 simp only[bJ]at hg;refine aeB func298 122 [.cell 6 373] fun hwf=>?_
 simp only[go_sem,dL,bJ];intro i3 h3;simp only[go_sem];intro i6 h6;have n63:=aI h6;have n6' :=aB h6;obtain⟨H0,eH⟩:∃H0,upd (upd h i3 (some (.obj [.i op,.i val.kind,.i val.n,.s val.s,.i attr.cat,.s attr.name,.b attr.must] 218))) i6 (some (.obj [.sl [] .full,.i 0,.i 0,.s [],.i 0] 373))=H0:=⟨_,rfl⟩;have hH0:Ab.Sub h H0:=ahA;have g3:H0 i3=some (.obj [.i op,.i val.kind,.i val.n,.s val.s,.i attr.cat,.s attr.name,.b attr.must] 218):=by rw[←eH,ag _ _ n63.symm,ah]
 have g6:H0 i6=some (.obj [.sl [] .full,.i 0,.i 0,.s [],.i 0] 373):=af5;rw[eH];clear eH;cases d1:(op==1)
 case true=>
  have e1:op=1:=ahB;simp only[go_sem,d1,g3,g6];exact .mk (bO ⟨[],val,0⟩) (lQ (x:=⟨[],val,0⟩) rfl _) (hH0.put n6' _) ⟨by unfold lT;simp only[e1,if_true],rfl⟩
 have hp1' :op≠1:=ahB;cases d2:(op==2)
 case true=>
  have e2:op=2:=by simpa using d2
  simp only[go_sem,d1,d2,g3];refine(hg _).pthen ?_
  by_cases hh:yB gs attr= []∧attr.must=true
  ·have hh2:Go.Bf.getD gs attr.cat attr.name= []∧attr.must=true:=hh
   simp only[go_sem,J8,if_pos hh2,g6];exact .mk (bO ⟨[],aq,4⟩) (lQ (x:=⟨[],aq,4⟩) rfl _) (hH0.put n6' _) ⟨by unfold lT;simp only[e2,if_neg (show¬(2:Int)=1 by decide),if_true,if_pos hh],rfl⟩
  ·have hh2:¬(Go.Bf.getD gs attr.cat attr.name= []∧attr.must=true):=hh
   simp only[go_sem,J8,if_neg hh2,g6];exact .mk (bO ⟨yB gs attr,aq,0⟩) (lQ (x:=⟨yB gs attr,aq,0⟩) rfl _) (hH0.put n6' _) ⟨by unfold lT;simp only[e2,if_neg (show¬(2:Int)=1 by decide),if_true,if_neg hh],rfl⟩
 have hp2' :op≠2:=by simpa using d2
 have his:=fun(x:jP) (m:Int) (G:Heap)=>S7 x m G
 simp only[bO]at his;cases d12:(op==12)
 case true=>
  have e12:op=12:=by simpa using d12
  have htr:=fun G=>we false G
  simp only[bO]at htr;obtain⟨a,b,hab⟩:∃a b,l= [a,b]:=xX (by rw[hl,e12];rfl)
  have wk:IntKind.i64.wrap (op - 12)=0:=ahh;have han:(l.any fun x=>isI x (op - 12))=(isI a 0||isI b 0):=by rw[hab,e12];simp
  have hb0:l.map bO= [bO a,bO b]:=by rw[hab];rfl
  have q3:(op==3)=false:=ahh;have q4:(op==4)=false:=ahh;have q5:(op==5)=false:=ahh;have hbH:=hb.sub hH0;simp only[go_sem,d2,d1,d12,g3,wk];refine hbH.idx (e:=373) 0 rfl agO aeM aeG fun p hp1=>?_
  have hld:=hp1.all (U:=U) (ty:=373) aeM afN afN;simp only[go_sem,hld,hb0,List.getElem_cons_zero,bO];refine(his a 0 _).pthen ?_;cases da:isI a 0
  ·simp only[go_sem]
   refine hbH.idx (e:=373) 1 rfl agO aeM aeG fun p hp1=>?_
   have hld:=hp1.all (U:=U) (ty:=373) aeM afn afn;simp only[go_sem,hld,hb0,List.getElem_cons_succ,List.getElem_cons_zero,bO];refine(his b 0 _).pthen ?_;cases db:isI b 0
   ·exact aiO
   ·simp only[go_sem]
    refine(htr _).pthen ?_;simp only[go_sem,g6];exact .mk (bO (jq false)) (lQ (x:=(jq false)) rfl _) (hH0.put n6' _) ⟨by unfold lT;rw[han,da,db];simp[e12]<;>rfl,rfl⟩
  ·simp only[go_sem]
   refine(htr _).pthen ?_;simp only[go_sem,g6];exact .mk (bO (jq false)) (lQ (x:=(jq false)) rfl _) (hH0.put n6' _) ⟨by unfold lT;rw[han,da];simp[e12]<;>rfl,rfl⟩
 have hn12:op≠12:=by simpa using d12
 cases d13:(op==13)
 case true=>
  have e12:op=13:=by simpa using d13
  have htr:=fun G=>we true G
  simp only[bO]at htr;obtain⟨a,b,hab⟩:∃a b,l= [a,b]:=xX (by rw[hl,e12];rfl)
  have wk:IntKind.i64.wrap (op - 12)=1:=ahh;have han:(l.any fun x=>isI x (op - 12))=(isI a 1||isI b 1):=by rw[hab,e12];simp
  have hb0:l.map bO= [bO a,bO b]:=by rw[hab];rfl
  have q3:(op==3)=false:=ahh;have q4:(op==4)=false:=ahh;have q5:(op==5)=false:=ahh;have hbH:=hb.sub hH0;simp only[go_sem,d1,d2,d12,d13,g3,wk];refine hbH.idx (e:=373) 0 rfl agO aeM aeG fun p hp1=>?_
  have hld:=hp1.all (U:=U) (ty:=373) aeM afN afN;simp only[go_sem,hld,hb0,List.getElem_cons_zero,bO];refine(his a 1 _).pthen ?_;cases da:isI a 1
  ·simp only[go_sem]
   refine hbH.idx (e:=373) 1 rfl agO aeM aeG fun p hp1=>?_
   have hld:=hp1.all (U:=U) (ty:=373) aeM afn afn;simp only[go_sem,hld,hb0,List.getElem_cons_succ,List.getElem_cons_zero,bO];refine(his b 1 _).pthen ?_;cases db:isI b 1
   ·exact aiO
   ·simp only[go_sem]
    refine(htr _).pthen ?_;simp only[go_sem,g6];exact .mk (bO (jq true)) (lQ (x:=(jq true)) rfl _) (hH0.put n6' _) ⟨by unfold lT;rw[han,da,db];simp[e12]<;>rfl,rfl⟩
  ·simp only[go_sem]
   refine(htr _).pthen ?_;simp only[go_sem,g6];exact .mk (bO (jq true)) (lQ (x:=(jq true)) rfl _) (hH0.put n6' _) ⟨by unfold lT;rw[han,da];simp[e12]<;>rfl,rfl⟩
 have hn13:op≠13:=by simpa using d13
 have hno:¬((op=12∨op=13)∧(l.any fun x=>isI x (op - 12))=true):=fun hh=>hh.1.elim hn12 hn13
 simp only[go_sem,d1,d2,d12,d13,g3,hb.len,aes];refine .intro (fun m ρ H=>∃(i:Nat) (z:AV),Acc U 48 H0 H z ((l.take i).map fun x=>aS x.v)∧i≤l.length∧m=l.length - i∧(∀j (h1:j<l.length),j<i→l[j].e=0)∧lk ρ 1=some y∧lk ρ 3=some (.ptr i3 0)∧lk ρ 6=some (.ptr i6 0)∧lk ρ 10=some z∧lk ρ 55=some y∧lk ρ 56=some (.i l.length)∧lk ρ 57=some (.i i)) l.length ?_ ?_
 ·refine⟨0,.sl [] .full,.full (.refl _),aeC,rfl,fun j _ hj=>aeC,?_,?_,?_,?_,?_,?_,?_⟩<;>simp only[go_sem]
 ·rintro m ρ H ⟨i,z,hz,hi,rfl,hc,r1,r3,r6,r10,r55,r56,r57⟩
  have hsH:=hH0.trans hz.1;have hbH:=hb.sub hsH;have k3:=hz.1 _ _ g3;have k6:=hz.1 _ _ g6;simp only[go_sem,r56,r57];refine .intro (fun e=>?_) (fun e=>?_)
  ·have hlt:i<l.length:=aez e
   have w1:=aey i aeC;have hsn:(l.take (i+1)).map (fun x=>aS x.v)=(l.take i).map (fun x=>aS x.v)++ [aS l[i].v]:=afR
   simp only[go_sem,r55,r57];refine hbH.idx (e:=373) i rfl aeX aeM aeG fun p hp1=>?_
   have hld:=hp1.all (U:=U) (ty:=373) aeM afh afh;obtain⟨x,ex⟩:∃x,l[i]=x:=⟨_,rfl⟩;rw[ex]at hsn;simp only[go_sem,hld,aet,ex,bO];intro i12 h12;have n126:i12≠i6:=fun e=>agE
   cases dx:(x.e !=0)
   ·have dx' :x.e=0:=by simpa using dx
    simp only[go_sem,r10,dx];refine(hz.sub (.aj h12)).app (zs:=[aS x.v]) aeH aeH (fun k hk=>hk) afW agd aeV fun z' H' hz' kp=>?_
    simp only[go_sem,r57,w1];refine⟨_,?_,i+1,z',by rw[hsn];exact hz',aeC,rfl,fun j h1 hj=>?_,?_,?_,?_,?_,?_,?_,?_⟩
    ·omega
    ·by_cases hji:j=i
     ·subst hji;rw[ex];exact dx'
     ·exact hc j h1 aeC
    all_goals simp only[go_sem,r1,r3,r6,r55,r56]
   ·have hfi:l.find? (fun x=>x.e !=0)=some x:=by rw[←ex];exact List.find?_eq_some_iff_getElem.2 ⟨by rw[ex];exact dx,i,hlt,rfl,fun j hj=>ah5⟩
    simp only[go_sem,r6,dx,ak,n126.symm,k6];exact .mk (bO ⟨[],aq,x.e⟩) (lQ (x:=⟨[],aq,x.e⟩) rfl _) ((hsH.trans (.aj h12)).put n6' _) ⟨ahS,rfl⟩
  ·have hge:i=l.length:=by have:=aev e;omega
   subst hge;have hfi:l.find? (fun x=>x.e !=0)=none:=List.find?_eq_none.2 fun x hx=>by
    obtain⟨j,hj,rfl⟩:=List.mem_iff_getElem.1 hx;rw[hc j hj hj];decide
   have hnd:=vH (gs:=gs) (val:=val) (attr:=attr) hp1' hp2' hno hfi;rw[List.take_length]at hz;obtain⟨qz,eqz⟩:=hz.row;subst eqz;have hcl:=fun G=>Cn op (l.map (·.v)) ahL qz G
   rw[List.map_map]at hcl;have hcl:∀G,ai prog 313 [.i op,.sl (l.map fun x=>aS x.v) qz] G fun r h' =>r=rS (ig op (l.map (·.v)))∧h' =G:=hcl
   cases d3:(op==3)
   case true=>
    have e3:op=3:=aiu;obtain⟨a,ha⟩:∃a,l= [a]:=List.length_eq_one_iff.1 (by rw[hl,e3];rfl)
    have hb0:l.map bO= [bO a]:=by rw[ha];rfl
    simp only[e3,if_true,ha,List.headD_cons]at hnd;simp only[go_sem,r1,r3,k3,d3];refine hbH.idx (e:=373) 0 rfl agO aeM aeG fun p hp1=>?_
    (try simp only[go_sem])
    refine hp1.field (f:=0) (off:=0) (t:=174) rfl afr fun p2 hp2=>?_
    have hld:=hp2.part (U:=U) (ty:=174) afr afD;simp only[hb0,List.getElem_cons_zero,bO,AV.cells]at hld;cases db:((a.bag.length:Int) !=1)
    ·have hb1:(a.bag.length:Int)=1:=by simpa using db
     obtain⟨v,hv⟩:=List.length_eq_one_iff.1 (show a.bag.length=1 by omega)
     rw[hv]at hnd hld;have iv:=fun K=>dR.eq (xs:=[aS v]) (sz:=3) 0 aeJ rfl K
     simp only[List.getElem_cons_zero,aS,Int.natCast_zero]at iv;simp only[go_sem,r1,hld,List.map_cons,List.map_nil,aS];refine hbH.idx (e:=373) 0 rfl agO aeM aeG fun p hp1=>?_
     (try simp only[go_sem])
     refine hp1.field (f:=0) (off:=0) (t:=174) rfl afr fun p2 hp2=>?_
     have hld:=hp2.part (U:=U) (ty:=174) afr afD;simp only[hb0,List.getElem_cons_zero,bO,AV.cells,hv,List.map_cons,List.map_nil,aS]at hld;simp only[go_sem,hld,iv,r6,k6];exact .mk (bO ⟨[],v,0⟩) (lQ (x:=⟨[],v,0⟩) rfl _) (hsH.put n6' _) ⟨by rw[e3,ha,hnd]<;>rfl,rfl⟩
    ·simp only[go_sem,hld,aes,db,r6,k6]
     refine .mk (bO ⟨[],aq,4⟩) (lQ (x:=⟨[],aq,4⟩) rfl _) (hsH.put n6' _) ⟨?_,rfl⟩;rw[e3,ha,hnd]
     congr 1
     split
     ·rename_i v hv;rw[hv]at db;simp at db
     ·rfl
   cases d4:(op==4)
   case true=>
    have e4:op=4:=by simpa using d4
    obtain⟨a,ha⟩:∃a,l= [a]:=List.length_eq_one_iff.1 (by rw[hl,e4];rfl)
    have hb0:l.map bO= [bO a]:=by rw[ha];rfl
    simp only[go_sem,r1,r3,k3,d3,d4];refine hbH.idx (e:=373) 0 rfl agO aeM aeG fun p hp1=>?_
    (try simp only[go_sem])
    refine hp1.field (f:=0) (off:=0) (t:=174) rfl afr fun p2 hp2=>?_
    have hld:=hp2.part (U:=U) (ty:=174) afr afD;simp only[hb0,List.getElem_cons_zero,bO,AV.cells]at hld;simp only[go_sem,hld,aes,r6,k6];exact .mk (bO ⟨[],⟨2,a.bag.length,[]⟩,0⟩) (lQ (x:=⟨[],⟨2,a.bag.length,[]⟩,0⟩) rfl _) (hsH.put n6' _) ⟨by rw[hnd,e4,ha];rfl,rfl⟩
   cases d5:(op==5)
   case true=>
    have e5:op=5:=by simpa using d5
    obtain⟨a,b,hab⟩:∃a b,l= [a,b]:=xX (by rw[hl,e5];rfl)
    have hb0:l.map bO= [bO a,bO b]:=by rw[hab];rfl
    have hvh:=fun G=>Q2 a.bag (by have:=hbag a (by rw[hab];simp);omega) b.v .no G
    simp only[aS]at hvh;have htr:=fun G=>we (a.bag.any fun v=>eqV v b.v) G
    simp only[bO]at htr;simp only[go_sem,r3,k3,d3,d4,d5];refine .calls h [0,1,2,3,4,5,6,7,8,9,10] hsH aeF rfl ?_;simp only[go_sem,r1];refine hb.idx (e:=373) 0 rfl agO aeM aeG fun p hp1=>?_
    simp only[go_sem];refine hp1.field (f:=0) (off:=0) (t:=174) rfl afr fun p2 hp2=>?_
    have hld:=hp2.part (U:=U) (ty:=174) afr afD;simp only[hb0,List.getElem_cons_zero,bO,AV.cells]at hld;simp only[go_sem,hld,r1];refine hb.idx (e:=373) 1 rfl agO aeM aeG fun p hp3=>?_
    simp only[go_sem];refine hp3.field (f:=1) (off:=1) (t:=48) rfl afr fun p4 hp4=>?_
    have hld4:=hp4.part (U:=U) (ty:=48) afr (by simp only[go_sem,hb0,List.getElem_cons_succ,List.getElem_cons_zero];exact aer rfl)
    simp only[hb0,List.getElem_cons_succ,List.getElem_cons_zero,bO,AV.cells]at hld4;simp only[go_sem,hld4];refine(hvh _).pthen ?_;refine⟨hsH,?_⟩;simp only[go_sem];refine(htr _).pthen ?_;refine⟨hsH,?_⟩;simp only[go_sem,r6,k6];refine⟨hsH.put n6' _,?_⟩;exact .mk (bO (jq (a.bag.any fun v=>eqV v b.v))) (lQ (x:=(jq (a.bag.any fun v=>eqV v b.v))) rfl _) (hsH.put n6' _) ⟨by rw[hnd,e5,hab];rfl,rfl⟩
   obtain⟨⟨v,e⟩,ev⟩:∃x,ig op (l.map (·.v))=x:=⟨_,rfl⟩
   rw[ev]at hcl;simp only[go_sem,r3,r10,k3,d3,d4,d5];refine(hcl _).pthen ?_;simp only[go_sem,rS,aS];intro i13 h13;have n136:i13≠i6:=fun e=>aid
   simp only[go_sem,r6,ak,n136.symm,k6];exact .mk (bO ⟨[],v,e⟩) (lQ (x:=⟨[],v,e⟩) rfl _) ((hsH.trans (.aj h13)).put n6' _) ⟨by rw[hnd];simp only[if_neg (show¬op=3 by simpa using d3),if_neg (show¬op=4 by simpa using d4),if_neg (show¬op=5 by simpa using d5)];rw[ev]<;>rfl,rfl⟩
end Go.Proofs.YtelkmnkejghkeaaGreatDoor
namespace Go.Bf
open Go Go.Ab Go.Proofs.YtelkmnkejghkeaaGreatDoor
variable {l:List aT}{alg op:Int}{gs:List bt}{bs bs' z:List Bool}
theorem C0{t:gv}(h:l9 t=0):OZ t:=by
 obtain⟨h1,h2⟩:=BX h;refine⟨aeC,fun x hx=>?_⟩
 grind [A4,A3]
theorem M6.turn{m:aT}(h:M6 m):M6 (Fw m):=by exact ajn
theorem M6.indet{m:aT}(h:M6 m):M6 (gY m):=by exact ajn
theorem M6.first(h:∀m∈l,M6 m):M6 (firstM l):=by
 unfold firstM;cases hf:l.find? fun m=>decide (m≠naM)with
 |none=>decide
 |some m=>grind
theorem M6.only:∀(l:List aT) (j:aT),(∀m∈l,M6 m)→M6 j→M6 (pg l j)
 | [],j,_,hj=>hj
 |m::r,j,h,hj=>by
  simp only[pg];split
  ·decide
  ·refine M6.only r _ aeD ?_
   split
   ·grind
   ·split
    ·decide
    omega
theorem Ia(h:∀m∈l,M6 m):M6 (iq alg l):=by
 unfold iq;split
 ·exact IV _
 ·split
  ·exact M6.turn (IV _)
  ·split
   ·exact .first h
   ·split
    ·exact .only _ _ h aeG
    ·split
     ·split<;>decide
     ·split
      ·split<;>decide
      decide
theorem Bd(r:cQ)(t c:Nat):M6 (nW r t c).1:=by
 unfold nW;cases r.deny
 all_goals
  simp only[if_true,Bool.false_eq_true,if_false];split
  ·decide
  ·split
   ·decide
   ·first|(show M6 aY;decide)|(show M6 cF;decide)
theorem PN(alg:Int)(obls:List cB)(t:Nat){parts:List j0}(h:∀x∈parts,M6 x.1):M6 (qu alg obls t parts).1:=by
 have hc:M6 (iq alg (parts.map (·.1))):=Ia fun m hm=>by
  grind
 unfold qu;simp only;split
 ·decide
 ·split
  ·exact hc.indet
  ·split
   ·exact hc
   ·exact hc
mutual
theorem xT(gs:List bt):∀p:bD,M6 (fN gs p).1
 |.mk id set alg tgt rules kids obls=>by
  have ih:=DP gs kids;simp only[fN];split
  ·decide
  ·refine PN alg obls _ fun x hx=>?_
   rcases List.mem_append.1 hx with hx|hx
   ·obtain⟨r,_,rfl⟩:=List.mem_map.1 hx
    exact Bd _ _ _
   ·exact ih x hx
theorem DP(gs:List bt):∀l:List bD,∀x∈nj gs l,M6 x.1
 | [],x,hx=>by simp[nj]at hx
 |k::r,x,hx=>by
  have h1:=xT gs k;have h2:=DP gs r;simp only[nj,List.mem_cons]at hx;rcases hx with rfl|hx
  ·exact h1
  ·exact h2 x hx
end
theorem L0(h:Q7 gs):sA gs:=⟨by have:=h.len;omega,fun g hg=>by have:=(h.each g hg).2.2.2.1;omega⟩
theorem Io{α:Type}(B:Nat):∀(L:List (List α)),(∀x∈L,x.length≤B)→L.flatten.length≤L.length*B
 | [],_=>aeJ
 |x::L,h=>by
  have h1:=h x aeJ;have h2:=Io B L fun y hy=>h y aeD
  rw[List.flatten_cons,aew,List.length_cons,Nat.add_mul];omega
theorem uF{m:aT}{parts:List j0}{B:Nat}(hp:∀x∈parts,x.2.length≤B)(hn:parts.length≤32):(fh alg m parts).length≤32*B+B:=by
 unfold fh;split
 ·cases hf:parts.find? fun x=>x.1==m with
  |none=>simp
  |some x=>grind
 ·have h1:=Io B (((parts.filter fun x=>x.1==m).map (·.2))) fun x hx=>by
   grind
  have h2:((parts.filter fun x=>x.1==m).map (·.2)).length≤32:=by
   grind
  have:=Nat.mul_le_mul_right B h2;omega
theorem lq(l:List cB)(m:aT):(eY l m).length≤l.length:=List.length_filter_le _ _
theorem Bc(r:cQ)(t c:Nat):(nW r t c).2.length≤r.obls.length:=by
 unfold nW
 all_goals
  grind [lq]
def oB:Nat→Nat
 |0=>8
 |n+1=>8+33*oB n
theorem Ww(n:Nat):8≤oB n:=by
 cases n with
 |zero=>decide
 |succ n=>grind [oB]
theorem Ct(gs:List bt):∀(n d:Nat) (p:bD),d+n=5→mM d p→(fN gs p).2.length≤oB n
 |0,d,.mk id set alg tgt rules kids obls,hd,h=>by grind [mM]
 |n+1,d,.mk id set alg tgt rules kids obls,hd,h=>by
  simp only[mM,ru]at h;obtain⟨_,_,_,_,_,_,g2,g3,g4,g5,g6,g7⟩:=h;have hob:=(kX g3).1;have h8:=Ww n;simp only[fN];split
  ·simp
  ·unfold qu
   simp only;split
   ·simp
   ·split
    ·simp
    ·split
     ·simp
     ·have h1:=uF (alg:=alg) (m:=iq alg ((rules.map (iH gs)++nj gs kids).map (·.1))) (parts:=rules.map (iH gs)++nj gs kids) (B:=oB n) (fun x hx=>by
       rcases List.mem_append.1 hx with hx|hx
       ·obtain⟨r,hr,rfl⟩:=List.mem_map.1 hx
        have:=Bc r (nH gs r.tgt) (qU gs r.cond);have:=(kX (g6 r hr).2.2.2).1
        show(nW r (nH gs r.tgt) (qU gs r.cond)).2.length≤_
        omega
       ·rw[ud]at hx
        obtain⟨k,hk,rfl⟩:=List.mem_map.1 hx;exact Ct gs n (d+1) k aeC (g7 k hk)) (by grind [aew,aes,ud])
      have h2:=lq obls (iq alg ((rules.map (iH gs)++nj gs kids).map (·.1)))
      simp only[aew,oB];omega
theorem DR(gs:List bt){p:bD}(h:mM 1 p):(fN gs p).2.length≤10000000:=Nat.le_trans (Ct gs 4 1 p rfl h) aeG
theorem LA{w:List Bool}(hw:iT op=some w):w.length=opsOf op∧1≤op∧op≤13:=by
 have h1:1≤op∧op≤13:=by
  grind [iT]
 refine⟨?_,h1⟩;rcases(show op=1∨op=2∨op=3∨op=4∨op=5∨op=6∨op=7∨op=8∨op=9∨op=10∨op=11∨op=12∨op=13 by omega)with rfl|rfl|rfl|rfl|rfl|rfl|rfl|rfl|rfl|rfl|rfl|rfl|rfl
 all_goals (simp[iT]at hw;subst hw;rfl)
theorem Lh{n:aR}(h:iS bs n=some bs'):(1≤n.op∧n.op≤13)∧opsOf n.op≤bs.length∧bs'.length=bs.length - opsOf n.op+1:=by
 unfold iS at h;cases hw:iT n.op with
 |none=>grind
 |some w=>
  grind [LA,aew,List.length_take,List.length_singleton]
theorem QI{l:List aR}{i:Nat}(hl:gh [] l=some z)(hi:i<l.length)(hb:gh [] (l.take i)=some bs):∃bs',iS bs l[i]=some bs'∧gh [] (l.take (i+1))=some bs' :=by
 have h1:=kG [] l i;rw[hl,hb,List.drop_eq_getElem_cons hi]at h1;simp only[gh]at h1;cases hs:iS bs l[i]with
 |none=>rw[hs]at h1;cases h1
 |some bs' =>
  rw[kG [] _ i,List.take_take,Nat.min_eq_left aeC,hb,List.take_succ_eq_append_getElem hi,List.drop_append_of_le_length aeD,List.drop_of_length_le aeD]
  grind [gh]
theorem Nu(hf:sA gs)(n:aR)(l:List jP):(lT gs n l).bag.length≤1000000:=by
 unfold lT AT jq
 repeat' split
 all_goals first|exact hf.bag _|simp
def Wk(x:jP):AV:=.tup [aS x.v,.i x.e]
end Go.Bf
namespace Go.Proofs.YtelkmnkejghkeaaGreatDoor
open Go Go.Ab Go.Bf Tryz
theorem ME(l:List aR)(hn:l≠ [])(he:kN l=0)(gs:List bt)(hf:sA gs)(h:Heap):ai prog 275 [fH l,bJ gs] h fun r h' =>r=Wk (wW gs l)∧h' =h:=by
 obtain⟨h32,hst⟩:=yQ he hn;have hex:=fun G=>Ik l G
 rw[he]at hex;simp only[fH]at hex;have dl:((l.length:Int)==0)=false:=aiE;refine aeB func275 51 [.cell 4 48,.tmp 5] fun hwf=>?_
 simp only[go_sem,fH,bJ];intro i4 h4;simp only[go_sem,aes,dl];refine(hex _).pthen ?_;simp only[go_sem,aes];obtain⟨H0,eH⟩:∃H0,upd h i4 (some (.obj [.i 0,.i 0,.s []] 48))=H0:=⟨_,rfl⟩;have hH0:Ab.Sub h H0:=by rw[←eH];exact .aj h4
 have g4:H0 i4=some (.obj [.i 0,.i 0,.s []] 48):=af5;rw[eH];clear eH;refine .intro (fun m ρ H=>∃(i:Nat) (y:AV) (st:List jP) (bs:List Bool),OwE 373 H0 H 5 y (st.map bO)∧Ab.Sub H0 H∧(l.take i).foldl (z7 gs) []=st∧gh [] (l.take i)=some bs∧bs.length=st.length∧(∀x∈st,x.bag.length≤1000000)∧i≤l.length∧m=l.length - i∧lk ρ 1=some (.sl (gs.map lO) .no)∧lk ρ 4=some (.ptr i4 0)∧lk ρ 6=some y∧lk ρ 19=some (.sl (l.map dL) .no)∧lk ρ 20=some (.i l.length)∧lk ρ 21=some (.i i)) l.length ?_ ?_
 ·refine⟨0,_,[],[],.inl ⟨rfl,rfl⟩,.refl _,rfl,rfl,rfl,fun x hx=>aeD,aeC,rfl,?_,?_,?_,?_,?_,?_⟩<;>simp only[go_sem]
 ·rintro m ρ H ⟨i,y,st,bs,hw,hsH,hfo,hbs,hlen,hbag,hi,rfl,r1,r4,r6,r19,r20,r21⟩
  have hsl:bs.length≤i:=by have:=sN _ _ _ hbs;simpa[Nat.min_eq_left hi]using this
  simp only[go_sem,r20,r21];refine .intro (fun e=>?_) (fun e=>?_)
  ·have hlt:i<l.length:=aez e
   have w1:IntKind.i64.wrap ((i:Int)+1)=((i+1:Nat):Int):=aeN;obtain⟨bs',hb1,hb2⟩:=QI hst hlt hbs;have hfs:(l.take (i+1)).foldl (z7 gs) []=z7 gs st l[i]:=agS;have ix:=fun k=>dR.eq (xs:=l.map dL) (sz:=7) i aeD aeQ k
   rw[aet]at ix;obtain⟨n,en⟩:∃n,l[i]=n:=⟨_,rfl⟩;rw[en]at hb1 hfs ix;obtain⟨hop,hle,hln⟩:=Lh hb1;rw[hlen]at hle;obtain⟨k,ek⟩:∃k,st.length - opsOf n.op=k:=⟨_,rfl⟩;have wk:IntKind.i64.wrap ((st.length:Int) - (opsOf n.op:Int))=(k:Int):=aeN;have hstep:z7 gs st n=st.take k++ [lT gs n (st.drop k)]:=by grind [z7]
   simp only[dL]at ix;simp only[go_sem,r19,r21,ix];intro i8 h8;obtain⟨H8,eH⟩:∃H8,upd H i8 (some (.obj [.i n.op,.i n.val.kind,.i n.val.n,.s n.val.s,.i n.attr.cat,.s n.attr.name,.b n.attr.must] 218))=H8:=⟨_,rfl⟩;have hs8:Ab.Sub H H8:=by rw[←eH];exact .aj h8
   have k8:H8 i8=some (.obj [.i n.op,.i n.val.kind,.i n.val.n,.s n.val.s,.i n.attr.cat,.s n.attr.name,.b n.attr.must] 218):=af5;have hw8:=hw.sub hs8;simp only[go_sem,r6,hw8.rd.len,aes];refine(Ga n.op _).pthen ?_;rw[eH];clear eH;simp only[go_sem,wk];refine .calls (hm1 i8 (.obj [.i n.op,.i n.val.kind,.i n.val.n,.s n.val.s,.i n.attr.cat,.s n.attr.name,.b n.attr.must] 218)) [0,1,2,3,4,5,6,7,8,9,10,11] (.hm1 k8) aeF rfl ?_;simp only[go_sem,r6];refine hw8.cut (U:=U) (x:=.i64) k aeR rfl aeD aeR aeG fun z hz hzy=>?_
   simp only[go_sem,r6,gy];refine hw8.from (U:=U) (x:=.i64) k aeR rfl aeD aeR aeG fun z2 hz2=>?_
   rw[←List.map_drop]at hz2;rw[←List.map_take]at hz;have hnd:=Qg n hop (st.drop k) hz2 aeD (fun x hx=>hbag x (List.mem_of_mem_drop hx)) gs hf
   have hnb:=Nu hf n (st.drop k);obtain⟨x,ex⟩:∃x,lT gs n (st.drop k)=x:=⟨_,rfl⟩;rw[ex]at hnd hnb hstep;simp only[dL,bJ,bO]at hnd;simp only[go_sem,r1];refine hnd.pthen ?_;refine⟨.hm1 k8,?_⟩;simp only[go_sem];have hone:Rd H8 5 (.sl [bO x] .full) [bO x]:=.sl (fun z hz=>ahv) .full
   simp only[bO]at hone;refine OwE.app (U:=U) (tb:=373) hz (hsH.trans hs8) hone aeR aeG aeG aeR aeJ aeV fun id y' H' hid hor how hoth=>?_
   have n8:i8≠id:=by
    intro e8;rcases hor with ho|⟨lz,cz,ez⟩
    ·grind
    ·exact mE (hz.nid (id:=id) (by rw[ez];rfl)).2.2 k8 aeG e8.symm
   have hsub' :Ab.Sub H0 H' :=fun j b hj=>by rw[hoth j (fun e=>aeD)];exact(hsH.trans hs8) _ _ hj
   refine⟨.hm1 aeD,?_⟩;simp only[go_sem,r21,w1];refine⟨_,?_,i+1,y',z7 gs st n,bs',.inr ⟨id,hid,by rw[hstep,List.map_append];exact how⟩,hsub',hfs,hb2,aeD,fun w hw=>?_,aeC,rfl,?_,?_,?_,?_,?_,?_⟩
   ·omega
   ·grind
   all_goals simp only[go_sem,r1,r4,r19,r20]
  ·have hge:i=l.length:=by grind
   subst hge;rw[List.take_length]at hbs hfo;rw[hst]at hbs;cases hbs;obtain⟨x,rfl⟩:=List.length_eq_one_iff.1 hlen.symm;have hit:wW gs l=x:=by simp_all [wW,if_neg]
   obtain⟨id,hid,how⟩:=hw.ow aeJ;have hwp:Rd (pick H [id]) 5 y [bO x]:=(how.same (bC (List.mem_singleton.2 rfl))).rd;have n4:i4≠id:=fun e=>aeD
   have k4:=hsH _ _ g4;simp only[go_sem];refine .calls (pick H [id]) [0,1,2,3,4,5,6,7,8,9] bS aeF rfl ?_;simp only[go_sem,r6];refine hwp.idx (U:=U) (e:=373) 0 rfl aeJ aeR aeG fun p hp1=>?_
   simp only[go_sem];refine hp1.field (f:=1) (off:=1) (t:=48) rfl aeG fun p2 hp2=>?_
   have hld:=hp2.part (U:=U) (ty:=48) aeG ag2;simp only[List.getElem_cons_zero,bO,AV.cells]at hld;simp only[go_sem,r6,hld];refine hwp.idx (U:=U) (e:=373) 0 rfl aeJ aeR aeG fun p3 hp3=>?_
   simp only[go_sem];refine hp3.field (f:=2) (off:=4) (t:=53) rfl aeG fun p4 hp4=>?_
   have hld4:=hp4.part (U:=U) (ty:=53) aeG ag2;simp only[List.getElem_cons_zero,bO,AV.cells]at hld4;simp only[go_sem,r4,hld4,k4];refine⟨bS.put (by grind [pick]) _,?_⟩
   exact .mk _ (.refl _) ((hH0.trans hsH).put h4 _) ⟨by rw[hit];rfl,rfl⟩
theorem Pm(l:List aR)(he:kN l=0)(gs:List bt)(hf:sA gs)(h:Heap):ai prog 249 [fH l,bJ gs] h fun r h' =>r= .i (qU gs l:Nat)∧h' =h:=by
 by_cases hn:l= []
 ·subst hn
  refine aeB func249 26 [.tmp 4] fun hwf=>?_
  simp only[go_sem,fH,bJ,List.map_nil,List.length_nil];exact aeL
 have hv:=fun G=>ME l hn he gs hf G
 have hcd:qU gs l=if isI (wW gs l) 1 then 2 else if isI (wW gs l) 0 then 0 else 1:=by
  simp_all [qU,if_neg]
 obtain⟨x,ex⟩:∃x,wW gs l=x:=⟨_,rfl⟩;rw[ex]at hv hcd;simp only[fH,bJ,Wk,aS]at hv;have hi1:∀(m:Int) G,ai prog 276 [.agg [.sl [] .full,.i x.v.kind,.i x.v.n,.s x.v.s,.i x.e],.i m] G fun r h' =>r= .b (isI x m)∧h' =G:=fun m G=>PL x m G
 have dl:((l.length:Int)==0)=false:=aiE;refine aeB func249 26 [.tmp 4] fun hwf=>?_
 simp only[go_sem,fH,bJ,aes,dl];refine(hv _).pthen ?_;simp only[go_sem];intro i5 h5;simp only[go_sem];intro i7 h7;have n7:=aB h7;have hs:∀x y,Ab.Sub h (upd (upd h i5 x) i7 y):=fun x y=>((Sub.refl h).put h5 x).put n7 y
 simp only[go_sem];refine(hi1 1 _).pthen ?_;cases d1:isI x 1
 case true=>
  rw[d1]at hcd;simp only[go_sem];exact .mk _ (.refl _) (hs _ _) ⟨by rw[hcd];rfl,rfl⟩
 simp only[go_sem];refine(hi1 0 _).pthen ?_;cases d0:isI x 0
 all_goals
  rw[d1,d0]at hcd;simp only[go_sem];exact .mk _ (.refl _) (hs _ _) ⟨by rw[hcd];rfl,rfl⟩
end Go.Proofs.YtelkmnkejghkeaaGreatDoor
namespace Go.Bf
open Go Go.Ab Go.Proofs.YtelkmnkejghkeaaGreatDoor
variable {l:List aT}{q:aT→Bool}
def kj(l:List aT)(p:Perm):AV:=.sl (l.map aN) p
theorem M9.na:M9 naM:=aeG
theorem CF(l:List aT)(i:Nat)(h:i<l.length):(l.take (i+1)).foldl oZ naM=oZ ((l.take i).foldl oZ naM) l[i]:=by grind [List.take_succ_eq_append_getElem]
theorem JX(hq:∀m,q m=decide (m≠naM))(h:l.findIdx q<l.length):firstM l=l[l.findIdx q]:=by
 unfold firstM;have e:q=fun m=>decide (m≠naM):=funext hq
 subst e;rw[show l.find? (fun m=>decide (m≠naM))=some l[l.findIdx fun m=>decide (m≠naM)]from List.find?_eq_some_iff_getElem.2 ⟨List.findIdx_getElem (w:=h),_,h,rfl,fun j hj=>aeD⟩]
 rfl
theorem JY(hq:∀m,q m=decide (m≠naM))(h:¬l.findIdx q<l.length):firstM l=naM:=by
 unfold firstM;rw[List.find?_eq_none.2 fun x hx=>aeD]
 rfl
def xw(j m:aT):aT:=if j=naM then m else if m≠naM then nC else j
theorem NA{i:Nat}(h:i<l.length)(j:aT):pg (l.drop i) j=if z8 l[i]=false then nC else pg (l.drop (i+1)) (xw j l[i]):=by rw[List.drop_eq_getElem_cons h];rfl
end Go.Bf
namespace Go.Proofs.YtelkmnkejghkeaaGreatDoor
open Go Go.Ab Go.Bf Tryz
theorem WZ:(U 55).sz=1:=aeR
theorem Ks(ms:List aT)(hl:ms.length≤1000000000)(q:aT→Bool)(g:FuncId)(cap:List AV)(p:Perm)(h:Heap)(hp:∀m∈ms,ai prog g (aN m::cap) h fun r h' =>r= .b (q m)∧h' =h):
  ai prog 301 [kj ms p,.fn g cap] h fun r h' =>r= .i (ixD q ms)∧h' =h:=by
 refine aeB func301 19 [.tmp 4] fun hwf=>?_
 simp only[go_sem,kj,aes];refine .intro (fun m ρ h' =>h' =h∧∃i:Nat,i≤ms.length∧m=ms.length - i∧(∀j (hj:j<i) (h2:j<ms.length),q ms[j]=false)∧lk ρ 0=some (.sl (ms.map aN) p)∧lk ρ 1=some (.fn g cap)∧lk ρ 7=some (.i ms.length)∧lk ρ 8=some (.i i)) ms.length ?_ ?_
 ·refine⟨rfl,0,aeC,rfl,fun j hj=>aeC,?_,?_,?_,?_⟩<;>simp only[go_sem]
 ·rintro m ρ h' ⟨rfl,i,hi,rfl,hc,r0,r1,r7,r8⟩
  simp only[go_sem,r7,r8];refine .intro (fun e=>?_) (fun e=>?_)
  ·have hlt:i<ms.length:=aez e
   have w1:IntKind.i64.wrap ((i:Int)+1)=((i+1:Nat):Int):=aeN;have ix:=fun k=>dR.eq (xs:=ms.map aN) (sz:=1) i aeD aeQ k
   rw[aet]at ix;have hg:=hp ms[i] (aex hlt);have hci:=fun(d:q ms[i]=false)=>(fun j (hj:j<i+1) (h2:j<ms.length)=>(by
    grind:q ms[j]=false))
   have hat:=fun(d:q ms[i]=true)=>oJ hlt d fun j hj=>hc j hj aeC
   obtain⟨m,em⟩:∃m,ms[i]=m:=⟨_,rfl⟩;rw[em]at ix hg hci hat;simp only[aN]at ix;simp only[go_sem,r0,r1,r8,ix];refine(show ai prog g (.v (.complex .f64 (hbit m.1) (hbit m.2))::cap) _ _ from hg).pthen ?_
   cases d1:q m
   ·simp only[go_sem,r8,w1]
    refine⟨_,?_,rfl,i+1,aeC,rfl,hci d1,?_,?_,?_,?_⟩
    ·omega
    all_goals simp only[go_sem,r0,r1,r7]
   ·simp only[go_sem]
    exact .same (.refl _) ⟨aiD,rfl⟩
  ·have hge:i=ms.length:=by grind
   simp only[go_sem];exact .same (.refl _) ⟨ae7,rfl⟩
theorem GF(ms:List aT)(hl:ms.length≤1000000000)(hmm:∀m∈ms,M9 m)(x:aT)(hx:M9 x)(p:Perm)(h:Heap):
  ai prog 314 [kj ms p,aN x] h fun r h' =>r= .i (ixD (fun y=>x==y) ms)∧h' =h:=by
 refine aeB func314 19 [.tmp 4] fun hwf=>?_
 simp only[go_sem,kj,aes];refine .intro (fun m ρ h' =>h' =h∧∃i:Nat,i≤ms.length∧m=ms.length - i∧(∀j (hj:j<i) (h2:j<ms.length),(x==ms[j])=false)∧lk ρ 0=some (.sl (ms.map aN) p)∧lk ρ 1=some (aN x)∧lk ρ 7=some (.i ms.length)∧lk ρ 8=some (.i i)) ms.length ?_ ?_
 ·refine⟨rfl,0,aeC,rfl,fun j hj=>aeC,?_,?_,?_,?_⟩<;>simp only[go_sem]
 ·rintro m ρ h' ⟨rfl,i,hi,rfl,hc,r0,r1,r7,r8⟩
  simp only[go_sem,r7,r8];refine .intro (fun e=>?_) (fun e=>?_)
  ·have hlt:i<ms.length:=aez e
   have w1:IntKind.i64.wrap ((i:Int)+1)=((i+1:Nat):Int):=aeN;have ix:=fun k=>dR.eq (xs:=ms.map aN) (sz:=1) i aeD aeQ k
   rw[aet]at ix;have hm9:=hmm ms[i] (aex hlt);have hci:=fun(d:(x==ms[i])=false)=>(fun j (hj:j<i+1) (h2:j<ms.length)=>(by
    grind:(x==ms[j])=false))
   have hat:=fun(d:(x==ms[i])=true)=>oJ (q:=fun y=>x==y) hlt d fun j hj=>hc j hj aeC
   obtain⟨m,em⟩:∃m,ms[i]=m:=⟨_,rfl⟩;rw[em]at ix hm9 hci hat;simp only[aN]at ix r1;have ne:=zB hx hm9;cases d1:(x==m)
   ·simp only[go_sem,r0,r1,r8,ix,ne,d1,w1]
    refine⟨_,?_,rfl,i+1,aeC,rfl,hci d1,?_,?_,?_,?_⟩
    ·omega
    all_goals simp only[go_sem,r0,r1,r7,aN]
   ·simp only[go_sem,r0,r1,r8,ix,ne,d1]
    exact .same (.refl _) ⟨aiD,rfl⟩
  ·have hge:i=ms.length:=by grind
   simp only[go_sem];exact .same (.refl _) ⟨ae7,rfl⟩
theorem Gv(ms:List aT)(hl:ms.length≤1000000000)(hmm:∀m∈ms,M9 m)(x:aT)(hx:M9 x)(p:Perm)(h:Heap):
  ai prog 305 [kj ms p,aN x] h fun r h' =>r= .b (decide (x∈ms))∧h' =h:=by
 refine aeB func305 9 [.tmp 4] fun hwf=>?_
 simp only[go_sem];refine(GF ms hl hmm x hx p _).pthen ?_;simp only[go_sem];exact .same (.refl _) ⟨by rw[vj,show(ms.any fun y=>x==y)=decide (x∈ms) by grind];rfl,rfl⟩
theorem FP(m:aT)(hmm:M9 m)(h:Heap):ai prog 302 [aN m] h fun r h' =>r= .b (!(m==naM))∧h' =h:=by
 have n:=(nb hmm).nna;refine aeB func302 5 [.tmp 2] fun hwf=>?_
 simp only[go_sem,aN,n];exact aeL
theorem QM(m:aT)(hmm:M9 m)(h:Heap):ai prog 303 [aN m] h fun r h' =>r= .b (z8 m)∧h' =h:=by
 obtain⟨n1,n2,n3,_⟩:=nb hmm;refine aeB func303 13 [.tmp 2] fun hwf=>?_
 have es:z8 m=(m==naM||(m==aY||m==cF)):=by
  unfold z8
  grind
 rw[es];cases d1:(m==naM)<;>cases d2:(m==aY)<;>cases d3:(m==cF)
 all_goals
  simp only[go_sem,aN,n1,n2,n3,d1,d2,d3];exact aeL
theorem MJ(ms:List aT)(hl:ms.length≤1000000000)(hmm:∀m∈ms,M9 m)(p:Perm)(h:Heap):ai prog 281 [kj ms p] h fun r h' =>r=aN (firstM ms)∧h' =h:=by
 refine aeB func281 12 [.tmp 2] fun hwf=>?_
 simp only[go_sem,kj];refine(Ks ms hl (fun m=> !(m==naM)) _ [] p _ fun m h=>FP m (hmm m h) _).pthen ?_
 have hq:∀m:aT,(!(m==naM))=decide (m≠naM):=fun m=>aeD
 by_cases hx:ms.findIdx (fun m=> !(m==naM))<ms.length
 ·obtain⟨i,ei⟩:∃i,ms.findIdx (fun m=> !(m==naM))=i:=⟨_,rfl⟩
  have ef:=JX hq hx;have e1:ixD (fun m=> !(m==naM)) ms=(i:Nat):=by rw[ixD,ei];omega
  simp only[ei]at ef;have d1:decide ((0:Int)≤((i:Nat):Int))=true:=decide_eq_true aeC;have ix:=fun k=>dR.eq (xs:=ms.map aN) (sz:=1) i aeD aeQ k
  rw[aet,←ef]at ix;rw[e1];simp only[go_sem,d1,ix];exact aeL
 ·have e1:ixD (fun m=> !(m==naM)) ms= -1:=by simp_all [ixD,if_neg]
  have d1:decide ((0:Int)≤ -1)=false:=rfl;rw[e1];simp only[go_sem,d1];exact .same (.refl _) ⟨by rw[JY hq hx];rfl,rfl⟩
theorem Ok(j m:aT)(hj:M9 j)(hmm:M9 m)(h:Heap):ai prog 304 [.i 4,aN j,aN m] h fun r h' =>r=aN (xw j m)∧h' =h:=by
 have n1:=(nb hj).na;have n2:=(nb hmm).nna;refine aeB func304 31 [.tmp 6] fun hwf=>?_
 cases d1:(j==naM)
 case true=>
  simp only[go_sem,aN,n1,d1];exact .same (.refl _) ⟨by rw[xw,if_pos aeD];rfl,rfl⟩
 cases d2:(m==naM)
 ·simp only[go_sem,aN,n1,n2,d1,d2]
  exact .same (.refl _) ⟨by rw[xw,if_neg aeD,if_pos aeD];rfl,rfl⟩
 ·simp only[go_sem,aN,n1,n2,d1,d2]
  exact .same (.refl _) ⟨by rw[xw,if_neg aeD,if_neg aeD];rfl,rfl⟩
theorem M9.step{j m:aT}(hj:M9 j)(hmm:M9 m):M9 (xw j m):=by
 unfold xw
 repeat' split
 ·omega
 ·decide
 omega
theorem Qn(ms:List aT)(hl:ms.length≤1000000000)(hmm:∀m∈ms,M9 m)(p:Perm)(h:Heap):ai prog 282 [kj ms p] h fun r h' =>r=aN (pg ms naM)∧h' =h:=by
 refine aeB func282 20 [.tmp 2] fun hwf=>?_
 simp only[go_sem,kj,aes];refine .intro (fun m ρ h' =>h' =h∧∃(i:Nat) (j:aT),i≤ms.length∧m=ms.length - i∧M9 j∧pg (ms.drop i) j=pg ms naM∧lk ρ 3=some (aN j)∧lk ρ 6=some (.sl (ms.map aN) p)∧lk ρ 7=some (.i ms.length)∧lk ρ 8=some (.i i)) ms.length ?_ ?_
 ·refine⟨rfl,0,naM,aeC,rfl,.na,rfl,?_,?_,?_,?_⟩<;>simp only[go_sem,aN,naM,hbit]
 ·rintro m ρ h' ⟨rfl,i,j,hi,rfl,hj,ho,r3,r6,r7,r8⟩
  simp only[go_sem,r7,r8];refine .intro (fun e=>?_) (fun e=>?_)
  ·have hlt:i<ms.length:=aez e
   have w1:IntKind.i64.wrap ((i:Int)+1)=((i+1:Nat):Int):=aeN;have ix:=fun k=>dR.eq (xs:=ms.map aN) (sz:=1) i aeD aeQ k
   rw[aet]at ix;have hm9:=hmm ms[i] (aex hlt);rw[NA hlt]at ho;obtain⟨m,em⟩:∃m,ms[i]=m:=⟨_,rfl⟩;rw[em]at ix hm9 ho;have hsu:=fun G=>QM m hm9 G
   have hst:=fun G=>Ok j m hj hm9 G
   simp only[aN]at ix hsu hst r3;simp only[go_sem,r6,r8,ix];refine(hsu _).pthen ?_;cases d1:z8 m
   ·rw[if_pos d1]at ho
    simp only[go_sem];exact .same (.refl _) ⟨by rw[←ho];rfl,rfl⟩
   ·rw[if_neg aeD]at ho
    simp only[go_sem,r3];refine(hst _).pthen ?_;simp only[go_sem,r8,w1];refine⟨_,?_,rfl,i+1,xw j m,aeC,rfl,M9.step hj hm9,ho,?_,?_,?_,?_⟩
    ·omega
    all_goals simp only[go_sem,r6,r7,aN]
  ·have hge:i=ms.length:=by grind
   subst hge;rw[List.drop_length]at ho;simp only[go_sem,r3];exact .same (.refl _) ⟨by rw[←ho];rfl,rfl⟩
theorem B0(ms:List aT)(hl:ms.length≤1000000000)(hmm:∀m∈ms,M9 m)(a b:aT)(hb:M9 b)(p:Perm)(h:Heap):ai prog 283 [kj ms p,aN a,aN b] h fun r h' =>r=aN (if b∈ms then b else a)∧h' =h:=by
 refine aeB func283 12 [.tmp 6] fun hwf=>?_
 simp only[go_sem];refine(Gv ms hl hmm b hb p _).pthen ?_
 by_cases d:b∈ms
 ·simp only[go_sem,decide_eq_true d,if_pos d]
  exact aeL
 ·simp only[go_sem,decide_eq_false d,if_neg d]
  exact aeL
theorem Sp(alg:Int)(ha:1≤alg∧alg≤6)(ms:List aT)(hl:ms.length≤1000000000)(hmm:∀m∈ms,M6 m)(p:Perm)(h:Heap):ai prog 250 [.i alg,kj ms p] h fun r h' =>r= .tup [aN (iq alg ms),.i 0]∧h' =h:=by
 have hm9:=fun m h=>(hmm m h).m9
 refine aeB func250 49 [.tmp 4,.tmp 5] fun hwf=>?_
 simp only[go_sem,kj,aes];refine .intro (fun m ρ h' =>h' =h∧∃i:Nat,i≤ms.length∧m=ms.length - i∧M9 ((ms.take i).foldl oZ naM)∧lk ρ 0=some (.i alg)∧lk ρ 1=some (.sl (ms.map aN) p)∧lk ρ 6=some (aN ((ms.take i).foldl oZ naM))∧lk ρ 9=some (.sl (ms.map aN) p)∧lk ρ 10=some (.i ms.length)∧lk ρ 11=some (.i i)) ms.length ?_ ?_
 ·refine⟨rfl,0,aeC,rfl,.na,?_,?_,?_,?_,?_,?_⟩<;>simp only[go_sem,aN,naM,hbit,List.take_zero,List.foldl_nil]
 ·rintro m ρ h' ⟨rfl,i,hi,rfl,hj,r0,r1,r6,r9,r10,r11⟩
  obtain⟨j,ej⟩:∃j,(ms.take i).foldl oZ naM=j:=⟨_,rfl⟩;rw[ej]at hj r6;simp only[go_sem,r10,r11];refine .intro (fun e=>?_) (fun e=>?_)
  ·have hlt:i<ms.length:=aez e
   have w1:IntKind.i64.wrap ((i:Int)+1)=((i+1:Nat):Int):=aeN;have ix:=fun k=>dR.eq (xs:=ms.map aN) (sz:=1) i aeD aeQ k
   rw[aet]at ix;have hm6:=hmm ms[i] (aex hlt);have hsn:=CF ms i hlt;rw[ej]at hsn;obtain⟨m,em⟩:∃m,ms[i]=m:=⟨_,rfl⟩;rw[em]at ix hm6 hsn;have hri:=fun G=>CK m hm6 G
   have hjo:=fun G=>PT j m hj hm6.m9 G
   simp only[aN]at ix hri hjo r6;simp only[go_sem,r9,r11,ix];refine(hri _).pthen ?_;simp only[go_sem,r6];refine(hjo _).pthen ?_;simp only[go_sem,r11,w1];refine⟨_,?_,rfl,i+1,aeC,rfl,by grind [M9.join],?_,?_,?_,?_,?_,?_⟩
   ·omega
   all_goals simp only[go_sem,r0,r1,r9,r10,aN,hsn]
  ·have hge:i=ms.length:=by grind
   subst hge;rw[List.take_length]at ej;have ej' :xW ms=j:=ej;have hov:=fun G=>IW j hj G
   have htu:=fun(x:aT) (G:Heap)=>QS x G
   have hov2:=fun G=>IW (Fw j) ⟨hj.2,hj.1⟩ G
   have h1:=MJ ms hl hm9 p;have h2:=Qn ms hl hm9 p;have h3:=B0 ms hl hm9 cF aY aeG p;have h4:=B0 ms hl hm9 aY cF aeG p;simp only[kj]at h1 h2 h3 h4;rcases(show alg=1∨alg=2∨alg=3∨alg=4∨alg=5∨alg=6 by omega)with rfl|rfl|rfl|rfl|rfl|rfl
   ·simp only[go_sem,r0,r6]
    refine(hov _).pthen ?_;simp only[go_sem];exact .same (.refl _) ⟨by simp only[iq,ej',if_true];rfl,rfl⟩
   ·simp only[go_sem,r0,r6]
    refine(htu _ _).pthen ?_;simp only[go_sem];refine(hov2 _).pthen ?_;simp only[go_sem];refine(htu _ _).pthen ?_;simp only[go_sem];exact .same (.refl _) ⟨by simp only[iq,ej'];rfl,rfl⟩
   ·simp only[go_sem,r0,r1]
    refine(h1 _).pthen ?_;exact ai1
   ·simp only[go_sem,r0,r1]
    refine(h2 _).pthen ?_;exact ai1
   ·simp only[go_sem,r0,r1]
    refine(h3 _).pthen ?_;exact akz
   ·simp only[go_sem,r0,r1]
    refine(h4 _).pthen ?_;exact akz
end Go.Proofs.YtelkmnkejghkeaaGreatDoor
namespace Go.Bf
open Go Go.Ab Go.Proofs.YtelkmnkejghkeaaGreatDoor
variable {gs:List bt}{a l:List j0}
theorem uf{α:Type}(f:α→Nat):∀(l:List α) (a:Nat),l.foldl (fun a x=>min a (f x)) a≤a∧∀x∈l,l.foldl (fun a x=>min a (f x)) a≤f x
 | [],a=>aeJ
 |y::l,a=>by
  obtain⟨h1,h2⟩:=uf f l (min a (f y))
  grind
theorem PV:∀ {t:gv} {m:bP},o6 t=some m→ko gs m=0→nH gs t=0:=by
 intro t;have main:∀(t:gv) (m:bP),o6 t=some m→ko gs m=0→∃x∈t,Aw gs x=0:=by
  intro t
  induction t with
  |nil=>intro m h;cases h
  |cons x r ih=>
   intro m h h0
   match x,h with
   | [],h=>obtain⟨y,hy,e⟩:=ih m h h0;exact⟨y,List.mem_cons_of_mem _ hy,e⟩
   | [l],h=>
    simp only[o6]at h;cases hf:l.find? fun m=>m.op==1 && !m.attr.must with
    |none=>rw[hf]at h;obtain⟨y,hy,e⟩:=ih m h h0;exact⟨y,List.mem_cons_of_mem _ hy,e⟩
    |some k=>
     rw[hf]at h;cases h;have hm:=List.mem_of_find?_eq_some hf;have hall:Dj gs l=0:=by
      have:=(uf (ko gs) l 2).2 _ hm;rw[h0]at this;exact Nat.le_zero.1 this
     exact⟨[l],List.mem_cons_self ..,by grind [Aw]⟩
   |a::b::c,h=>obtain⟨y,hy,e⟩:=ih m h h0;exact⟨y,List.mem_cons_of_mem _ hy,e⟩
 intro m h h0;obtain⟨x,hx,e⟩:=main t m h h0;have:=(uf (Aw gs) t 2).2 x hx;rw[e]at this;exact Nat.le_zero.1 this
theorem Qh{p:bD}(h:tg gs p=false):fN gs p=(naM,[]):=by
 obtain⟨id,set,alg,tgt,rules,kids,obls⟩:=p;unfold tg at h;simp only[tv]at h;cases hk:o6 tgt with
 |none=>grind
 |some m=>
  simp_all [ko,fN,PV,if_true]
theorem PR(j:aT):oZ j naM=j:=by simp[oZ,naM]
inductive Drop:List j0→List j0→Prop
 |nil:Drop [] []
 |keep (x:j0) {a b:List j0} (h:Drop a b):Drop (x::a) (x::b)
 |skip {a b:List j0} (h:Drop a b):Drop a ((naM,[])::b)
theorem Drop.app{b c:List j0}(h:Drop a b):Drop (c++a) (c++b):=by
 induction c with
 |nil=>exact h
 |cons x c ih=>grind [keep]
theorem Drop.join{b:List j0}(h:Drop a b):∀j,(a.map (·.1)).foldl oZ j=(b.map (·.1)).foldl oZ j:=by
 induction h with
 |nil=>simp
 |keep x h ih=>grind
 |skip h ih=>grind [PR]
theorem Drop.first{b:List j0}(h:Drop a b):firstM (a.map (·.1))=firstM (b.map (·.1)):=by
 unfold firstM
 congr 1
 induction h with
 |nil=>rfl
 |keep x h ih=>grind
 |skip h ih=>simpa using ih
theorem Drop.only{b:List j0}(h:Drop a b):∀j,pg (a.map (·.1)) j=pg (b.map (·.1)) j:=by
 induction h with
 |nil=>simp
 |keep x h ih=>grind [pg]
 |skip h ih=>
  intro j;have hs:z8 naM=true:=aeG;simp only[List.map_cons,pg,hs,Bool.true_eq_false,if_false];rw[←ih]
  congr 1
  simp
theorem Drop.mem{b:List j0}(h:Drop a b){m:aT}(hm:m≠naM):m∈a.map (·.1)↔m∈b.map (·.1):=by exact ajP
theorem Drop.comb{b:List j0}(h:Drop a b)(alg:Int):iq alg (a.map (·.1))=iq alg (b.map (·.1)):=by unfold iq xW;rw[h.join,h.first,h.only];simp only[h.mem (show aY≠naM by decide),h.mem (show cF≠naM by decide)]
theorem Drop.parts{b:List j0}(h:Drop a b)(alg:Int){m:aT}(hm:m≠naM):fh alg m a=fh alg m b:=by
 have h1:(a.find? fun x=>x.1==m)=b.find? fun x=>x.1==m:=by
  exact ajP
 have h2:(a.filter fun x=>x.1==m)=b.filter fun x=>x.1==m:=by
  clear h1;exact ajP
 simp only[fh,h1,h2]
theorem Drop.qu{b:List j0}(h:Drop a b)(alg:Int)(obls:List cB)(t:Nat):qu alg obls t a=qu alg obls t b:=by
 unfold Go.Bf.qu;simp only[h.comb alg]
 by_cases hp:iq alg (b.map (·.1))=aY
 ·rw[hp,h.parts alg aeG]
 ·by_cases hd:iq alg (b.map (·.1))=cF
  ·rw[hd,h.parts alg aeG]
  grind
mutual
theorem BF(gs:List bt):∀p:bD,fN gs (lV gs p)=fN gs p
 |.mk id set alg tgt rules kids obls=>by
  simp only[lV,fN]
  by_cases h:nH gs tgt=0
  ·simp only[h,if_true]
  ·simp only[h,if_false]
   exact(BG gs kids).app.qu alg obls _
theorem BG(gs:List bt):∀l:List bD,Drop (nj gs (kQ gs l)) (nj gs l)
 | []=>by simp only[kQ,nj];exact .nil
 |k::r=>by
  have ih1:=BF gs k;have ih2:=BG gs r;simp only[kQ,nj]
  by_cases h:tg gs k=true
  ·simp only[h,if_true,nj,ih1]
   exact .keep _ ih2
  ·have h:tg gs k=false:=by simpa using h
   simp only[h,Bool.false_eq_true,if_false,Qh h];exact .skip ih2
end
def rsA(r:j0):AV:=.agg [aN r.1,ay r.2]
theorem JM(l:List cB)(m:aT)(i:Nat)(h:i<l.length):eY (l.take (i+1)) m=eY (l.take i) m++(if(l[i].on==1 && m==aY||l[i].on==2 && m==cF)=true then [l[i]]else []):=by grind [eY,List.take_succ_eq_append_getElem]
theorem rM(l:List cB)(m:aT){L:List AV}(hL:L=l.map bl)(q:Perm):Weak (.agg [aN m,.sl L q]) (rsA (m,l)):=by
 subst hL;refine .agg _ _ rfl fun i a b=>?_
 rcases i with _|_|i
 ·exact afX
 ·exact ahg
 grind
theorem zI(alg:Int)(m:aT)(l:List j0)(i:Nat)(h:i<l.length)(h3:alg≠3):fh alg m (l.take (i+1))=fh alg m (l.take i)++(if(l[i].1==m)=true then l[i].2 else []):=by
 unfold fh;rw[if_neg h3,if_neg h3,List.take_succ_eq_append_getElem h,List.filter_append,List.map_append,List.flatten_append]
 grind
theorem zH{m:aT}(h:∀x∈l,(x.1==m)=false):fh 3 m l= []:=by
 unfold fh;rw[if_pos rfl,List.find?_eq_none.2 fun x hx=>aeD]
 rfl
theorem xm{m:aT}(i:Nat)(h:i<l.length)(h1:(l[i].1==m)=true)(h2:∀j (hj:j<i),((l[j]'aeC).1==m)=false):fh 3 m l=l[i].2:=by
 unfold fh;rw[if_pos rfl,show(l.find? fun x=>x.1==m)=some l[i]from List.find?_eq_some_iff_getElem.2 ⟨h1,i,h,rfl,fun j hj=>aeD⟩]
 rfl
end Go.Bf
namespace Go.Proofs.YtelkmnkejghkeaaGreatDoor
open Go Go.Ab Go.Bf Tryz
theorem W3:(U 90).sz=3:=aeR
theorem W4:(U 103).sz=2:=aeR
theorem rY(l:List cB)(hl:l.length≤1000000)(m:aT)(hpd:m=aY∨m=cF)(h:Heap):ai prog 252 [ay l,aN m] h fun r h' =>r=ay (eY l m)∧h' =h:=by
 have h9:M9 m:=by rcases hpd with rfl|rfl<;>decide
 have pe:=(nb h9).pe;have de:=(nb h9).de;have uO:=W3;obtain⟨b,b1,b2⟩:∃b,(m==aY)=b∧(m==cF)= !b:=by
  rcases hpd with rfl|rfl
  ·exact⟨true,aeG,aeG⟩
  ·exact⟨false,aeG,aeG⟩
 refine aeB func252 36 [.tmp 4] fun hwf=>?_
 simp only[go_sem,ay,aN,aes];refine .intro (fun q ρ H=>∃(i:Nat) (y:AV),Acc U 90 h H y ((eY (l.take i) m).map bl)∧i≤l.length∧q=l.length - i∧lk ρ 1=some (.v (.complex .f64 (hbit m.1) (hbit m.2)))∧lk ρ 5=some y∧lk ρ 8=some (.sl (l.map bl) .no)∧lk ρ 9=some (.i l.length)∧lk ρ 10=some (.i i)) l.length ?_ ?_
 ·refine⟨0,.sl [] .full,by simpa[eY]using Acc.full (.refl _),aeC,rfl,?_,?_,?_,?_,?_⟩<;>simp only[go_sem]
 ·rintro q ρ H ⟨i,y,hy,hi,rfl,r1,r5,r8,r9,r10⟩
  obtain⟨qy,eqy⟩:=hy.row;subst eqy;simp only[go_sem,r9,r10];refine .intro (fun e=>?_) (fun e=>?_)
  ·have hlt:i<l.length:=aez e
   have w1:=aey i aeC;have hsn:=JM l m i hlt;have ix:=fun k=>dR.eq (xs:=l.map bl) (sz:=3) i aeX aeQ k
   rw[aet]at ix;obtain⟨o,eo⟩:∃o,l[i]=o:=⟨_,rfl⟩;rw[eo]at ix hsn;simp only[bl]at ix;simp only[go_sem,r8,r10,ix];intro i7 h7;cases b
   ·cases a3:(o.on==2)
    ·cases a1:(o.on==1)
     ·simp only[go_sem,r10,a1,a3,w1]
      exact ai5
     ·simp only[go_sem,r1,r10,a1,a3,b1,pe,w1]
      exact ai5
    ·cases a1:(o.on==1)
     ·simp only[go_sem,r1,r5,a1,a3,b2,de]
      exact aiV
     ·simp only[go_sem,r1,r5,a1,a3,b1,b2,pe,de]
      exact aiV
   ·cases a1:(o.on==1)
    ·cases a3:(o.on==2)
     ·simp only[go_sem,r10,a1,a3,w1]
      exact ai5
     ·simp only[go_sem,r1,r10,a1,a3,b2,de,w1]
      exact ai5
    ·cases a3:(o.on==2)
     ·simp only[go_sem,r1,r5,a1,b1,pe]
      exact aiV
     ·simp only[go_sem,r1,r5,a1,b1,pe]
      exact aiV
  ·have hge:i=l.length:=by have:=aev e;omega
   subst hge;rw[List.take_length]at hy;simp only[go_sem,r5];exact .mk (ay (eY l m)) (by rw[List.take_length];exact .sl _ _) hy.1 ⟨rfl,rfl⟩
theorem tri{t:Nat}(h:t≤2):t=0∨t=1∨t=2:=aeC
theorem JN(r:cQ)(hr:r.obls.length≤1000000)(t c:Nat)(ht:t≤2)(hc:c≤2)(h:Heap):ai prog 248 [aC r,.i t,.i c] h fun x h' =>x=rsA (nW r t c)∧h' =h:=by
 obtain⟨id,deny,tgt,cond,obls⟩:=r;simp only at hr;have hdp:=fun G=>rY obls hr aY (.inl rfl) G
 have hdd:=fun G=>rY obls hr cF (.inr rfl) G
 have hip:=fun G=>ze aY aeG G
 have hid:=fun G=>ze cF aeG G
 simp only[aN,aY,cF,hbit,ay]at hdp hdd hip hid;refine aeB func248 38 [.cell 6 103] fun hwf=>?_
 simp only[go_sem,aC];intro i3 h3;simp only[go_sem];intro i6 h6;have n63:=aI h6;have n6:=aB h6;have hs:∀x y,Ab.Sub h (upd (upd h i3 x) i6 y):=fun x y=>((Sub.refl h).put h3 x).put n6 y
 have hs2:∀x y z,Ab.Sub h (upd (upd (upd h i3 x) i6 y) i6 z):=fun x y z=>(hs x y).put n6 z
 cases deny
 ·rcases tri ht with rfl|rfl|rfl
  ·exact ajy
  ·exact ajR
  ·rcases tri hc with rfl|rfl|rfl
   ·exact ajy
   ·exact ajR
   ·simp only[go_sem,ak,n63.symm,ay]
    refine(hdp _).pthen ?_;simp only[go_sem];exact .mk (rsA (aY,eY obls aY)) (rM _ aY rfl _) (hs _ _) ⟨rfl,rfl⟩
 ·rcases tri ht with rfl|rfl|rfl
  ·exact ajy
  ·exact ajS
  ·rcases tri hc with rfl|rfl|rfl
   ·exact ajy
   ·exact ajS
   ·simp only[go_sem,ak,n63.symm,ay]
    refine(hdd _).pthen ?_;simp only[go_sem];exact .mk (rsA (cF,eY obls cF)) (rM _ cF rfl _) (hs _ _) ⟨rfl,rfl⟩
theorem No(gs:List bt)(t:gv):nH gs t≤2:=(uf (Aw gs) t 2).1
theorem Mo(gs:List bt)(l:List aR):qU gs l≤2:=by grind [qU]
theorem JO(r:cQ)(hr:Fa r)(gs:List bt)(hf:sA gs)(h:Heap):ai prog 205 [aC r,bJ gs] h fun x h' =>x=rsA (iH gs r)∧h' =h:=by
 have hob:=(kX hr.2.2.2).1;have hmt:=fun G=>Np r.tgt (C0 hr.2.1) gs hf G
 have hcd:=fun G=>Pm r.cond hr.2.2.1 gs hf G
 have hef:=fun G=>JN r aeC (nH gs r.tgt) (qU gs r.cond) (No _ _) (Mo _ _) G
 simp only[aC,bJ]at hmt hcd hef;refine aeB func205 15 [.cell 4 103] fun hwf=>?_
 simp only[go_sem,aC,bJ];intro i2 h2;simp only[go_sem];intro i4 h4;have n42:=aI h4;have n4:=aB h4;obtain⟨H,eH⟩:∃H,upd (upd h i2 (some (.obj [.s r.id,.b r.deny,aV r.tgt,fH r.cond,ay r.obls] 213))) i4 (some (.obj [.v (.complex .f64 0 0),.sl [] .full] 103))=H:=⟨_,rfl⟩;have hH:Ab.Sub h H:=by rw[←eH];exact((Sub.refl h).put h2 _).put n4 _
 have g2:H i2=some (.obj [.s r.id,.b r.deny,aV r.tgt,fH r.cond,ay r.obls] 213):=aii;have g4:H i4=some (.obj [.v (.complex .f64 0 0),.sl [] .full] 103):=af5;simp only[go_sem];rw[eH];clear eH;refine .calls (hm1 i2 (.obj [.s r.id,.b r.deny,aV r.tgt,fH r.cond,ay r.obls] 213)) [0,1,2,3,5,6,7,4,8,9,10] (.hm1 g2) aeF rfl ?_;simp only[go_sem,gy];refine(hmt _).pthen ?_;refine⟨.hm1 g2,?_⟩;simp only[go_sem];refine(hcd _).pthen ?_;refine⟨.hm1 g2,?_⟩;simp only[go_sem];refine(hef _).pthen ?_;refine⟨.hm1 g2,?_⟩;simp only[go_sem,rsA,ay,aN,g4];refine⟨.hm1 (by rw[ag _ _ n42.symm];exact g2),?_⟩
 exact .mk _ (.refl _) (hH.put n4 _) ⟨rfl,rfl⟩
theorem BQ(l:List j0):Sized 2 (l.map rsA):=bx (f:=rsA) (fun _=>rfl) l
theorem GH{id:Txt}{set:Bool}{alg:Int}(ha:1≤alg∧alg≤6){tgt:gv}{rules:List cQ}{kids:List bD}{obls:List cB}(ho:obls.length≤1000000)(t:Nat)(ht:t=1∨t=2)(parts:List j0)(hp:∀x∈parts,M6 x.1)(hn:parts.length≤32){B:Nat}(hB:B≤10000000)(hpb:∀x∈parts,x.2.length≤B)(q:Perm)(h:Heap):
  ai prog 206 [aO (.mk id set alg tgt rules kids obls),.i t,.sl (parts.map rsA) q] h fun r h' =>r=rsA (qu alg obls t parts)∧h' =h:=by
 have hm6:∀m∈parts.map (·.1),M6 m:=fun m hm=>by
  obtain⟨x,hx,rfl⟩:=List.mem_map.1 hm;exact hp x hx
 have hc6:M6 (iq alg (parts.map (·.1))):=Ia hm6
 have uR:=W4;have uO:=W3;have uM:=WZ;have hall:=fun(p:Perm) (G:Heap)=>Sp alg ha (parts.map (·.1)) (by rw[aes];omega) hm6 p G
 simp only[kj]at hall;refine aeB func206 84 [.cell 6 103] fun hwf=>?_
 simp only[go_sem,aO];intro i3 h3;simp only[go_sem];intro i6 h6;have n63:=aI h6;have n6' :=aB h6;obtain⟨H0,eH⟩:∃H0,upd (upd h i3 (some (.obj [.s id,.b set,.i alg,aV tgt,.sl (rules.map aC) .no,.sl (fO kids) .no,ay obls] 39))) i6 (some (.obj [.v (.complex .f64 0 0),.sl [] .full] 103))=H0:=⟨_,rfl⟩;have hH0:Ab.Sub h H0:=ahA;have g3:H0 i3=some (.obj [.s id,.b set,.i alg,aV tgt,.sl (rules.map aC) .no,.sl (fO kids) .no,ay obls] 39):=by rw[←eH,ag _ _ n63.symm,ah]
 have g6:H0 i6=some (.obj [.v (.complex .f64 0 0),.sl [] .full] 103):=af5;simp only[go_sem,aes];rw[eH];clear eH;refine .intro (fun m ρ H=>∃(i:Nat) (y:AV),Acc U 55 H0 H y (((parts.map (·.1)).take i).map aN)∧i≤parts.length∧m=parts.length - i∧lk ρ 1=some (.i t)∧lk ρ 2=some (.sl (parts.map rsA) q)∧lk ρ 3=some (.ptr i3 0)∧lk ρ 6=some (.ptr i6 0)∧lk ρ 7=some y∧lk ρ 15=some (.sl (parts.map rsA) q)∧lk ρ 16=some (.i parts.length)∧lk ρ 17=some (.i i)) parts.length ?_ ?_
 ·refine⟨0,.sl [] .full,.full (.refl _),aeC,rfl,?_,?_,?_,?_,?_,?_,?_,?_⟩<;>simp only[go_sem]
 ·rintro m ρ H ⟨i,y,hy,hi,rfl,r1,r2,r3,r6,r7,r15,r16,r17⟩
  obtain⟨qy,eqy⟩:=hy.row;subst eqy;simp only[go_sem,r16,r17];refine .intro (fun e=>?_) (fun e=>?_)
  ·have hlt:i<parts.length:=aez e
   have w1:=aey i aeC;have hsn:((parts.map (·.1)).take (i+1)).map aN=((parts.map (·.1)).take i).map aN++ [aN parts[i].1]:=by
    rw[List.take_succ_eq_append_getElem aeX,List.map_append,aet];rfl
   have ix:=fun k=>dR.eq (xs:=parts.map rsA) (sz:=2) i aeX aeQ k
   rw[aet]at ix;obtain⟨x,ex⟩:∃x,parts[i]=x:=⟨_,rfl⟩;rw[ex]at ix hsn;simp only[rsA,aN,ay]at ix;simp only[go_sem,r15,r17,ix];intro i9 h9;simp only[go_sem,r7];refine(hy.sub (.aj h9)).app (zs:=[aN x.1]) (by rw[uM];decide) aeH (fun k hk=>hk) (by rw[uM];exact bx (f:=aN) (fun _=>rfl) _) (by rw[uM];intro z hz;rw[List.mem_singleton.1 hz];rfl) aeV fun y' H' hy' kp=>?_
   simp only[go_sem,r17,w1];refine⟨_,?_,i+1,y',by rw[hsn];exact hy',aeC,rfl,?_,?_,?_,?_,?_,?_,?_,?_⟩
   ·omega
   all_goals simp only[go_sem,r1,r2,r3,r6,r15,r16]
  ·have hge:i=parts.length:=by have:=aev e;omega
   subst hge;have htl:(parts.map (·.1)).take parts.length=parts.map (·.1):=List.take_of_length_le aeJ
   rw[htl]at hy;have k3:=hy.1 _ _ g3;have k6:=hy.1 _ _ g6;have hsH:=hH0.trans hy.1;have hjp:qu alg obls t parts=if t=0 then(naM,[])else if t=1 then(gY (iq alg (parts.map (·.1))),[])else if iq alg (parts.map (·.1))≠aY∧iq alg (parts.map (·.1))≠cF then(iq alg (parts.map (·.1)),[])
     else(iq alg (parts.map (·.1)),fh alg (iq alg (parts.map (·.1))) parts++eY obls (iq alg (parts.map (·.1)))):=rfl
   have hple:(fh alg (iq alg (parts.map (·.1))) parts).length≤32*B+B:=uF hpb hn
   have hal:=fun G=>hall qy G
   obtain⟨m,em⟩:∃m,iq alg (parts.map (·.1))=m:=⟨_,rfl⟩
   rw[em]at hc6 hjp hal hple;have hin:=fun G=>ze m hc6.m9 G
   have npe:=(nb hc6.m9).npe;have nde:=(nb hc6.m9).nde;simp only[aN]at hal hin;rw[htl]at r7;simp only[go_sem,r3,r7,k3];refine(hal _).pthen ?_;rcases ht with rfl|rfl
   ·simp only[go_sem,r1]
    refine(hin _).pthen ?_;simp only[go_sem,r6,k6];exact .mk (rsA (gY m,[])) (rM [] (gY m) rfl _) (hsH.put n6' _) ⟨by rw[hjp];rfl,rfl⟩
   have k6H:=k6;cases dp:(m==aY)
   case true=>
    have e1:m=aY:=by simpa using dp
    have hne:¬(m≠aY∧m≠cF):=fun hh=>hh.1 e1
    have hdu:=fun G=>rY obls ho m (.inl e1) G
    simp only[ay,aN]at hdu;simp only[go_sem,r1,npe,dp];exact aiM
   case false=>
    cases dd:(m==cF)
    case true=>
     have e1:m=cF:=by simpa using dd
     have hne:¬(m≠aY∧m≠cF):=fun hh=>hh.2 e1
     have hdu:=fun G=>rY obls ho m (.inr e1) G
     simp only[ay,aN]at hdu;simp only[go_sem,r1,npe,nde,dp,dd];exact aiM
    case false=>
     have e1:m≠aY:=by simpa using dp
     have e2:m≠cF:=by simpa using dd
     simp only[go_sem,r1,r6,npe,nde,dp,dd,k6];exact .mk (rsA (m,[])) (rM [] m rfl _) (hsH.put n6' _) ⟨by rw[hjp,if_neg aeG,if_neg aeG,if_pos ⟨e1,e2⟩],rfl⟩
theorem Ba:∀(n d:Nat),d+n=5→∀(p:bD),mM d p→∀(gs:List bt),sA gs→∀(h:Heap),ai prog 151 [aO p,bJ gs] h fun r h' =>r=rsA (fN gs p)∧h' =h
 |0,d,hd,.mk id set alg tgt rules kids obls,hE,gs,hf,h=>by
  simp only[mM]at hE;omega
 |n+1,d,hd,.mk id set alg tgt rules kids obls,hE,gs,hf,h=>by
  have ih:=Ba n (d+1) aeC;simp only[mM,ru]at hE;obtain⟨_,_,ha1,ha2,_,_,hT,hO,hR,hK,hRE,hKE⟩:=hE;have hob:=(kX hO).1;have hmt:=fun G=>Np tgt (C0 hT) gs hf G
  have hev:fN gs (.mk id set alg tgt rules kids obls)=if nH gs tgt=0 then(naM,[])else qu alg obls (nH gs tgt) (rules.map (iH gs)++kids.map (fN gs)):=by simp only[fN,ud]
  have hjo:=fun(ht:nH gs tgt=1∨nH gs tgt=2) (q:Perm) (G:Heap)=>GH (id:=id) (set:=set) (alg:=alg) ⟨ha1,ha2⟩ (tgt:=tgt) (rules:=rules) (kids:=kids) (obls:=obls) aeC (nH gs tgt) ht (rules.map (iH gs)++kids.map (fN gs)) (fun x hx=>by
   rcases List.mem_append.1 hx with hx|hx
   ·obtain⟨r,_,rfl⟩:=List.mem_map.1 hx;exact Bd _ _ _
   ·obtain⟨r,_,rfl⟩:=List.mem_map.1 hx;exact xT gs r) ae0 (B:=10000000) (Nat.le_refl _) (fun x hx=>by
   rcases List.mem_append.1 hx with hx|hx
   ·obtain⟨r,hr,rfl⟩:=List.mem_map.1 hx
    have h1:=Bc r (nH gs r.tgt) (qU gs r.cond);have h2:=(kX (hRE r hr).2.2.2).1
    show(nW r (nH gs r.tgt) (qU gs r.cond)).2.length≤_
    omega
   ·obtain⟨r,hr,rfl⟩:=List.mem_map.1 hx
    have h1:=Ct gs n (d+1) r aeC (hKE r hr);have h2:oB n≤oB 4:=by
     have:n≤4:=aeC;rcases(show n=0∨n=1∨n=2∨n=3∨n=4 by omega)with rfl|rfl|rfl|rfl|rfl<;>decide
    exact Nat.le_trans h1 (Nat.le_trans h2 aeG)) q G
  have hrl:=fun(r:cQ) (hr:Fa r) (G:Heap)=>JO r hr gs hf G
  have hml:=No gs tgt;obtain⟨t,et⟩:∃t,nH gs tgt=t:=⟨_,rfl⟩;rw[et]at hmt hjo hev hml;simp only[aO,bJ,bf,aV,ay]at hmt hjo hrl;have uR:=W4;refine aeB func151 50 [.cell 4 103] fun hwf=>?_
  simp only[go_sem,aO,bJ,bf,aV,ay];intro i2 h2;simp only[go_sem];intro i4 h4;have n42:=aI h4;have n4' :=aB h4;obtain⟨H0,eH⟩:∃H0,upd (upd h i2 (some (.obj [.s id,.b set,.i alg,.sl (tgt.map cV) .no,.sl (rules.map aC) .no,.sl (kids.map aO) .no,.sl (obls.map bl) .no] 39))) i4 (some (.obj [.v (.complex .f64 0 0),.sl [] .full] 103))=H0:=⟨_,rfl⟩;have hH0:Ab.Sub h H0:=ahz;have g2:H0 i2=some (.obj [.s id,.b set,.i alg,.sl (tgt.map cV) .no,.sl (rules.map aC) .no,.sl (kids.map aO) .no,.sl (obls.map bl) .no] 39):=aii;have g4:H0 i4=some (.obj [.v (.complex .f64 0 0),.sl [] .full] 103):=af5;simp only[go_sem,ak,n42.symm];rw[eH];clear eH;refine(hmt _).pthen ?_;cases dt:((t:Int)==0)
  case true=>
   have e0:t=0:=by have:(t:Int)=0:=(by simpa using dt);omega
   simp only[go_sem,dt,g4];exact .mk (rsA (naM,[])) (rM [] naM rfl _) (hH0.put n4' _) ⟨by rw[hev,if_pos e0],rfl⟩
  have ht0:t≠0:=by rintro rfl;simp at dt
  have ht12:t=1∨t=2:=aeC;rw[if_neg ht0]at hev;simp only[go_sem,dt,g2,aes];refine .intro (fun m ρ H=>∃(i:Nat) (y:AV),Acc U 103 H0 H y (((rules.map (iH gs)).take i).map rsA)∧i≤rules.length∧m=rules.length - i∧lk ρ 1=some (.sl (gs.map lO) .no)∧lk ρ 2=some (.ptr i2 0)∧lk ρ 4=some (.ptr i4 0)∧lk ρ 5=some (.i t)∧lk ρ 6=some y∧lk ρ 19=some (.sl (rules.map aC) .no)∧lk ρ 20=some (.i rules.length)∧lk ρ 21=some (.i i)) rules.length ?_ ?_
  ·refine⟨0,.sl [] .full,.full (.refl _),aeC,rfl,?_,?_,?_,?_,?_,?_,?_,?_⟩<;>simp only[go_sem]
  ·rintro m ρ H ⟨i,y,hy,hi,rfl,r1,r2,r4,r5,r6,r19,r20,r21⟩
   obtain⟨qy,eqy⟩:=hy.row;subst eqy;simp only[go_sem,r20,r21];refine .intro (fun e=>?_) (fun e=>?_)
   ·have hlt:i<rules.length:=aez e
    have w1:=aey i aeC;have hsn:((rules.map (iH gs)).take (i+1)).map rsA=((rules.map (iH gs)).take i).map rsA++ [rsA (iH gs rules[i])]:=by
     rw[List.take_succ_eq_append_getElem aeX,List.map_append,aet];rfl
    have ix:=fun k=>dR.eq (xs:=rules.map aC) (sz:=5) i aeX aeQ k
    rw[aet]at ix;have hre:=hRE _ (aex hlt);obtain⟨x,ex⟩:∃x,rules[i]=x:=⟨_,rfl⟩;rw[ex]at ix hsn hre;have hr1:=hrl x hre;simp only[aC,aV,ay]at ix hr1;simp only[go_sem,r19,r21,ix];intro i8 h8;simp only[go_sem,r1,r6];refine(hr1 _).pthen ?_;simp only[go_sem,rsA,aN,ay];refine(hy.sub (.aj h8)).app (zs:=[rsA (iH gs x)]) (by rw[uR];decide) aeH (fun k hk=>hk) (by rw[uR];exact BQ _) aha aeV fun y' H' hy' kp=>?_
    simp only[go_sem,r21,w1];refine⟨_,?_,i+1,y',by rw[hsn];exact hy',aeC,rfl,?_,?_,?_,?_,?_,?_,?_,?_⟩
    ·omega
    all_goals simp only[go_sem,r1,r2,r4,r5,r19,r20]
   ·have hge:i=rules.length:=by have:=aev e;omega
    subst hge;have htl:(rules.map (iH gs)).take rules.length=rules.map (iH gs):=List.take_of_length_le aeJ;rw[htl]at hy r6;have k2:=hy.1 _ _ g2;simp only[go_sem,r2,k2,aes];refine .intro (fun m ρ H=>∃(i:Nat) (y:AV),Acc U 103 H0 H y ((rules.map (iH gs)++(kids.map (fN gs)).take i).map rsA)∧i≤kids.length∧m=kids.length - i∧lk ρ 1=some (.sl (gs.map lO) .no)∧lk ρ 2=some (.ptr i2 0)∧lk ρ 4=some (.ptr i4 0)∧lk ρ 5=some (.i t)∧lk ρ 6=some y∧lk ρ 33=some (.sl (kids.map aO) .no)∧lk ρ 34=some (.i kids.length)∧lk ρ 35=some (.i i)) kids.length ?_ ?_
    ·refine⟨0,_,by rw[List.take_zero,List.append_nil];exact hy,aeC,rfl,?_,?_,?_,?_,?_,?_,?_,?_⟩<;>simp only[go_sem,r1,r2,r4,r5,r6]
    ·rintro m ρ2 H2 ⟨i,y,hy,hi,rfl,s1,s2,s4,s5,s6,s33,s34,s35⟩
     obtain⟨qy,eqy⟩:=hy.row;subst eqy;simp only[go_sem,s34,s35];refine .intro (fun e=>?_) (fun e=>?_)
     ·have hlt:i<kids.length:=aez e
      have w1:=aey i aeC;have hsn:(rules.map (iH gs)++(kids.map (fN gs)).take (i+1)).map rsA=(rules.map (iH gs)++(kids.map (fN gs)).take i).map rsA++ [rsA (fN gs kids[i])]:=by
       rw[List.take_succ_eq_append_getElem aeX,←List.append_assoc,List.map_append,aet];rfl
      have ix:=fun k=>dR.eq (xs:=kids.map aO) (sz:=7) i aeX (by rw[aet,jK]) k
      rw[aet]at ix;have hke:=hKE _ (aex hlt);obtain⟨x,ex⟩:∃x,kids[i]=x:=⟨_,rfl⟩;rw[ex]at ix hsn hke;have hr1:=ih x hke gs hf;obtain⟨kid,kset,kalg,ktgt,krules,kkids,kobls⟩:=x;simp only[aO,aV,ay,bJ,bf]at ix hr1;simp only[go_sem,s33,s35,ix];intro i10 h10;simp only[go_sem,s1,s6];refine(hr1 _).pthen ?_;simp only[go_sem,rsA,aN,ay];refine(hy.sub (.aj h10)).app (zs:=[rsA (fN gs (.mk kid kset kalg ktgt krules kkids kobls))]) (by rw[uR];decide) aeH (fun k hk=>hk) (by rw[uR];exact BQ _) aha (by simp only[go_sem,aes,List.length_take,List.length_cons,List.length_nil,aew];omega) fun y' H' hy' kp=>?_
      simp only[go_sem,s35,w1];refine⟨_,?_,i+1,y',by rw[hsn];exact hy',aeC,rfl,?_,?_,?_,?_,?_,?_,?_,?_⟩
      ·omega
      all_goals simp only[go_sem,s1,s2,s4,s5,s33,s34]
     ·have hge:i=kids.length:=by have:=aev e;omega
      subst hge;have htl:(kids.map (fN gs)).take kids.length=kids.map (fN gs):=List.take_of_length_le aeJ;rw[htl]at hy s6;have k2:=hy.1 _ _ g2;have k4:=hy.1 _ _ g4;have hj:=fun G=>hjo ht12 qy G
      rw[←hev]at hj;obtain⟨z,ez⟩:∃z,fN gs (.mk id set alg tgt rules kids obls)=z:=⟨_,rfl⟩;rw[ez]at hj;simp only[go_sem,s2,s5,s6,k2];refine(hj _).pthen ?_;simp only[go_sem,s4,rsA,aN,ay,k4];exact .mk (rsA z) (.refl _) ((hH0.trans hy.1).put n4' _) ⟨by rw[ez];rfl,rfl⟩
theorem DN(p:bD)(hp:gK p=0)(gs:List bt)(hf:sA gs)(h:Heap):ai prog 92 [aO p,bJ gs] h fun r h' =>r= .tup [rsA (fN gs p),.i 0]∧h' =h:=by
 have hd:=fun G=>Ba 4 1 rfl p (rN hp) gs hf G
 have hr:=fun G=>uT p G
 rw[hp]at hr;obtain⟨id,set,alg,tgt,rules,kids,obls⟩:=p;refine aeB func92 13 [.cell 4 103,.tmp 5] fun hwf=>?_
 simp only[go_sem,aO,bJ,aV,ay];intro i2 h2;simp only[go_sem];intro i4 h4;have n42:=aI h4;have n4:=aB h4;have hs:∀x y,Ab.Sub h (upd (upd h i2 x) i4 y):=fun x y=>((Sub.refl h).put h2 x).put n4 y
 simp only[go_sem,ak,n42.symm];refine(hr _).pthen ?_;simp only[go_sem,ak,n42.symm];refine(hd _).pthen ?_;simp only[go_sem,rsA,aN,ay];exact agf
end Go.Proofs.YtelkmnkejghkeaaGreatDoor
namespace Go.Bf
open Go Go.Ab Go.Proofs.YtelkmnkejghkeaaGreatDoor
variable {o:OpD}{a b':eP}{c:aM}{k n:Nat}{s:an}{r tgt:gv}{l:List bP}
structure jk where
 err:Int
 mark:aT
 glass:Bool
 val:bu
 hidden:Bool
 at_:Int
structure oA where
 op:OpD
 version:Int
 mark:aT
 glass:Bool
 obls:List cB
def Q4:OpD:=⟨0,[],[],[],[],aq,0,[],[],false⟩
def yg:oA:=⟨Q4,0,naM,false,[]⟩
def CA:Txt:=[103,108,97,115,115]
def rE(s:an)(r:qJ):Bool:=r.isOpen && decide (100≤s.tick - r.tick)
def Na(s:an)(subj:Txt):Bool:=s.reviews.any fun r=>r.subj==subj && rE s r
def rW(s:an)(o:OpD)(m:aT):Bool:=o.glass && (m==cF||m==naM) && yZ s.roles ⟨o.subj,CA⟩ && !Na s o.subj
def BR(s:an)(o:OpD)(reason:Txt):qJ:=⟨(s.reviews.length:Int)+1,s.tick,o.subj,o.case,iV o.kind,reason,true⟩
def bX(s:an)(o:OpD)(reason:Txt):an:={s with reviews:=s.reviews++ [BR s o reason]}
def j8(l:List cB)(field:Txt):Bool:=l.any fun x=>x.kind==2 && x.arg==field
def iX(cs:List aM)(id:Txt):Nat:=cs.findIdx fun c=>c.id==id
def iL(s:an)(o:OpD)(what:Txt):an:=
 if iX s.cases o.case<s.cases.length∧o.kind≠6 then {s with cases:=s.cases.modify (iX s.cases o.case) fun c=>jG s c o.subj what} else s
def fy(o:OpD)(done:Bool)(s:an)(x:cB):an:=
 if x.kind=1∧done=true then iL s o x.arg
 else if x.kind=3 then bX s o x.arg
 else if x.kind=4 then {s with notices:=s.notices++ [⟨s.tick,o.case,x.arg⟩]}
 else s
def dj(s:an)(o:OpD)(l:List cB)(done:Bool):an:=l.foldl (fy o done) s
def sM(s:an):Bool:=decide (256<s.reviews.length)||decide (256<s.notices.length)||s.cases.any fun c=>decide (256<c.log.length)
def fR(s:an)(o:OpD):j0:=fN (fQ s o) s.policy
def jL(s:an)(o:OpD):Int×Int:=if bI s o=0∧o.kind=7 then((aQ o.text).2.1,(aQ o.text).2.2)else(bI s o,0)
def dY(s:an)(o:OpD):Bool:=rW s o (fR s o).1
def sU(s:an)(o:OpD):Bool:=decide ((fR s o).1=aY)||dY s o
def cL(s:an)(o:OpD):an:=
 let s1:=if dY s o then bX s o o.reason else s
 dj (if sU s o then cR aQ s1 o else s1) o (fR s o).2 (sU s o)
def nJ(s:an)(o:OpD):jk:=
 ⟨if sU s o then 0 else 12,(fR s o).1,dY s o,if sU s o && o.kind==2 && !j8 (fR s o).2 o.field then dU (bw s.cases o.case).fields o.field else aq,sU s o && o.kind==2 && j8 (fR s o).2 o.field,0⟩
def aE(s:an)(o:OpD):an×jk×oA×Int:=
 if(jL s o).1≠0 then(s,⟨(jL s o).1,naM,false,aq,false,(jL s o).2⟩,yg,(jL s o).1)
 else if sM (cL s o)then(s,⟨6,naM,false,aq,false,0⟩,yg,6)
 else(cL s o,nJ s o,⟨o,s.version,(fR s o).1,dY s o,(fR s o).2⟩,0)
theorem zv(s:an)(o:OpD)(w:Txt):(iL s o w).tick=s.tick∧(iL s o w).roles=s.roles∧(iL s o w).policy=s.policy∧(iL s o w).version=s.version∧(iL s o w).reviews=s.reviews∧(iL s o w).notices=s.notices:=by grind [iL]
theorem DH(o:OpD)(done:Bool)(s:an)(x:cB):(fy o done s x).tick=s.tick∧(fy o done s x).roles=s.roles∧(fy o done s x).policy=s.policy∧(fy o done s x).version=s.version:=by
 unfold fy;split
 ·grind [zv]
 ·split
  ·exact⟨rfl,rfl,rfl,rfl⟩
  grind
theorem yJ(o:OpD)(done:Bool):∀(l:List cB) (s:an),(dj s o l done).tick=s.tick∧(dj s o l done).roles=s.roles∧(dj s o l done).policy=s.policy∧(dj s o l done).version=s.version
 | [],s=>⟨rfl,rfl,rfl,rfl⟩
 |x::l,s=>by
  obtain⟨a1,a2,a3,a4⟩:=DH o done s x;obtain⟨b1,b2,b3,b4⟩:=yJ o done l (fy o done s x);exact⟨b1.trans a1,b2.trans a2,b3.trans a3,b4.trans a4⟩
def gX(o:OpD)(a b:List qJ):Prop:=∃c,b=a++c∧∀i (h:i<c.length),c[i].id=((a.length+i+1:Nat):Int)∧c[i].isOpen=true∧c[i].subj=o.subj
theorem gX.refl(o:OpD)(a:List qJ):gX o a a:=⟨[],aeJ,fun i h=>afs⟩
theorem gX.trans{a b c:List qJ}(h1:gX o a b)(h2:gX o b c):gX o a c:=by
 obtain⟨x,rfl,hx⟩:=h1;obtain⟨y,rfl,hy⟩:=h2;refine⟨x++y,aeJ,fun i h=>?_⟩
 grind
theorem gX.open(s:an)(o:OpD)(w:Txt):gX o s.reviews (bX s o w).reviews:=⟨[BR s o w],rfl,fun i h=>by
 have:i=0:=aeD;subst this;exact⟨aeR,rfl,rfl⟩⟩
theorem gX.duties(o:OpD)(done:Bool):∀(l:List cB) (s:an),gX o s.reviews (dj s o l done).reviews
 | [],s=> .refl o _
 |x::l,s=>by
  have:gX o s.reviews (fy o done s x).reviews:=by
   unfold fy;split
   ·grind [zv,refl]
   ·split
    ·exact .open s o _
    grind [refl]
  exact this.trans (gX.duties o done l _)
structure HR (c:aM):Prop where
 id:bp c.id=true
 owner:bp c.owner=true
 state:c.state∈qg
 asc:FH c.fields
 nfields:c.fields.length≤16
 field:∀f∈c.fields,bp f.name=true∧bz f.val=true∧eqV f.val aq=false
 log1:1≤c.log.length
 actor:∀x∈c.log,bp x.actor=true∧i64 x.tick
theorem vf.w(h:vf c):HR c:=⟨h.id,h.owner,h.state,h.asc,h.nfields,h.field,h.log1,h.actor⟩
theorem HR.ok(h:HR c)(hl:c.log.length≤256):vf c:=⟨h.id,h.owner,h.state,h.asc,h.nfields,h.field,h.log1,hl,h.actor⟩
structure mo (k:Nat) (s:an):Prop where
 tick:0≤s.tick∧s.tick≤1099511627776
 asc:Asc s.cases
 ncases:s.cases.length≤64
 case:∀c∈s.cases,HR c
 roles:s.roles.length≤64
 role:∀r∈s.roles,bp r.subj=true∧bp r.role=true
 pol:gK s.policy=0
 ver:0≤s.version∧s.version≤k
theorem dI.w(h:dI k s):mo k s:=⟨h.tick,h.asc,h.ncases,fun c hc=>(h.case c hc).w,h.roles,h.role,h.pol,h.ver⟩
theorem mo.ok(h:mo k s)(ho:sM s=false):dI k s:=by
 unfold sM at ho;simp only[Bool.or_eq_false_iff,decide_eq_false_iff_not]at ho;refine⟨h.tick,h.asc,h.ncases,fun c hc=>(h.case c hc).ok ?_,aeC,aeC,h.roles,h.role,h.pol,h.ver⟩
 grind
theorem HE(o:OpD)(w:Txt)(h:mo k s):mo k (bX s o w):={h with}
theorem HD(hn:bp o.subj=true)(w:Txt)(h:mo k s):mo k (iL s o w):=by
 unfold iL;split
 ·refine {h with asc:=Cl (kW fun x=>rfl) h.asc,ncases:=by simpa using h.ncases,case:= ?_}
  intro d hd;rcases mem_modify hd with hd|⟨hi,rfl⟩
  ·exact h.case d hd
  ·have hc:=h.case _ (aex hi)
   refine⟨hc.id,hc.owner,hc.state,hc.asc,hc.nfields,hc.field,aiL,?_⟩;intro x hx;simp only[jG,List.mem_append,List.mem_singleton]at hx;rcases hx with hx|rfl
   ·exact hc.actor x hx
   ·exact⟨hn,by have:=h.tick;constructor<;>simp only<;>omega⟩
 omega
theorem HC(hn:bp o.subj=true)(done:Bool)(x:cB)(h:mo k s):mo k (fy o done s x):=by
 unfold fy;split
 ·grind [HD]
 ·split
  ·grind [HE]
  ·split
   ·exact {h with}
   omega
theorem uU{k:Nat}{o:OpD}(hn:bp o.subj=true)(done:Bool):∀(l:List cB) {s:an},mo k s→mo k (dj s o l done)
 | [],s,h=>h
 |x::l,s,h=>uU hn done l (HC hn done x h)
theorem CP(o:OpD)(w:Txt)(h:dI k s)(hr:s.reviews.length≤999):dI k (bX s o w):={h with nrev:=by grind [bX]}
structure jB (k:Nat) (s:an):Prop extends dI k s where
 ids:∀i (h:i<s.reviews.length),s.reviews[i].id=((i+1:Nat):Int)
 nr:s.reviews.length≤256
 nn:s.notices.length≤256
theorem Kf:jB 0 th:={Li with ids:=fun i h=>afs,nr:=aeG,nn:=aeG}
theorem rH(h:(jL s o).1=0):bI s o=0∧cN o=true∧(o.kind=7→(aQ o.text).2.1=0):=by
 unfold jL at h;have hr:bI s o=0:=by
  grind
 have hf:cN o=true:=by
  unfold bI at hr
  grind
 exact⟨hr,hf,fun hk=>aeD⟩
theorem L9(h:jB k s)(hp:(jL s o).1=0):mo (k+1) (cL s o):=by
 have hn:=(ug (rH hp).2.1).subj;have h1:dI k (if dY s o then bX s o o.reason else s):=by
  split
  ·exact CP o _ h.todI (by have:=h.nr;omega)
  ·exact h.todI
 refine uU hn _ _ ?_;split
 ·exact(qj o h1).w
 ·have:=h1.w
  exact {this with ver:=⟨this.ver.1,by have:=this.ver.2;omega⟩}
def shut(r:qJ):qJ:={r with isOpen:=false}
theorem vo(par:Txt→bD×Int×Int)(s:an)(o:OpD):(cR par s o).reviews=if bI s o=0∧o.kind=5 then s.reviews.modify (o.review - 1).toNat shut else s.reviews:=by
 unfold cR
 by_cases hr:bI s o=0
 ·rw[if_pos hr]
  unfold doD
  by_cases k1:o.kind=1
  ·grind
  ·by_cases k3:o.kind=3
   ·grind
   ·by_cases k4:o.kind=4
    ·grind
    ·by_cases k5:o.kind=5
     ·simp[k5,hr];rfl
     grind
 grind
theorem yW(h:cN o=true)(hg:o.glass=true):1≤o.kind∧o.kind≤4:=by simp_all [cN,Bool.and_eq_true,lE,if_true,tq,decide_eq_true_eq]
theorem D5(h:dY s o=true):o.glass=true:=by simp_all [dY,rW,Bool.and_eq_true]
structure FL (s:an) (o:OpD) (t:an) (r:jk) (e:Int):Prop where
 len:s.reviews.length≤t.reviews.length
 old:∀i (h:i<s.reviews.length) (h' :i<t.reviews.length),(e=0∧r.err=0∧o.kind=5∧o.review=((i+1:Nat):Int)→o.subj≠s.reviews[i].subj∧s.reviews[i].isOpen=true∧t.reviews[i].isOpen=false∧t.reviews[i].id=s.reviews[i].id)∧
  (¬(e=0∧r.err=0∧o.kind=5∧o.review=((i+1:Nat):Int))→t.reviews[i]=s.reviews[i])
 new:∀i (h:i<t.reviews.length),s.reviews.length≤i→t.reviews[i].id=((i+1:Nat):Int)∧t.reviews[i].isOpen=true∧t.reviews[i].subj=o.subj
 glass:r.glass=true→∃h:s.reviews.length<t.reviews.length,t.reviews[s.reviews.length].reason=o.reason
theorem FL.same(s:an)(o:OpD)(e:Int)(r:jk)(he:e≠0)(hg:r.glass=false):FL s o s r e:=
 ⟨Nat.le_refl _,fun i h h' =>⟨fun hc=>(he hc.1).elim,fun _=>rfl⟩,fun i h h' =>aeC,fun h=>aeD⟩
theorem IT{a b:List qJ}(h:gX o a b):a.length≤b.length∧(∀i (h1:i<a.length) (h2:i<b.length),b[i]=a[i])∧∀i (h1:i<b.length),a.length≤i→b[i].id=((i+1:Nat):Int)∧b[i].isOpen=true∧b[i].subj=o.subj:=by
 obtain⟨c,rfl,hc⟩:=h;refine⟨aeJ,fun i h1 h2=>aeD,fun i h1 h2=>?_⟩
 grind
theorem Dx(hr:bI s o=0)(hf:cN o=true)(hk:o.kind=5):1≤o.review∧∃h:(o.review - 1).toNat<s.reviews.length,s.reviews[(o.review - 1).toNat].isOpen=true∧s.reviews[(o.review - 1).toNat].subj≠o.subj:=by
 have F:=ug hf;have hok:=F.ok;unfold okD at hok;simp only[hk,show¬(5:Int)=1 by decide,show¬((5:Int)=2∨(5:Int)=6) by decide,show¬(5:Int)=3 by decide,show¬(5:Int)=4 by decide,if_false,if_true,decide_eq_true_eq]at hok
 unfold bI at hr;simp only[hk,Bool.true_eq_false,show¬(5:Int)=1 by decide,show¬(2≤(5:Int)∧(5:Int)≤4) by decide,if_false,if_true]at hr
 unfold fB xo at hr;rw[if_pos (by omega:1≤o.review)]at hr
 refine⟨aeC,?_⟩;cases hx:s.reviews[(o.review - 1).toNat]? with
 |none=>simp_all
 |some r=>
  rw[hx]at hr;obtain⟨h,rfl⟩:=List.getElem?_eq_some_iff.1 hx;refine⟨h,?_,?_⟩
  ·grind
  ·intro e
   simp only[e,if_true]at hr;omega
theorem Hj(h:jB k s):FL s o (aE s o).1 (aE s o).2.1 (aE s o).2.2.2:=by
 unfold aE
 by_cases hp:(jL s o).1=0
 ·rw[if_neg aeC]
  by_cases ho:sM (cL s o)=true
  ·rw[if_pos ho];exact .same _ _ _ _ aeJ rfl
  ·rw[if_neg ho]
   obtain⟨hr,hf,_⟩:=rH hp;simp only
   by_cases hk:o.kind=5
   ·have hg:dY s o=false:=by
     cases hg:dY s o with
     |false=>rfl
     |true=>have:=yW hf (D5 hg);omega
    obtain⟨hv1,hlt,hop,hsu⟩:=Dx hr hf hk
    by_cases hd:sU s o=true
    ·have hb:cL s o=dj (cR aQ s o) o (fR s o).2 true:=by
      grind [cL]
     have hrev:(cR aQ s o).reviews=s.reviews.modify (o.review - 1).toNat shut:=by
      simp_all [vo,if_pos]
     have hon:=gX.duties o true (fR s o).2 (cR aQ s o);rw[←hb,hrev]at hon;obtain⟨a1,a2,a3⟩:=IT hon;have hlm:(s.reviews.modify (o.review - 1).toNat shut).length=s.reviews.length:=aeJ;rw[hlm]at a1;refine⟨a1,fun i h1 h2=>⟨fun hc=>?_,fun hc=>?_⟩,fun i h1 h2=>a3 i h1 aeC,fun hgl=>?_⟩
     ·have hi:(o.review - 1).toNat=i:=by omega
      subst hi;rw[a2 _ aeC h2,List.getElem_modify,if_pos rfl];exact⟨fun e=>hsu e.symm,hop,rfl,rfl⟩
     ·have hi:(o.review - 1).toNat≠i:=fun e=>hc ⟨rfl,by simp[nJ,hd],hk,aeC⟩
      rw[a2 _ aeC h2,List.getElem_modify,if_neg hi]
     simp_all [nJ]
    ·have hd:sU s o=false:=by grind
     have hb:cL s o=dj s o (fR s o).2 false:=by
      grind [cL]
     have hon:=gX.duties o false (fR s o).2 s;rw[←hb]at hon;obtain⟨a1,a2,a3⟩:=IT hon;refine⟨a1,fun i h1 h2=>⟨fun hc=>?_,fun hc=>a2 i h1 h2⟩,a3,fun hgl=>?_⟩
     ·simp_all [nJ]
     simp_all [nJ]
   ·have hs1:gX o s.reviews (if dY s o then bX s o o.reason else s).reviews:=by
     split
     ·exact .open s o _
     ·exact .refl o _
    have hs2:(if sU s o then cR aQ (if dY s o then bX s o o.reason else s) o else(if dY s o then bX s o o.reason else s)).reviews=(if dY s o then bX s o o.reason else s).reviews:=by
     split
     ·simp_all [vo,if_neg]
     ·rfl
    have hd:=gX.duties o (sU s o) (fR s o).2 (if sU s o then cR aQ (if dY s o then bX s o o.reason else s) o else(if dY s o then bX s o o.reason else s))
    rw[hs2]at hd;have hon:gX o s.reviews (cL s o).reviews:=hs1.trans hd;obtain⟨a1,a2,a3⟩:=IT hon;refine⟨a1,fun i h1 h2=>⟨fun hc=>(hk hc.2.2.1).elim,fun hc=>a2 i h1 h2⟩,a3,fun hgl=>?_⟩
    have hg:dY s o=true:=hgl;have hd' :=hd;simp only[hg,↓reduceIte]at hd';obtain⟨b1,b2,_⟩:=IT hd';have hb:(cL s o)=dj (if sU s o then cR aQ (bX s o o.reason) o else bX s o o.reason) o (fR s o).2 (sU s o):=by
     grind [cL]
    rw[←hb]at b1 b2;have hl:(bX s o o.reason).reviews.length=s.reviews.length+1:=by simp[bX]
    refine⟨aeC,?_⟩
    grind [bX,BR]
 ·rw[if_pos aeC]
  exact .same _ _ _ _ aeC rfl
theorem jB.up(h:jB k s):jB (k+1) s:={h with ver:=⟨h.ver.1,by have:=h.ver.2;omega⟩}
theorem Gs(o:OpD)(h:jB k s):jB (k+1) (aE s o).1:=by
 have hrl:=Hj (o:=o) h;unfold aE at hrl⊢
 by_cases hp:(jL s o).1=0
 ·rw[if_neg aeC]at hrl⊢
  by_cases ho:sM (cL s o)=true
  ·rw[if_pos ho];exact h.up
  ·rw[if_neg ho]at hrl⊢
   have ho:sM (cL s o)=false:=aeD;have hw:=(L9 h hp).ok ho;unfold sM at ho;refine {hw with ids:=fun i hi=>?_,nr:=aeD,nn:=aeD}
   by_cases hlt:i<s.reviews.length
   ·obtain⟨h1,h2⟩:=hrl.old i hlt hi
    by_cases hc:(0:Int)=0∧(nJ s o).err=0∧o.kind=5∧o.review=((i+1:Nat):Int)
    ·rw[(h1 hc).2.2.2];exact h.ids i hlt
    ·rw[h2 hc];exact h.ids i hlt
   ·exact(hrl.new i hi aeC).1
 ·rw[if_pos aeC];exact h.up
structure Xi (s:an) (o:OpD):Prop where
 err:(aE s o).2.2.2≠0→(aE s o).1=s∧(aE s o).2.1.err=(aE s o).2.2.2∧(aE s o).2.1.mark=naM
 ok:(aE s o).2.2.2=0→(aE s o).2.1.mark=(fR s o).1∧(aE s o).2.2.1=⟨o,s.version,(fR s o).1,dY s o,(fR s o).2⟩∧(aE s o).2.1.glass=dY s o∧(aE s o).1=cL s o∧(aE s o).2.1=nJ s o
theorem yK(o:OpD)(done:Bool):∀(l:List cB) (s:an),(dj s o l done).cases.length=s.cases.length
 | [],s=>rfl
 |x::l,s=>by
  have:(fy o done s x).cases.length=s.cases.length:=by
   unfold fy;split
   ·grind [iL]
   ·split
    ·rfl
    grind
  exact(yK o done l _).trans this
theorem Mw(par:Txt→bD×Int×Int)(s:an)(o:OpD)(hk:o.kind≠7):(cR par s o).policy=s.policy∧(cR par s o).version=s.version:=by
 unfold cR;split
 ·unfold doD
  simp only[hk,if_false];split
  ·simp
  ·split
   ·simp
   grind
 simp
def rep(n:Nat)(t:Txt):Txt:=(List.replicate n t).flatten
def MLe(a b:eP):Prop:=(∀x∈a.met,x∈b.met)∧a.rules≤b.rules
theorem MLe.refl(a:eP):MLe a a:=⟨fun _ h=>h,Nat.le_refl _⟩
theorem MLe.trans{b c:eP}(h1:MLe a b)(h2:MLe b c):MLe a c:=⟨fun x h=>h2.1 x (h1.1 x h),Nat.le_trans h1.2 h2.2⟩
theorem IJ{b:eP}{s:Txt}(h:MLe a b)(hm:jz b s=some b'):∃a',jz a s=some a'∧MLe a' b' :=by
 unfold jz at hm⊢;split at hm
 ·rename_i hc
  cases hm;refine⟨_,if_pos ⟨fun hx=>hc.1 (h.1 s hx),hc.2⟩,fun x hx=>?_,h.2⟩
  rcases List.mem_append.1 hx with hx|hx
  ·exact List.mem_append.2 (.inl (h.1 x hx))
  grind
 grind
theorem IK{b:eP}{s:Txt}(hm:jz b s=some b'):MLe b b' :=by
 unfold jz at hm;split at hm
 ·cases hm;exact⟨fun x hx=>List.mem_append.2 (.inl hx),Nat.le_refl _⟩
 grind
theorem o8{e:Int}{w:Went}{m:eP}(h:need e w= .ok m):e=0∧w= .ok m:=by grind [need]
theorem QA{b:eP}{r:cQ}(h:MLe a b)(hr:gF b r= .ok b'):(∃a',gF a r= .ok a'∧MLe a' b')∧MLe b b' :=by
 unfold gF at hr⊢;cases hm:jz b r.id with
 |none=>grind
 |some m=>
  rw[hm]at hr;obtain⟨a',ha,hl⟩:=IJ h hm;simp only at hr;split at hr
  ·grind
  ·obtain⟨e1,hr⟩:=o8 hr
   obtain⟨e2,hr⟩:=o8 hr;obtain⟨e3,hr⟩:=o8 hr;cases hr;have hup:=IK hm;refine⟨⟨⟨a'.met,a'.rules+1⟩,?_,hl.1,by have:=hl.2;simp only;omega⟩,hup.1,by have:=hup.2;simp only;omega⟩
   rw[ha];have:=hl.2;simp only[e1,e2,e3,need,if_true];rw[if_neg aeC]
theorem Fe:∀(l:List cQ) {a b b' :eP},MLe a b→fK b l= .ok b'→(∃a',fK a l= .ok a'∧MLe a' b')∧MLe b b'
 | [],a,b,b',h,hr=>by
  cases hr;exact⟨⟨a,rfl,h⟩,.refl _⟩
 |r::l,a,b,b',h,hr=>by
  simp only[fK]at hr⊢;cases hw:gF b r with
  |bad e=>grind
  |ok m=>
   rw[hw]at hr;obtain⟨⟨a',ha,hl⟩,hu⟩:=QA h hw;obtain⟨⟨a'',ha',hl'⟩,hu'⟩:=Fe l hl hr;exact⟨⟨a'',aeD,hl'⟩,hu.trans hu'⟩
theorem PK{b:eP}{id:Txt}{set:Bool}{alg:Int}{nr nk nk' :Nat}{obls:List cB}(h:MLe a b)(hk:nk'≤nk)(hr:fA b id set alg tgt nr nk obls= .ok b'):(∃a',fA a id set alg tgt nr nk' obls= .ok a'∧MLe a' b')∧MLe b b' :=by
 unfold fA at hr⊢;cases hm:jz b id with
 |none=>rw[hm]at hr;cases hr
 |some m=>
  rw[hm]at hr;obtain⟨a',ha,hl⟩:=IJ h hm;simp only at hr;split at hr
  ·cases hr
  ·rename_i h1
   split at hr
   ·cases hr
   ·rename_i h2
    obtain⟨e1,hr⟩:=o8 hr;obtain⟨e2,hr⟩:=o8 hr;split at hr
    ·cases hr
    ·rename_i h3
     cases hr;refine⟨⟨a',?_,hl⟩,IK hm⟩;rw[ha];have h2' :¬(set=true∧nr>0∨set=false∧(nk' >0∨alg=4)):=by
      rintro(⟨p,q⟩|⟨p,q|q⟩)
      ·exact h2 (.inl ⟨p,q⟩)
      ·exact h2 (.inr ⟨p,.inl aeC⟩)
      ·exact h2 (.inr ⟨p,.inr q⟩)
     simp only[if_neg h1,if_neg h2',e1,e2,need,if_true];rw[if_neg aeC]
theorem ET(gs:List bt):∀l:List bD,(kQ gs l).length≤l.length
 | []=>by simp[kQ]
 |k::r=>by
  have:=ET gs r;simp only[kQ];split<;>simp<;>omega
mutual
theorem EV(gs:List bt):∀(p:bD) (d:Nat) {a b b' :eP},MLe a b→kY b d p= .ok b'→(∃a',kY a d (lV gs p)= .ok a'∧MLe a' b')∧MLe b b'
 |.mk id set alg tgt rules kids obls,d,a,b,b',h,hr=>by
  simp only[kY,lV]at hr⊢;split at hr
  ·cases hr
  ·rename_i hd
   rw[if_neg hd];cases hh:fA b id set alg tgt rules.length kids.length obls with
   |bad e=>rw[hh]at hr;cases hr
   |ok m=>
    rw[hh]at hr;simp only at hr;obtain⟨⟨a1,ha1,hl1⟩,hu1⟩:=PK h (ET gs kids) hh;cases hw:fK m rules with
    |bad e=>rw[hw]at hr;cases hr
    |ok m2=>
     rw[hw]at hr;simp only at hr;obtain⟨⟨a2,ha2,hl2⟩,hu2⟩:=Fe rules hl1 hw;obtain⟨⟨a3,ha3,hl3⟩,hu3⟩:=vE gs kids (d+1) hl2 hr;refine⟨⟨a3,?_,hl3⟩,(hu1.trans hu2).trans hu3⟩;rw[ha1];simp only[ha2];exact ha3
theorem vE(gs:List bt):∀(l:List bD) (d:Nat) {a b b' :eP},MLe a b→jg b d l= .ok b'→(∃a',jg a d (kQ gs l)= .ok a'∧MLe a' b')∧MLe b b'
 | [],d,a,b,b',h,hr=>by
  simp only[jg,kQ]at hr⊢;cases hr;exact⟨⟨a,rfl,h⟩,.refl _⟩
 |k::r,d,a,b,b',h,hr=>by
  simp only[jg]at hr;cases hw:kY b d k with
  |bad e=>rw[hw]at hr;cases hr
  |ok m=>
   rw[hw]at hr;simp only at hr;obtain⟨⟨a1,ha1,hl1⟩,hu1⟩:=EV gs k d h hw;simp only[kQ];split
   ·obtain⟨⟨a2,ha2,hl2⟩,hu2⟩:=vE gs r d hl1 hr
    refine⟨⟨a2,?_,hl2⟩,hu1.trans hu2⟩;simp only[jg,ha1];exact ha2
   ·obtain⟨⟨a2,ha2,hl2⟩,hu2⟩:=vE gs r d (h.trans hu1) hr
    exact⟨⟨a2,ha2,hl2⟩,hu1.trans hu2⟩
end
theorem Hl(gs:List bt){p:bD}(h:gK p=0):gK (lV gs p)=0:=by
 unfold gK at*;cases hw:kY ⟨[],0⟩ 1 p with
 |bad e=>
  have:=uJ 4 1 _ _ e rfl hw;rw[hw]at h;exact(this h).elim
 |ok m=>
  obtain⟨⟨a,ha,_⟩,_⟩:=EV gs p 1 (.refl _) hw;rw[ha];rfl
def Xd:bP:=⟨⟨0,[],false⟩,0,aq⟩
def PU(k:Option bP):AV:=match k with
 |some m=> .tup [dV m,.b true]
 |none=> .tup [dV Xd,.b false]
theorem M5{x:List (List bP)}(h:x.length≠1):o6 (x::r)=o6 r:=by
 match x,h with
 | [],_=>rfl
 | [l],h=>exact(h rfl).elim
 |a::b::c,_=>rfl
theorem M4(h:(l.find? fun m=>m.op==1 && !m.attr.must)=none):o6 ([l]::r)=o6 r:=by grind [o6]
theorem M7{m:bP}(h:(l.find? fun m=>m.op==1 && !m.attr.must)=some m):o6 ([l]::r)=some m:=by grind [o6]
theorem ES(gs:List bt):∀l:List bD,kQ gs l=(l.filter (tg gs)).map (lV gs)
 | []=>aeR
 |k::r=>by
  simp only[kQ,List.filter_cons,ES gs r]
  grind
def ixP(gs:List bt)(l:List bD)(n:Nat):List Nat:=(List.range n).filter fun j=>tg gs (l.getD j mz)
theorem Ei(gs:List bt)(l:List bD)(h:n<l.length):ixP gs l (n+1)=ixP gs l n++(if tg gs l[n]=true then [n]else []):=by grind [ixP,List.range_succ,List.getD,List.getElem?_eq_getElem]
theorem Ej(gs:List bt)(l:List bD):∀n:Nat,n≤l.length→(ixP gs l n).map (fun j=>l.getD j mz)=(l.take n).filter (tg gs)
 |0,_=>aeR
 |n+1,h=>by
  have hlt:n<l.length:=aeC;rw[Ei gs l hlt,List.map_append,Ej gs l n aeC,List.take_succ_eq_append_getElem hlt,List.filter_append,List.filter_cons]
  congr 1
  grind
theorem S9{gs:List bt}{l:List bD}{j:Nat}(h:j∈ixP gs l n):j<n:=List.mem_range.1 (List.mem_filter.1 h).1
theorem IC(gs:List bt)(l:List bD)(n:Nat):(ixP gs l n).length≤n:=by grind [ixP,Nat.le_trans,List.length_filter_le]
theorem MY(gs:List bt)(l:List bD):(ixP gs l l.length).map (fun j=>lV gs (l.getD j mz))=kQ gs l:=by rw[ES,←List.take_length (l:=l),←Ej gs l l.length (Nat.le_refl _),List.map_map,List.take_length];rfl
theorem o7(m:bP):dV m= .agg [.i m.attr.cat,.s m.attr.name,.b m.attr.must,.i m.op,.i m.val.kind,.i m.val.n,.s m.val.s]:=rfl
end Go.Bf
namespace Go.Proofs.YtelkmnkejghkeaaGreatDoor
open Go Go.Ab Go.Bf Tryz
variable {gs:List bt}{p:bD}{rs:List iD}{k j:Nat}{s:an}{y1 y2 y3 y4 z:AV}
theorem Ta(t:gv)(ht:OZ t)(h:Heap):ai prog 207 [aV t] h fun r h' =>r=PU (o6 t)∧h' =h:=by
 have htl:=ht.1;refine aeB func207 38 [.cell 2 264,.tmp 3] fun hwf=>?_
 simp only[go_sem,aV];intro i2 h2;simp only[go_sem,aes];have hH0:∀x,Ab.Sub h (upd h i2 x):=fun x=> .aj h2
 refine .intro (fun m ρ H=>Ab.Sub h H∧H i2=some (.obj [.i 0,.s [],.b false,.i 0,.i 0,.i 0,.s []] 264)∧∃i:Nat,i≤t.length∧m=t.length - i∧o6 (t.drop i)=o6 t∧lk ρ 2=some (.ptr i2 0)∧lk ρ 8=some (.sl (t.map cV) .no)∧lk ρ 9=some (.i t.length)∧lk ρ 10=some (.i i)) t.length ?_ ?_
 ·refine⟨hH0 _,ah ..,0,aeC,rfl,rfl,?_,?_,?_,?_⟩<;>simp only[go_sem]
 ·rintro m ρ H ⟨hs,k2,i,hi,rfl,hk,r2,r8,r9,r10⟩
  simp only[go_sem,r9,r10];refine .intro (fun e=>?_) (fun e=>?_)
  ·have hlt:i<t.length:=aez e
   have w1:IntKind.i64.wrap ((i:Int)+1)=((i+1:Nat):Int):=aeN;rw[List.drop_eq_getElem_cons hlt]at hk;have hxl:=(ht.2 _ (aex hlt)).2;have ix:=fun k=>dR.eq (xs:=t.map cV) (sz:=1) i aeD aeQ k
   rw[aet]at ix;obtain⟨x,ex⟩:∃x,t[i]=x:=⟨_,rfl⟩;rw[ex]at ix hk hxl;simp only[cV]at ix;cases d1:((x.length:Int) !=1)
   case true=>
    have hx1:x.length≠1:=aeD;rw[M5 hx1]at hk;simp only[go_sem,r8,r10,ix,aes,d1,w1];refine⟨_,?_,hs,k2,i+1,aeC,rfl,hk,?_,?_,?_,?_⟩
    ·omega
    all_goals simp only[go_sem,r2,r8,r9]
   have hx1:x.length=1:=aeD;obtain⟨l,rfl⟩:=List.length_eq_one_iff.1 hx1;have hll:=hxl l (List.mem_singleton.2 rfl);have iy:=fun k=>dR.eq (xs:=[jl l]) (sz:=1) 0 aeJ rfl k
   simp only[List.getElem_cons_zero,jl,Int.natCast_zero]at iy;simp only[go_sem,r8,r10,ix,aes,List.length_cons,List.length_nil,List.map_cons,List.map_nil,jl,iy];refine .intro (fun m ρ2 H2=>Ab.Sub h H2∧H2 i2=some (.obj [.i 0,.s [],.b false,.i 0,.i 0,.i 0,.s []] 264)∧∃j:Nat,j≤l.length∧m=l.length - j∧(∀k (h1:k<l.length),k<j→(l[k].op==1 && !l[k].attr.must)=false)∧lk ρ2 2=some (.ptr i2 0)∧lk ρ2 8=some (.sl (t.map cV) .no)∧lk ρ2 9=some (.i t.length)∧lk ρ2 10=some (.i i)∧lk ρ2 19=some (.sl (l.map dV) .no)∧lk ρ2 20=some (.i l.length)∧lk ρ2 21=some (.i j)) l.length ?_ ?_
   ·refine⟨hs,k2,0,aeC,rfl,fun k _ hk=>aeC,?_,?_,?_,?_,?_,?_,?_⟩<;>simp only[go_sem,r2,r8,r9,r10]
   ·rintro m ρ2 H2 ⟨hs2,k2,j,hj,rfl,hc,s2,s8,s9,s10,s19,s20,s21⟩
    simp only[go_sem,s20,s21];refine .intro (fun e=>?_) (fun e=>?_)
    ·have hlt2:j<l.length:=aez e
     have w2:IntKind.i64.wrap ((j:Int)+1)=((j+1:Nat):Int):=aeN;have iz:=fun k=>dR.eq (xs:=l.map dV) (sz:=7) j aeD aeQ k
     rw[aet]at iz;have hci:=fun(d:(l[j].op==1 && !l[j].attr.must)=false)=>(fun k (h1:k<l.length) (hk:k<j+1)=>(by
      grind:(l[k].op==1 && !l[k].attr.must)=false))
     have hat:=fun(d:(l[j].op==1 && !l[j].attr.must)=true)=>(List.find?_eq_some_iff_getElem.2 ⟨d,j,hlt2,rfl,fun k hk=>aeD⟩:(l.find? fun m=>m.op==1 && !m.attr.must)=some l[j])
     obtain⟨z,ez⟩:∃z,l[j]=z:=⟨_,rfl⟩;rw[ez]at iz hci hat;simp only[o7]at iz;simp only[go_sem,s19,s21,iz];intro i7 h7;have n72:i7≠i2:=fun e=>aeD
     cases a1:(z.op==1)
     ·exact ajq
     ·cases a2:z.attr.must
      ·have hkk:=hk.symm.trans (M7 (hat aeD))
       simp only[go_sem,s2,a1,ak,n72.symm,k2];exact .mk _ (.refl _) ((hs2.trans (.aj h7)).put h2 _) ⟨by rw[hkk];simp only[PU,o7,a2];rfl,rfl⟩
      ·exact ajq
    ·have hge:j=l.length:=by grind
     subst hge;rw[M4 (List.find?_eq_none.2 fun z hz=>by
      obtain⟨k,hk,rfl⟩:=List.mem_iff_getElem.1 hz
      grind)]at hk
     simp only[go_sem,s10,w1];refine⟨_,?_,hs2,k2,i+1,aeC,rfl,hk,?_,?_,?_,?_⟩
     ·omega
     all_goals simp only[go_sem,s2,s8,s9]
  ·have hge:i=t.length:=by grind
   subst hge;rw[List.drop_length]at hk;simp only[go_sem,r2,k2];exact .mk _ (.refl _) (hs.put h2 _) ⟨by rw[←hk];rfl,rfl⟩
theorem KA(h:o6 (tv p)=none):tg gs p=true:=by grind [tg]
theorem KB{m:bP}(h:o6 (tv p)=some m):tg gs p=decide (ko gs m≠0):=by grind [tg]
def uv(n:Nat):AV:=.i n
theorem NO(l:List bD)(hl:l.length≤1000)(ht:∀p∈l,OZ (tv p))(gs:List bt)(hf:sA gs)(h:Heap):ai prog 152 [.sl (l.map aO) .no,bJ gs] h fun r h' =>r= .sl ((ixP gs l l.length).map uv) .no∧h' =h:=by
 have hmt:=fun(m:bP) (G:Heap)=>Bx m gs hf G
 simp only[o7,bJ]at hmt;have uI:(U 3).sz=1:=aeR;refine aeB func152 37 [.tmp 4] fun hwf=>?_
 simp only[go_sem,bJ,aes];refine .intro (fun m ρ H=>∃(i:Nat) (y:AV),Acc U 3 h H y ((ixP gs l i).map uv)∧i≤l.length∧m=l.length - i∧lk ρ 1=some (.sl (gs.map lO) .no)∧lk ρ 5=some y∧lk ρ 10=some (.sl (l.map aO) .no)∧lk ρ 11=some (.i l.length)∧lk ρ 12=some (.i i)) l.length ?_ ?_
 ·refine⟨0,.sl [] .full,.full (.refl _),aeC,rfl,?_,?_,?_,?_,?_⟩<;>simp only[go_sem]
 ·rintro m ρ H ⟨i,y,hy,hi,rfl,r1,r5,r10,r11,r12⟩
  obtain⟨qy,eqy⟩:=hy.row;subst eqy;simp only[go_sem,r11,r12];refine .intro (fun e=>?_) (fun e=>?_)
  ·have hlt:i<l.length:=aez e
   have w1:IntKind.i64.wrap ((i:Int)+1)=((i+1:Nat):Int):=aeN;have hsn:=Ei gs l hlt;have hpl:=IC gs l i;have ix:=fun k=>dR.eq (xs:=l.map aO) (sz:=7) i aeD (by rw[aet,jK]) k
   rw[aet]at ix;have hft:=ht _ (aex hlt);obtain⟨x,ex⟩:∃x,l[i]=x:=⟨_,rfl⟩;rw[ex]at ix hsn hft;have hky:=fun G=>Ta (tv x) hft G
   have mn:=fun h=>KA (gs:=gs) (p:=x) h
   have ms:=fun m h=>KB (gs:=gs) (p:=x) (m:=m) h
   obtain⟨kid,kset,kalg,ktgt,krules,kkids,kobls⟩:=x;simp only[tv]at hky hft mn ms;simp only[aO,aV,ay,bf]at ix;simp only[aV]at hky;simp only[go_sem,r10,r12,ix];intro i7 h7;simp only[go_sem];refine(hky _).pthen ?_;have hkeep:tg gs (.mk kid kset kalg ktgt krules kkids kobls)=true→ixP gs l (i+1)=ixP gs l i++ [i]:=fun e=>aeD
   have hdrop:tg gs (.mk kid kset kalg ktgt krules kkids kobls)=false→ixP gs l (i+1)=ixP gs l i:=fun e=>aeD
   cases hk:o6 ktgt with
   |none=>
    simp only[go_sem,PU,o7];intro i8 h8;simp only[go_sem,r5];exact aja
   |some m=>
    have hm2:=ms m hk;simp only[go_sem,PU,o7];intro i8 h8;simp only[go_sem,r1];refine(hmt m _).pthen ?_;cases dm:((ko gs m:Int) !=0)
    ·have e0:ko gs m=0:=by grind
     simp only[go_sem,r12,dm,w1];refine⟨_,?_,i+1,_,by rw[hdrop aeD];exact(hy.sub (.aj h7)).sub (.aj h8),aeC,rfl,?_,?_,?_,?_,?_⟩
     ·omega
     all_goals simp only[go_sem,r1,r5,r10,r11]
    ·have e0:ko gs m≠0:=by grind
     simp only[go_sem,r5,dm];exact aja
  ·have hge:i=l.length:=by grind
   subst hge;simp only[go_sem,r5];exact .mk _ (.sl _ _) hy.1 ⟨rfl,rfl⟩
theorem WC{id:Txt}{set:Bool}{alg:Int}{tgt:gv}{rules:List cQ}{kids:List bD}{obls:List cB}{L:List AV}(hL:L=kids.map aO)(q:Perm):Weak (.agg [.s id,.b set,.i alg,.sl (tgt.map cV) .no,.sl (rules.map aC) .no,.sl L q,.sl (obls.map bl) .no]) (aO (.mk id set alg tgt rules kids obls)):=by
 subst hL;rw[aO,bf];refine .agg _ _ rfl fun i a b=>?_
 rcases i with _|_|_|_|_|_|_|i
 ·exact afX
 ·exact afX
 ·exact afX
 ·exact afX
 ·exact afX
 ·exact ahg
 ·exact afX
 ·simp at a;omega
theorem BH:∀(n d:Nat),d+n=5→∀(p:bD),mM d p→∀(gs:List bt),sA gs→∀(h:Heap),ai prog 93 [aO p,bJ gs] h fun r h' =>r=aO (lV gs p)∧h' =h
 |0,d,hd,.mk id set alg tgt rules kids obls,hE,gs,hf,h=>by
  simp only[mM]at hE;omega
 |n+1,d,hd,.mk id set alg tgt rules kids obls,hE,gs,hf,h=>by
  have ih:=BH n (d+1) aeC;simp only[mM,ru]at hE;obtain⟨_,_,_,_,_,_,hT,hO,hR,hK,hRE,hKE⟩:=hE;have hpk:=fun G=>NO kids aeC (fun p hp=>by
   have h1:=hKE p hp;obtain⟨kid,kset,kalg,ktgt,krules,kkids,kobls⟩:=p;simp only[mM]at h1;exact C0 h1.2.2.2.2.2.2.1) gs hf G
  have hpe:lV gs (.mk id set alg tgt rules kids obls)= .mk id set alg tgt rules (kQ gs kids) obls:=aeR;have hfull:=MY gs kids;have hIlt:∀j∈ixP gs kids kids.length,j<kids.length:=fun j hj=>S9 hj
  have hIl:(ixP gs kids kids.length).length≤16:=Nat.le_trans (IC _ _ _) hK;obtain⟨I,eI⟩:∃I,ixP gs kids kids.length=I:=⟨_,rfl⟩;rw[eI]at hpk hfull hIlt hIl;simp only[bJ]at hpk;have uP:(U 39).sz=7:=aeR;refine aeB func93 31 [.cell 4 39] fun hwf=>?_
  simp only[go_sem,aO,bJ,bf,aV,ay];intro i2 h2;simp only[go_sem];intro i4 h4;have n42:=aI h4;have n4' :=aB h4;obtain⟨H0,eH⟩:∃H0,upd (upd h i2 (some (.obj [.s id,.b set,.i alg,.sl (tgt.map cV) .no,.sl (rules.map aC) .no,.sl (kids.map aO) .no,.sl (obls.map bl) .no] 39))) i4 (some (.obj [.s [],.b false,.i 0,.sl [] .full,.sl [] .full,.sl [] .full,.sl [] .full] 39))=H0:=⟨_,rfl⟩;have hH0:Ab.Sub h H0:=ahz;have g2:H0 i2=some (.obj [.s id,.b set,.i alg,.sl (tgt.map cV) .no,.sl (rules.map aC) .no,.sl (kids.map aO) .no,.sl (obls.map bl) .no] 39):=aii;have g4:H0 i4=some (.obj [.s [],.b false,.i 0,.sl [] .full,.sl [] .full,.sl [] .full,.sl [] .full] 39):=af5;simp only[go_sem,ak,n42.symm];rw[eH];clear eH;refine(hpk _).pthen ?_;simp only[go_sem,aes];refine .intro (fun m ρ H=>∃(i:Nat) (y:AV),Acc U 39 H0 H y (((I.map fun j=>lV gs (kids.getD j mz)).take i).map aO)∧i≤I.length∧m=I.length - i∧lk ρ 1=some (.sl (gs.map lO) .no)∧lk ρ 2=some (.ptr i2 0)∧lk ρ 4=some (.ptr i4 0)∧lk ρ 5=some y∧lk ρ 11=some (.sl (I.map uv) .no)∧lk ρ 12=some (.i I.length)∧lk ρ 13=some (.i i)) I.length ?_ ?_
  ·refine⟨0,.sl [] .full,.full (.refl _),aeC,rfl,?_,?_,?_,?_,?_,?_,?_⟩<;>simp only[go_sem]
  ·rintro m ρ H ⟨i,y,hy,hi,rfl,r1,r2,r4,r5,r11,r12,r13⟩
   obtain⟨qy,eqy⟩:=hy.row;subst eqy;have k2:=hy.1 _ _ g2;simp only[go_sem,r12,r13];refine .intro (fun e=>?_) (fun e=>?_)
   ·have hlt:i<I.length:=aez e
    have w1:IntKind.i64.wrap ((i:Int)+1)=((i+1:Nat):Int):=aeN;have hjlt:=hIlt _ (aex hlt);have hsn:((I.map fun j=>lV gs (kids.getD j mz)).take (i+1)).map aO=((I.map fun j=>lV gs (kids.getD j mz)).take i).map aO++ [aO (lV gs (kids.getD I[i] mz))]:=by
     grind [List.take_succ_eq_append_getElem]
    have ix:=fun k=>dR.eq (xs:=I.map uv) (sz:=1) i aeD aeQ k
    rw[aet]at ix;obtain⟨j,ej⟩:∃j,I[i]=j:=⟨_,rfl⟩;rw[ej]at ix hsn hjlt;have iy:=fun k=>dR.eq (xs:=kids.map aO) (sz:=7) j aeD (by rw[aet,jK]) k
    rw[aet]at iy;rw[show kids.getD j mz=kids[j] by grind]at hsn
    have hke:=hKE _ (aex hjlt);obtain⟨x,ex⟩:∃x,kids[j]=x:=⟨_,rfl⟩;rw[ex]at iy hsn hke;have hr1:=ih x hke gs hf;obtain⟨z,ez⟩:∃z,lV gs x=z:=⟨_,rfl⟩;rw[ez]at hr1 hsn;obtain⟨kid,kset,kalg,ktgt,krules,kkids,kobls⟩:=x;obtain⟨zid,zset,zalg,ztgt,zrules,zkids,zobls⟩:=z;simp only[aO,aV,ay,bf,bJ]at iy hr1;simp only[uv]at ix;simp only[go_sem,r1,r2,r5,r11,r13,ix,k2,iy];refine(hr1 _).pthen ?_;simp only[go_sem];refine hy.app (zs:=[aO (.mk zid zset zalg ztgt zrules zkids zobls)]) aeC aeG (fun k hk=>show k _ from(by simpa only[aO,aV,ay,bf]using hk)) (by grind [bx,aO,jK]) (by rw[uP];intro z hz;grind [List.mem_singleton,jK]) aeV fun y' H' hy' kp=>?_
    simp only[go_sem,r13,w1];refine⟨_,?_,i+1,y',aeD,aeC,rfl,?_,?_,?_,?_,?_,?_,?_⟩
    ·omega
    all_goals simp only[go_sem,r1,r2,r4,r11,r12]
   ·have hge:i=I.length:=by grind
    subst hge;have htl:(I.map fun j=>lV gs (kids.getD j mz)).take I.length=kQ gs kids:=by grind [List.take_of_length_le]
    rw[htl]at r5 hy;have k4:=hy.1 _ _ g4;have n24:i2≠i4:=n42.symm;simp only[go_sem,r2,r4,r5,k2,ak,n42,k4];refine .mk (aO (.mk id set alg tgt rules (kQ gs kids) obls)) (WC rfl _) (((hH0.trans hy.1).put h2 _).put n4' _) ⟨aeR,rfl⟩
theorem Eh(p:bD)(hp:gK p=0)(gs:List bt)(hf:sA gs)(h:Heap):ai prog 42 [aO p,bJ gs] h fun r h' =>r= .tup [rsA (fN gs p),.i 0]∧h' =h:=by
 have hpk:=fun G=>BH 4 1 rfl p (rN hp) gs hf G
 have hev:=fun G=>DN (lV gs p) (Hl gs hp) gs hf G
 have hr:=fun G=>uT p G
 rw[hp]at hr;rw[BF]at hev;obtain⟨id,set,alg,tgt,rules,kids,obls⟩:=p;refine aeB func42 17 [.cell 4 103,.tmp 5] fun hwf=>?_
 simp only[go_sem,aO,bJ,aV,ay];intro i2 h2;simp only[go_sem];intro i4 h4;have n42:=aI h4;have n4:=aB h4;have hs:∀x y,Ab.Sub h (upd (upd h i2 x) i4 y):=fun x y=>((Sub.refl h).put h2 x).put n4 y
 simp only[go_sem,ak,n42.symm];refine(hr _).pthen ?_;simp only[go_sem,ak,n42.symm];refine(hpk _).pthen ?_;simp only[go_sem];refine(hev _).pthen ?_;simp only[go_sem,rsA,aN,ay];exact agf
def OwR(h0 h:Heap)(y:AV)(rs:List iD):Prop:=y=eJ rs∨OwE 140 h0 h 2 y (rs.map eW)
theorem OwR.rd{h0 h:Heap}{y:AV}(hr:OwR h0 h y rs):Rd h 2 y (rs.map eW):=by
 rcases hr with rfl|hr
 ·exact eE eW 2 (fun _=>rfl) h rs
 ·exact hr.rd
theorem OwR.nid{h0 h:Heap}{y:AV}(hr:OwR h0 h y rs)(e:Ab.nid y=some k):h0 k=none∧h k≠none:=by
 rcases hr with rfl|hr
 ·cases e
 ·exact⟨(hr.nid e).1,(hr.nid e).2.1⟩
theorem OwR.keep{h0 h h' :Heap}{y:AV}(hr:OwR h0 h y rs)(hk:∀id,Ab.nid y=some id→h' id=h id):OwR h0 h' y rs:=by
 rcases hr with hr|hr
 ·exact .inl hr
 ·exact .inr (hr.keep hk)
theorem OwR.bL{g h0 h:Heap}{y:AV}(hr:OwR h0 h y rs)(hg:∀i,h0 i=none→g i=none):OwR g h y rs:=by
 rcases hr with hr|hr
 ·exact .inl hr
 ·exact .inr (hr.bL hg)
theorem OwR.frz{g h:Heap}{y:AV}(hr:OwR g h y rs):Frz g h y (eJ rs):=by
 rcases hr with rfl|hr
 ·exact .pure (by simp only[eJ,cI];exact bn (fun _=>rfl) _)
 ·exact hr.frz (bn (fun _=>rfl) _)
structure iU (h0 h:Heap) (y1 y2 y3 y4:AV) (s:an) (j:Nat):Prop where
 cs:mG h0 h [y1,y2,y3,y4] y1 s.cases j
 rv:OwE 134 h0 h 7 y2 (s.reviews.map jb)
 nt:OwE 137 h0 h 3 y3 (s.notices.map nO)
 rl:OwR h0 h y4 s.roles
 a12:apart y1 y2
 a13:apart y1 y3
 a14:apart y1 y4
 a23:apart y2 y3
 a24:apart y2 y4
 a34:apart y3 y4
def stC(s:an)(y1 y2 y3 y4:AV):List AV:=[.i s.tick,y1,y2,y3,y4]++gq s.policy++ [.i s.version]
theorem tN.parts{h0 h:Heap}{x:AV}(ho:tN h0 h x s j):∃y1 y2 y3 y4,x= .agg (stC s y1 y2 y3 y4)∧iU h0 h y1 y2 y3 y4 s j:=by obtain⟨y1,y2,y3,y4,e,a,b,c,d,r1,r2,r3,r4,r5,r6⟩:=ho;exact⟨y1,y2,y3,y4,e,a,b,c,.inr d,r1,r2,r3,r4,r5,r6⟩
theorem iU.rd{h0 h:Heap}(ho:iU h0 h y1 y2 y3 y4 s j):RdS h (.agg (stC s y1 y2 y3 y4)) s:=
 ⟨y1,y2,y3,y4,rfl,ho.cs.rd,ho.rv.rd,ho.nt.rd,ho.rl.rd⟩
theorem iU.frz{g h:Heap}(ho:iU g h y1 y2 y3 y4 s j):Frz g h (.agg (stC s y1 y2 y3 y4)) (cG s):=
 vu (ho.cs.frz (.refl _)) (ho.rv.frz (bn (fun _=>rfl) _)) (ho.nt.frz (bn (fun _=>rfl) _)) ho.rl.frz
theorem iU.bL{g h0 h:Heap}(ho:iU h0 h y1 y2 y3 y4 s j)(hg:∀i,h0 i=none→g i=none):iU g h y1 y2 y3 y4 s j:=
 {ho with cs:=ho.cs.bL hg,rv:=ho.rv.bL hg,nt:=ho.nt.bL hg,rl:=ho.rl.bL hg}
theorem iU.keep{h0 h h' :Heap}(ho:iU h0 h y1 y2 y3 y4 s j)(hk:∀id,h0 id=none→h id≠none→h' id=h id):iU h0 h' y1 y2 y3 y4 s j:=
 {ho with cs:=ho.cs.keepb hk,rv:=ho.rv.keepb hk,nt:=ho.nt.keepb hk,rl:=ho.rl.keep fun id e=>hk id (ho.rl.nid e).1 (ho.rl.nid e).2}
theorem iU.mem{h0 h:Heap}(ho:iU h0 h y1 y2 y3 y4 s j){w:AV}(hw:w∈ [y1,y2,y3,y4])(e:Ab.nid w=some k):h0 k=none∧h k≠none:=by
 obtain⟨xs,a,_⟩:=ho.cs;simp only[List.mem_cons,List.not_mem_nil,or_false]at hw;rcases hw with rfl|rfl|rfl|rfl
 ·exact⟨(a.nid e).1,(a.nid e).2.1⟩
 ·exact⟨(ho.rv.nid e).1,(ho.rv.nid e).2.1⟩
 ·exact⟨(ho.nt.nid e).1,(ho.nt.nid e).2.1⟩
 ·exact ho.rl.nid e
theorem iU.revs{h0 h h' :Heap}{rs:List qJ}(ho:iU h0 h y1 y2 y3 y4 s j)(hz:OwE 134 h0 h' 7 z (rs.map jb))(hn:∀k,Ab.nid z=some k→h k=none∨Ab.nid y2=some k)
  (hk:∀id,h0 id=none→h id≠none→Ab.nid y2≠some id→h' id=h id):iU h0 h' y1 z y3 y4 {s with reviews:=rs} j:=by
 obtain⟨hcs,hrv,hnt,hrl,a12,a13,a14,a23,a24,a34⟩:=id ho;have ap:∀ {w:AV},w∈ [y1,y2,y3,y4]→apart w y2→apart w z:=fun hw ha k e1 e2=>(hn k e2).elim (fun h=>(ho.mem hw e1).2 h) (fun h=>ha k e1 h)
 refine⟨hcs.move (z:=y2) aeJ a12 hk fun w hw k e=>?_,hz,hnt.keep fun id e=>hk id (hnt.nid e).1 (hnt.nid e).2.1 fun e1=>a23 id e1 e,hrl.keep fun id e=>hk id (hrl.nid e).1 (hrl.nid e).2 fun e1=>a24 id e1 e,ap aeJ a12,a13,a14,(ap aeJ a23.symm).symm,(ap aeJ a24.symm).symm,a34⟩
 grind
theorem iU.nots{h0 h h' :Heap}{rs:List Jo}(ho:iU h0 h y1 y2 y3 y4 s j)(hz:OwE 137 h0 h' 3 z (rs.map nO))(hn:∀k,Ab.nid z=some k→h k=none∨Ab.nid y3=some k)
  (hk:∀id,h0 id=none→h id≠none→Ab.nid y3≠some id→h' id=h id):iU h0 h' y1 y2 z y4 {s with notices:=rs} j:=by
 obtain⟨hcs,hrv,hnt,hrl,a12,a13,a14,a23,a24,a34⟩:=id ho;have ap:∀ {w:AV},w∈ [y1,y2,y3,y4]→apart w y3→apart w z:=fun hw ha k e1 e2=>(hn k e2).elim (fun h=>(ho.mem hw e1).2 h) (fun h=>ha k e1 h)
 refine⟨hcs.move (z:=y3) aeJ a13 hk fun w hw k e=>?_,hrv.keep fun id e=>hk id (hrv.nid e).1 (hrv.nid e).2.1 fun e1=>a23 id e e1,hz,hrl.keep fun id e=>hk id (hrl.nid e).1 (hrl.nid e).2 fun e1=>a34 id e1 e,a12,ap aeJ a13,a14,ap aeJ a23,a24,(ap aeJ a34.symm).symm⟩
 grind
end Go.Proofs.YtelkmnkejghkeaaGreatDoor
namespace Go.Bf
open Go Go.Ab Go.Proofs.YtelkmnkejghkeaaGreatDoor
variable {s:an}{k:Nat}{cs:List aM}
def iE(s:an):Prop:=∀r∈s.reviews,0≤r.tick∧r.tick≤1099511627776
theorem BY(o:OpD)(w:Txt)(h:iE s)(ht:0≤s.tick∧s.tick≤1099511627776):iE (bX s o w):=fun r hr=>by
 simp only[bX,List.mem_append,List.mem_singleton]at hr;rcases hr with hr|rfl
 ·exact h r hr
 ·exact ht
theorem Lo(o:OpD)(w:Txt)(h:iE s):iE (iL s o w):=fun r hr=>h r (by grind [zv])
theorem Ln(o:OpD)(done:Bool)(x:cB)(h:iE s)(ht:0≤s.tick∧s.tick≤1099511627776):iE (fy o done s x):=by
 unfold fy;split
 ·grind [Lo]
 ·split
  ·grind [BY]
  ·split<;>exact h
theorem xy(o:OpD)(done:Bool):∀(l:List cB) {s:an},iE s→(0≤s.tick∧s.tick≤1099511627776)→iE (dj s o l done)
 | [],s,h,_=>h
 |x::l,s,h,ht=>xy o done l (by grind [Ln]) (by grind [DH])
theorem Ot(par:Txt→bD×Int×Int)(o:OpD)(h:iE s):iE (cR par s o):=fun r hr=>by
 rw[vo]at hr;split at hr
 ·rcases mem_modify hr with hr|⟨hi,rfl⟩
  ·exact h r hr
  ·have h2:=h _ (aex hi)
   exact aiJ
 ·exact h r hr
theorem HG(o:OpD)(h:jB k s)(ht:iE s):iE (aE s o).1:=by
 unfold aE;split
 ·omega
 ·split
  ·omega
  ·show iE (cL s o)
   have h1:dI k (if dY s o then bX s o o.reason else s):=by
    split
    ·exact CP o _ h.todI (by have:=h.nr;omega)
    ·exact h.todI
   have t1:iE (if dY s o then bX s o o.reason else s):=by
    split
    ·exact BY o _ ht h.tick
    omega
   refine xy o _ _ ?_ ?_
   ·grind [Ot]
   ·split
    ·exact(qj o h1).tick
    ·exact h1.tick
structure gG (k:Nat) (s:an):Prop extends jB k s where
 ticks:iE s
theorem sW:gG 0 th:={Kf with ticks:=fun r h=>afs}
theorem rj(o:OpD)(h:gG k s):gG (k+1) (aE s o).1:={Gs o h.tojB with ticks:=HG o h.tojB h.ticks}
theorem PM{id:Txt}(h:iX cs id<cs.length):cs[iX cs id].id=id:=by
 have:=List.findIdx_getElem (p:=fun c:aM=>c.id==id) (w:=h)
 exact eq_of_beq this
theorem GD(ha:Asc cs){id:Txt}(h:iX cs id<cs.length):findD cs id=iX cs id:=by
 have hid:=PM h;have hin:bZ cs id=true:=by grind [vZ,List.any_eq_true,aex]
 have hir:Op.bytesLess id id=false:=by simpa[lt]using lt_irrefl id
 have h1:∃hl:findD cs id<cs.length,cs[findD cs id].id=id:=by
  unfold bZ at hin
  grind
 rcases Nat.lt_trichotomy (findD cs id) (iX cs id)with hlt|heq|hgt
 ·exact absurd (List.not_of_lt_findIdx (p:=fun c:aM=>c.id==id) hlt) aeD
 ·exact heq
 ·have:=List.not_of_lt_findIdx (p:=fun c:aM=>geB c.id id) hgt
  exact absurd this (by grind [geB])
theorem MW{ds:List aM}(h:ds.map (·.id)=cs.map (·.id))(id:Txt):iX ds id=iX cs id:=by
 have e:∀l:List aM,iX l id=(l.map (·.id)).findIdx fun x=>x==id:=fun l=>by
  rw[List.findIdx_map];rfl
 rw[e,e,h]
theorem Kr(s:an)(o:OpD)(w:Txt)(id:Txt):iX (iL s o w).cases id=iX s.cases id∧(iL s o w).cases.length=s.cases.length:=by
 unfold iL;split
 ·exact⟨MW (kW (f:=fun c=>jG s c o.subj w) (g:=fun c:aM=>c.id) fun c=>rfl) id,aeJ⟩
 omega
theorem Kq(o:OpD)(done:Bool)(s:an)(x:cB)(id:Txt):iX (fy o done s x).cases id=iX s.cases id∧(fy o done s x).cases.length=s.cases.length:=by
 unfold fy;split
 ·grind [Kr]
 ·split
  ·exact⟨rfl,rfl⟩
  grind
end Go.Bf
namespace Go.Proofs.YtelkmnkejghkeaaGreatDoor
open Go Go.Ab Go.Bf Tryz
theorem MZ{α:Type}(y:AV)(xs:List AV)(ds:List α)(q:α→Bool)(g:FuncId)(cap:List AV)(h:Heap)(hb:Rd h 7 y xs)(hn:xs.length=ds.length)(hl:xs.length≤1000000000)(hx:∀x∈xs,bA x=true)
  (hp:∀i (h1:i<xs.length) (h2:i<ds.length),ai prog g (xs[i]::cap) h fun r h' =>r= .b (q ds[i])∧h' =h):
  ai prog 211 [y,.fn g cap] h fun r h' =>r= .i (ixD q ds)∧h' =h:=by
 refine aeB func211 19 [.tmp 4] fun hwf=>?_
 simp only[go_sem,hb.len];refine .intro (fun m ρ h' =>h' =h∧∃i:Nat,i≤xs.length∧m=xs.length - i∧(∀j (hj:j<i) (h2:j<ds.length),q ds[j]=false)∧lk ρ 0=some y∧lk ρ 1=some (.fn g cap)∧lk ρ 7=some (.i xs.length)∧lk ρ 8=some (.i i)) xs.length ?_ ?_
 ·refine⟨rfl,0,aeC,rfl,fun j hj=>aeC,?_,?_,?_,?_⟩<;>simp only[go_sem]
 ·rintro m ρ h' ⟨rfl,i,hi,rfl,hc,r0,r1,r7,r8⟩
  simp only[go_sem,r7,r8];refine .intro (fun e=>?_) (fun e=>?_)
  ·have hlt:i<xs.length:=aez e
   have hlt2:i<ds.length:=aeC;have w1:IntKind.i64.wrap ((i:Int)+1)=((i+1:Nat):Int):=aeN;simp only[go_sem,r0,r1,r8];refine hb.idx (e:=134) i rfl hlt aeR aeG fun p hp1=>?_
   have hld:=hp1.all (U:=U) (ty:=134) aeG afy agt;simp only[go_sem,hld];refine(show ai prog g (xs[i]::cap) _ _ from hp i hlt hlt2).pthen ?_
   cases d1:q ds[i]
   ·simp only[go_sem,r8,w1]
    refine⟨_,?_,rfl,i+1,aeC,rfl,fun j hj h2=>?_,?_,?_,?_,?_⟩
    ·omega
    ·grind
    all_goals simp only[go_sem,r0,r1,r7]
   ·simp only[go_sem]
    exact .same (.refl _) ⟨afm,rfl⟩
  ·have hge:i=xs.length:=by grind
   simp only[go_sem];exact .same (.refl _) ⟨ae7,rfl⟩
theorem MX{α:Type}(y:AV)(xs:List AV)(ds:List α)(q:α→Bool)(g:FuncId)(cap:List AV)(h:Heap)(hb:Rd h 3 y xs)(hn:xs.length=ds.length)(hl:xs.length≤1000000000)(hx:∀x∈xs,bA x=true)
  (hp:∀i (h1:i<xs.length) (h2:i<ds.length),ai prog g (xs[i]::cap) h fun r h' =>r= .b (q ds[i])∧h' =h):
  ai prog 162 [y,.fn g cap] h fun r h' =>r= .i (ixD q ds)∧h' =h:=by
 refine aeB func162 19 [.tmp 4] fun hwf=>?_
 simp only[go_sem,hb.len];refine .intro (fun m ρ h' =>h' =h∧∃i:Nat,i≤xs.length∧m=xs.length - i∧(∀j (hj:j<i) (h2:j<ds.length),q ds[j]=false)∧lk ρ 0=some y∧lk ρ 1=some (.fn g cap)∧lk ρ 7=some (.i xs.length)∧lk ρ 8=some (.i i)) xs.length ?_ ?_
 ·refine⟨rfl,0,aeC,rfl,fun j hj=>aeC,?_,?_,?_,?_⟩<;>simp only[go_sem]
 ·rintro m ρ h' ⟨rfl,i,hi,rfl,hc,r0,r1,r7,r8⟩
  simp only[go_sem,r7,r8];refine .intro (fun e=>?_) (fun e=>?_)
  ·have hlt:i<xs.length:=aez e
   have hlt2:i<ds.length:=aeC;have w1:IntKind.i64.wrap ((i:Int)+1)=((i+1:Nat):Int):=aeN;simp only[go_sem,r0,r1,r8];refine hb.idx (e:=90) i rfl hlt aeR aeG fun p hp1=>?_
   have hld:=hp1.all (U:=U) (ty:=90) aeG afy agt;simp only[go_sem,hld];refine(show ai prog g (xs[i]::cap) _ _ from hp i hlt hlt2).pthen ?_
   cases d1:q ds[i]
   ·simp only[go_sem,r8,w1]
    refine⟨_,?_,rfl,i+1,aeC,rfl,fun j hj h2=>?_,?_,?_,?_,?_⟩
    ·omega
    ·grind
    all_goals simp only[go_sem,r0,r1,r7]
   ·simp only[go_sem]
    exact .same (.refl _) ⟨afm,rfl⟩
  ·have hge:i=xs.length:=by grind
   simp only[go_sem];exact .same (.refl _) ⟨ae7,rfl⟩
theorem Kk(y:AV)(ds:List qJ)(q:qJ→Bool)(g:FuncId)(cap:List AV)(h:Heap)(hb:Rd h 7 y (ds.map jb))(hl:ds.length≤1000000000)
  (hp:∀i (h2:i<ds.length),ai prog g (jb ds[i]::cap) h fun r h' =>r= .b (q ds[i])∧h' =h):
  ai prog 154 [y,.fn g cap] h fun r h' =>r= .b (ds.any q)∧h' =h:=by
 refine aeB func154 9 [.tmp 4] fun hwf=>?_
 simp only[go_sem];refine(MZ y _ ds q g cap h hb aeJ aeD (pH (fun _=>rfl) _) fun i a b=>by rw[aet];exact hp i b).pthen ?_
 simp only[go_sem,vj];exact aeL
theorem Kj(y:AV)(ds:List cB)(q:cB→Bool)(g:FuncId)(cap:List AV)(h:Heap)(hb:Rd h 3 y (ds.map bl))(hl:ds.length≤1000000000)
  (hp:∀i (h2:i<ds.length),ai prog g (bl ds[i]::cap) h fun r h' =>r= .b (q ds[i])∧h' =h):
  ai prog 106 [y,.fn g cap] h fun r h' =>r= .b (ds.any q)∧h' =h:=by
 refine aeB func106 9 [.tmp 4] fun hwf=>?_
 simp only[go_sem];refine(MX y _ ds q g cap h hb aeJ aeD (pH (fun _=>rfl) _) fun i a b=>by rw[aet];exact hp i b).pthen ?_
 simp only[go_sem,vj];exact aeL
theorem Gu(y:AV)(xs:List AV)(ds:List aM)(q:aM→Bool)(g:FuncId)(cap:List AV)(h:Heap)(hb:Rd h 5 y xs)(hn:xs.length=ds.length)(hl:xs.length≤1000000000)(hx:∀x∈xs,bA x=true)
  (hp:∀i (h1:i<xs.length) (h2:i<ds.length),ai prog g (xs[i]::cap) h fun r h' =>r= .b (q ds[i])∧h' =h):
  ai prog 112 [y,.fn g cap] h fun r h' =>r= .b (ds.any q)∧h' =h:=by
 refine aeB func112 9 [.tmp 4] fun hwf=>?_
 simp only[go_sem];refine(vD y xs ds q g cap h hb hn hl hx hp).pthen ?_;simp only[go_sem,vj];exact aeL
theorem M8{h:Heap}(r:qJ){k1 k2:Nat}{subj:Txt}{s:an}(hk1:h k1=some (.obj [.s subj] 9))(hk2:h k2=some (.obj (sL s) 41))(ht:0≤s.tick∧s.tick≤1099511627776)(hr:0≤r.tick∧r.tick≤1099511627776):
  ai prog 155 [jb r,.ptr k1 0,.ptr k2 0] h fun x h' =>x= .b (r.subj==subj && rE s r)∧h' =h:=by
 have w:IntKind.i64.wrap (s.tick - r.tick)=s.tick - r.tick:=aW _ aeC;obtain⟨tick,cs,rv,nt,ro,⟨pid,pset,palg,ptgt,prules,pkids,pobls⟩,ver⟩:=s;simp only[sL]at hk2;simp only at w;refine aeB func155 21 [.tmp 4] fun hwf=>?_
 simp only[go_sem,jb];intro i3 h3;have n31:i3≠k1:=fun e=>aeD
 have n32:i3≠k2:=fun e=>aeD
 cases d1:(r.subj==subj)
 ·simp only[go_sem,ak,n31.symm,hk1,d1]
  exact .mk _ (.refl _) (.aj h3) ⟨rfl,rfl⟩
 cases d2:r.isOpen
 ·simp only[go_sem,ak,n31.symm,hk1,d1]
  exact .mk _ (.refl _) (.aj h3) ⟨by simp only[rE,d2];rfl,rfl⟩
 ·simp only[go_sem,ak,n31.symm,n32.symm,hk1,hk2,d1,w]
  exact .mk _ (.refl _) (.aj h3) ⟨by simp only[rE,d2];rfl,rfl⟩
theorem PX(s:an)(subj:Txt)(hn:s.reviews.length≤1000000)(ht:0≤s.tick∧s.tick≤1099511627776)(hr:iE s)(h:Heap):ai prog 97 [cG s,.s subj] h fun x h' =>x= .b (Na s subj)∧h' =h:=by
 have hl1:=fun(H:Heap) (k1 k2:Nat) (e1:H k1=some (.obj [.s subj] 9)) (e2:H k2=some (.obj (sL s) 41))=>Kk (kR s.reviews) s.reviews (fun r=>r.subj==subj && rE s r) 155 [.ptr k1 0,.ptr k2 0] H (eE jb 7 (fun _=>rfl) H _) aeC fun i h2=>M8 _ e1 e2 ht (hr _ (aex h2))
 have hst:=vU s;obtain⟨tick,cs,rv,nt,ro,⟨pid,pset,palg,ptgt,prules,pkids,pobls⟩,ver⟩:=s;rw[hst];simp only[sL]at hl1⊢;refine aeB func97 9 [.tmp 4] fun hwf=>?_
 simp only[go_sem];intro i2 h2;simp only[go_sem];intro i3 h3;have n32:=aI h3;have n3:=aB h3;have hs:∀x y,Ab.Sub h (upd (upd h i2 x) i3 y):=fun x y=>((Sub.refl h).put h2 x).put n3 y
 simp only[go_sem,ak,n32.symm];refine(hl1 _ i3 i2 (ah ..) (by grind [ag,ah])).pthen ?_
 simp only[go_sem];exact agf
theorem Jw(s:an)(o:OpD)(m:aT)(hm9:M9 m)(hn:s.reviews.length≤1000000)(hro:s.roles.length≤1000000)(ht:0≤s.tick∧s.tick≤1099511627776)(hr:iE s)(h:Heap):ai prog 44 [cG s,opA o,aN m] h fun x h' =>x= .b (rW s o m)∧h' =h:=by
 have hla:=fun G=>PX s o.subj hn ht hr G
 have hha:=fun G=>Gx (rdS G s) o.subj CA aeC
 have hbd:rW s o m=(o.glass && (m==cF||m==naM) && yZ s.roles ⟨o.subj,CA⟩ && !Na s o.subj):=rfl
 have de:=(nb hm9).de;have na:=(nb hm9).na;have hst:=vU s;obtain⟨tick,cs,rv,nt,ro,⟨pid,pset,palg,ptgt,prules,pkids,pobls⟩,ver⟩:=s;rw[hst]at hla hha⊢;simp only[sL,CA]at hla hha hbd⊢;refine aeB func44 30 [.tmp 6] fun hwf=>?_
 simp only[go_sem,opA,opC,aN];intro i3 h3;simp only[go_sem];intro i4 h4;have n43:=aI h4;have n4:=aB h4;have hs:∀x y,Ab.Sub h (upd (upd h i3 x) i4 y):=fun x y=>((Sub.refl h).put h3 x).put n4 y
 cases dg:o.glass
 ·simp only[go_sem]
  exact .mk _ (.refl _) (hs _ _) ⟨by rw[hbd,dg];rfl,rfl⟩
 cases d1:(m==cF)<;>cases d2:(m==naM)
 case false.false=>
  simp only[go_sem,de,na,d1,d2];exact .mk _ (.refl _) (hs _ _) ⟨by rw[hbd,dg,d1,d2];rfl,rfl⟩
 all_goals
  simp only[go_sem,ak,n43.symm,de,na,d1,d2];refine(hha _).pthen ?_;cases dh:yZ ro ⟨o.subj,[103,108,97,115,115]⟩
  ·simp only[go_sem]
   exact .mk _ (.refl _) (hs _ _) ⟨by rw[hbd,dg,d1,d2,dh];rfl,rfl⟩
  ·simp only[go_sem,ak,n43.symm]
   refine(hla _).pthen ?_;simp only[go_sem];exact .mk _ (.refl _) (hs _ _) ⟨by rw[hbd,dg,d1,d2,dh];rfl,rfl⟩
theorem Km{h:Heap}(x:cB){k:Nat}{field:Txt}(hk:h k=some (.obj [.s field] 9)):ai prog 107 [bl x,.ptr k 0] h fun r h' =>r= .b (x.kind==2 && x.arg==field)∧h' =h:=by
 refine aeB func107 13 [.tmp 3] fun hwf=>?_
 simp only[go_sem,bl];intro i2 h2;have n2:i2≠k:=fun e=>aeD
 cases d1:(x.kind==2)
 all_goals
  simp only[go_sem,ak,n2.symm,hk,d1];exact .mk _ (.refl _) (.aj h2) ⟨rfl,rfl⟩
theorem MQ(l:List cB)(hl:l.length≤1000000000)(field:Txt)(h:Heap):ai prog 48 [ay l,.s field] h fun r h' =>r= .b (j8 l field)∧h' =h:=by
 refine aeB func48 8 [.tmp 4] fun hwf=>?_
 simp only[go_sem,ay];intro i3 h3;simp only[go_sem];refine(Kj (.sl (l.map bl) .no) l (fun x=>x.kind==2 && x.arg==field) _ [.ptr i3 0] _ (eE bl 3 (fun _=>rfl) _ _) hl fun i h2=>Km _ (ah ..)).pthen ?_
 simp only[go_sem];exact .mk _ (.refl _) (.aj h3) ⟨rfl,rfl⟩
theorem NG{h:Heap}{x:AV}{c:aM}(hb:RdC h x c):ai prog 113 [x] h fun r h' =>r= .b (decide (256<c.log.length))∧h' =h:=by
 obtain⟨f,l,rfl,hf,hl⟩:=hb;have e:decide ((256:Int)<(c.log.length:Int))=decide (256<c.log.length):=by
  grind
 refine aeB func113 7 [.tmp 2] fun hwf=>?_
 simp only[go_sem];intro i1 h1;simp only[go_sem,hl.len,aes,e];exact aeU
theorem NI{h:Heap}{x:AV}{s:an}(hb:RdS h x s)(hc:s.cases.length≤1000000):ai prog 52 [x] h fun r h' =>r= .b (sM s)∧h' =h:=by
 obtain⟨y1,y2,y3,y4,rfl,⟨xs,hx,hn,hcs⟩,h2,h3,h4⟩:=hb;have hod:sM s=(decide (256<s.reviews.length)||decide (256<s.notices.length)||s.cases.any fun c=>decide (256<c.log.length)):=rfl
 have e2:decide ((256:Int)<(s.reviews.length:Int))=decide (256<s.reviews.length):=by
  grind
 have e3:decide ((256:Int)<(s.notices.length:Int))=decide (256<s.notices.length):=by
  grind
 have hca:=fun(G:Heap) (hG:Ab.Sub h G)=>Gu y1 xs s.cases (fun c=>decide (256<c.log.length)) 113 [] G (hx.sub hG) hn aeC (Au.agg hn hcs) fun i a b=>NG ((hcs i a b).sub hG)
 cases hpp:s.policy with
 |mk pid pset palg ptgt prules pkids pobls=>
 refine aeB func52 18 [.tmp 2] fun hwf=>?_
 simp only[go_sem,gq,bf,List.cons_append,List.nil_append];intro i1 h1;cases d2:decide (256<s.reviews.length)
 case true=>
  simp only[go_sem,h2.len,aes,e2,d2];exact .mk _ (.refl _) (.aj h1) ⟨by rw[hod,d2];rfl,rfl⟩
 cases d3:decide (256<s.notices.length)
 case true=>
  simp only[go_sem,h2.len,h3.len,aes,e2,e3,d2,d3];exact .mk _ (.refl _) (.aj h1) ⟨by rw[hod,d2,d3];rfl,rfl⟩
 simp only[go_sem,h2.len,h3.len,aes,e2,e3,d2,d3];refine(hca _ (.aj h1)).pthen ?_;simp only[go_sem];exact .mk _ (.refl _) (.aj h1) ⟨by rw[hod,d2,d3];rfl,rfl⟩
theorem Nj{h:Heap}{x:AV}{c:aM}(hb:RdC h x c){k:Nat}{o:OpD}(hk:h k=some (.obj (opC o) 50)):ai prog 164 [x,.ptr k 0] h fun r h' =>r= .b (c.id==o.case)∧h' =h:=by
 obtain⟨f,l,rfl,hf,hl⟩:=hb;simp only[opC]at hk;refine aeB func164 9 [.tmp 3] fun hwf=>?_
 simp only[go_sem];exact ai3
end Go.Proofs.YtelkmnkejghkeaaGreatDoor
namespace Go.Ab
open Go
theorem OwE.more{tb:TypeId}{g h0 h:Heap}{sz:Nat}{y:AV}{xs:List AV}(hw:OwE tb h0 h sz y xs)(hg:∀id,h0 id=Option.none→h id≠Option.none→g id=Option.none):OwE tb g h sz y xs:=by
 rcases hw with hw|⟨id,e,hw⟩
 ·exact aiz
 ·exact .inr ⟨id,hg _ e hw.none,hw⟩
end Go.Ab
namespace Go.Proofs.YtelkmnkejghkeaaGreatDoor
open Go Go.Ab Go.Bf Tryz
variable {g H:Heap}{ys:List AV}{i0 j k:Nat}{s:an}
theorem fF.more{h0 h:Heap}{x:AV}{c:aM}(hm:fF h0 h ys x c)(hg:∀id,h0 id=none→h id≠none→g id=none):fF g h ys x c:=by obtain⟨f,l,e,a,b,c⟩:=hm;exact⟨f,l,e,a.more hg,b.more hg,c⟩
theorem mG.more{h0 h:Heap}{y:AV}{cs:List aM}(ho:mG h0 h ys y cs i0)(hg:∀id,h0 id=none→h id≠none→g id=none):mG g h ys y cs i0:=by obtain⟨xs,a,b,c,d⟩:=ho;exact⟨xs,a.more hg,b,c,fun h1 h2=>(d h1 h2).more hg⟩
theorem OwR.more{h0 h:Heap}{y:AV}{rs:List iD}(hr:OwR h0 h y rs)(hg:∀id,h0 id=none→h id≠none→g id=none):OwR g h y rs:=by
 rcases hr with hr|hr
 ·exact .inl hr
 ·exact .inr (hr.more hg)
theorem iU.more{h0 h:Heap}{y1 y2 y3 y4:AV}(ho:iU h0 h y1 y2 y3 y4 s j)(hg:∀id,h0 id=none→h id≠none→g id=none):iU g h y1 y2 y3 y4 s j:=
 {ho with cs:=ho.cs.more hg,rv:=ho.rv.more hg,nt:=ho.nt.more hg,rl:=ho.rl.more hg}
def GSt(g H:Heap)(k:Nat)(s:an)(j:Nat):Prop:=∃y1 y2 y3 y4,H k=some (.obj (stC s y1 y2 y3 y4) 41)∧iU g H y1 y2 y3 y4 s j∧g k≠none∧∀i b,i≠k→g i=some b→H i=some b
theorem GSt.box(hG:GSt g H k s j){i:Nat}(hi:H i=none)(b:Blk):GSt (upd g i (some b)) (upd H i (some b)) k s j:=by
 obtain⟨y1,y2,y3,y4,hk,ho,hgk,hfr⟩:=hG;refine⟨y1,y2,y3,y4,afe,(ho.more (g:=upd g i (some b)) fun id h0 hne=>?_).keep fun id _ hne=>ag _ _ fun e=>hne aeD,afe,fun q c hq hc=>?_⟩
 ·grind [ag]
 grind [ah,ag]
theorem GSt.unbox{i:Nat}{b:Blk}(hG:GSt (upd g i (some b)) H k s j)(hi:i≠k)(hgi:g i=none):GSt g H k s j∧H i=some b:=by
 obtain⟨y1,y2,y3,y4,hk,ho,hgk,hfr⟩:=hG;refine⟨⟨y1,y2,y3,y4,hk,ho.bL fun q hq=>?_,afe,fun q c hq hc=>hfr q c hq ?_⟩,hfr i b hi (ah ..)⟩
 ·grind [ag]
 grind [ag]
theorem GSt.base(hG:GSt g H k s j):∃G,Ab.Sub G H∧(∀i,G i=none↔g i=none)∧∀i,i≠k→G i=g i:=by
 obtain⟨y1,y2,y3,y4,hk,ho,hgk,hfr⟩:=hG;refine⟨upd g k (H k),fun i b hi=>?_,fun i=>?_,fun i hi=>ag _ _ hi⟩
 ·grind [ah,ag]
 grind [ah,ag]
theorem GSt.rd(hG:GSt g H k s j):∃y1 y2 y3 y4,H k=some (.obj (stC s y1 y2 y3 y4) 41)∧RdS H (.agg (stC s y1 y2 y3 y4)) s:=by obtain⟨y1,y2,y3,y4,hk,ho,_⟩:=hG;exact⟨y1,y2,y3,y4,hk,ho.rd⟩
theorem EL(hG:GSt g H k s j)(o:OpD)(w:Txt)(hk64:i64 o.kind)(hn:s.reviews.length≤1000000000):
  ai prog 46 [.ptr k 0,opA o,.s w] H fun r H' =>GSt g H' k (bX s o w) j:=by
 obtain⟨G,sG,nG,oG⟩:=hG.base;obtain⟨y1,y2,y3,y4,hk,ho,hgk,hfr⟩:=hG;have ho2:iU G H y1 y2 y3 y4 s j:=ho.bL fun i hi=>(nG i).2 hi
 have w1:IntKind.i64.wrap ((s.reviews.length:Int)+1)=(s.reviews.length:Int)+1:=aW _ aeC;obtain⟨pid,pset,palg,ptgt,prules,pkids,pobls,hpp⟩:∃a b c d e f g,s.policy= .mk a b c d e f g:=by cases s.policy;simp
 have hst:∀z,stC (bX s o w) y1 z y3 y4= [.i s.tick,y1,z,y3,y4,.s pid,.b pset,.i palg,aV ptgt,.sl (prules.map aC) .no,.sl (pkids.map aO) .no,ay pobls,.i s.version]:=fun z=>by simp[stC,bX,hpp,gq,bf]
 have hst0:stC s y1 y2 y3 y4= [.i s.tick,y1,y2,y3,y4,.s pid,.b pset,.i palg,aV ptgt,.sl (prules.map aC) .no,.sl (pkids.map aO) .no,ay pobls,.i s.version]:=ain;rw[hst0]at hk;refine aeB func46 34 [] fun hwf=>?_
 simp only[go_sem,opA,opC];intro i4 h4;have n4k:i4≠k:=fun e=>aeD
 simp only[go_sem];obtain⟨K,eK⟩:∃K,upd H i4 (some (.obj [.i o.kind,.s o.subj,.s o.case,.s o.field,.s o.to,.i o.val.kind,.i o.val.n,.s o.val.s,.i o.review,.s o.text,.s o.reason,.b o.glass] 50))=K:=⟨_,rfl⟩;have sK:Ab.Sub H K:=by rw[←eK];exact .aj h4
 have k4:K i4=some (.obj [.i o.kind,.s o.subj,.s o.case,.s o.field,.s o.to,.i o.val.kind,.i o.val.n,.s o.val.s,.i o.review,.s o.text,.s o.reason,.b o.glass] 50):=by rw[←eK,ah]
 have kk:=sK _ _ hk;have hoK:iU G K y1 y2 y3 y4 s j:=ho2.keep fun id _ hne=>by rw[←eK];grind [ag]
 rw[eK];have p4:=(bC (H:=K) (l:=[k,i4]) (show i4∈ [k,i4] by simp)).trans k4
 have pk:=(bC (H:=K) (l:=[k,i4]) (show k∈ [k,i4] by simp)).trans kk
 refine .stage (pick K [k,i4]) [0,1,2,3,4,5,6,7,8,9,10,11,12,13,14,15,16,17,18,19,20,22,21,23,24,25,26,27] [28] bS aeF ?_;simp only[go_sem,pk,p4,hoK.rv.rd.len,aes,w1];refine(vi o.kind hk64 _).pthen ?_;refine⟨bS,?_⟩;simp only[go_sem];have hap1:Rd K 7 (.sl [jb (BR s o w)] .full) [jb (BR s o w)]:=.sl afi .full;refine OwE.app (U:=U) (tb:=134) hoK.rv (sG.trans sK) hap1 aeR aeG aeG aeR aeJ afc fun id y' K2 hid hor how hoth=>?_
 have hor' :K id=none∨nid y2=some id:=by
  rcases hor with hor|⟨l,c,ey⟩
  ·grind
  ·exact .inr ais
 have nik:k≠id:=fun e=>hgk ((nG k).1 aeD)
 have ni4:i4≠id:=by
  rcases hor' with hor|hor
  ·grind
  ·exact fun e=>(ho2.rv.nid hor).2.1 aeD
 have m4:=(hoth i4 ni4).trans k4;have mk:=(hoth k nik).trans kk;refine⟨ja fun q hq=>?_,?_⟩
 ·grind
 simp only[go_sem];refine⟨cS,fun _ _ e=>ae2,?_⟩
 simp only[go_sem,mk,how.rd.fit,how.rd.cells];refine⟨fun _ _ e=>ae2,?_⟩
 refine .same (.refl _) ⟨y1,y',y3,y4,aiF,iU.bL (h0:=G) ?_ fun i hi=>(nG i).1 hi,hgk,fun i b hi hb=>?_⟩
 ·refine hoK.revs (rs:=s.reviews++ [BR s o w]) (.inr ⟨id,hid,by rw[List.map_append];exact how.same (ag _ _ nik.symm)⟩) (fun q hq=>?_) fun q hq hne hz=>?_
  ·have:id=q:=by have:=how.nid;rw[hq]at this;exact(Option.some.inj this).symm
   rw[←this];exact hor'
  grind [ag]
 ·have n2:i≠id:=fun e=>by
   grind
  rw[ag _ _ hi,hoth i n2];exact sK _ _ (hfr i b hi hb)
end Go.Proofs.YtelkmnkejghkeaaGreatDoor
namespace Go.Bf
open Go Go.Ab Go.Proofs.YtelkmnkejghkeaaGreatDoor
theorem Ev{s:an}{o:OpD}{w:Txt}(h:¬(iX s.cases o.case<s.cases.length∧o.kind≠6)):iL s o w=s:=by simp_all [iL,if_neg]
theorem Nk{s:an}{o:OpD}{w:Txt}{j:Nat}(h1:iX s.cases o.case<s.cases.length)(h2:o.kind≠6)(e:iX s.cases o.case=j):iL s o w= {s with cases:=s.cases.modify j fun c=>jG s c o.subj w}:=by simp_all [iL,if_pos]
end Go.Bf
namespace Go.Proofs.YtelkmnkejghkeaaGreatDoor
open Go Go.Ab Go.Bf Tryz
theorem Nl{g H:Heap}{k:Nat}{s:an}{j:Nat}(hG:GSt g H k s j)(o:OpD)(w:Txt)(hc:s.cases.length≤1000000)(hl:∀c∈s.cases,c.log.length≤1000000000)(hj:iX s.cases o.case<s.cases.length→o.kind≠6→j=iX s.cases o.case):
  ai prog 111 [.ptr k 0,opA o,.s w] H fun r H' =>GSt g H' k (iL s o w) j:=by
 obtain⟨G,sG,nG,oG⟩:=hG.base;obtain⟨y1,y2,y3,y4,hk,ho,hgk,hfr⟩:=hG;have ho2:iU G H y1 y2 y3 y4 s j:=ho.bL fun i hi=>(nG i).2 hi
 obtain⟨pid,pset,palg,ptgt,prules,pkids,pobls,hpp⟩:∃a b c d e f g,s.policy= .mk a b c d e f g:=by cases s.policy;exact⟨_,_,_,_,_,_,_,rfl⟩
 have hst0:stC s y1 y2 y3 y4= [.i s.tick,y1,y2,y3,y4,.s pid,.b pset,.i palg,aV ptgt,.sl (prules.map aC) .no,.sl (pkids.map aO) .no,ay pobls,.i s.version]:=ain;rw[hst0]at hk;refine aeB func111 44 [] fun hwf=>?_
 simp only[go_sem,opA,opC];intro i4 h4;have n4k:i4≠k:=fun e=>by rw[e,hk]at h4;cases h4
 obtain⟨K,eK⟩:∃K,upd H i4 (some (.obj [.i o.kind,.s o.subj,.s o.case,.s o.field,.s o.to,.i o.val.kind,.i o.val.n,.s o.val.s,.i o.review,.s o.text,.s o.reason,.b o.glass] 50))=K:=⟨_,rfl⟩;have sK:Ab.Sub H K:=by rw[←eK];exact .aj h4
 have k4:K i4=some (.obj [.i o.kind,.s o.subj,.s o.case,.s o.field,.s o.to,.i o.val.kind,.i o.val.n,.s o.val.s,.i o.review,.s o.text,.s o.reason,.b o.glass] 50):=by rw[←eK,ah]
 have kk:=sK _ _ hk;have hoK:iU G K y1 y2 y3 y4 s j:=ho2.keep fun id _ hne=>by rw[←eK];exact ag _ _ fun e=>hne (by rw[e];exact h4)
 have hfin:GSt g K k s j:=⟨y1,y2,y3,y4,by rw[hst0];exact kk,hoK.bL fun i hi=>(nG i).1 hi,hgk,fun i b hi hb=>sK _ _ (hfr i b hi hb)⟩
 have hix:ai prog 139 [y1,.fn 164 [.ptr i4 0]] K fun r h' =>r= .i (ixD (fun c:aM=>c.id==o.case) s.cases)∧h' =K:=by
  obtain⟨xs,hx,hn,hcs⟩:=hoK.cs.rd;exact vD y1 xs s.cases (fun c=>c.id==o.case) _ [.ptr i4 0] K hx hn aeC (Au.agg hn hcs) fun i a b=>Nj (hcs i a b) k4
 have hcsK:=hoK.cs;have n4G:∀id,G id=none→K id≠none→id≠i4→H id=K id:=fun id _ _ h=>by rw[←eK,ag _ _ h]
 simp only[go_sem,ak,n4k.symm,hk];rw[eK];refine hix.pthen ?_
 by_cases hx:iX s.cases o.case<s.cases.length
 case neg=>
  have e1:ixD (fun c:aM=>c.id==o.case) s.cases= -1:=if_neg hx
  have d1:decide ((-1:Int)<0)=true:=rfl;rw[e1];simp only[go_sem,d1];exact .same (.refl _) (by rw[Ev fun h=>hx h.1];exact hfin)
 have e1:ixD (fun c:aM=>c.id==o.case) s.cases=(iX s.cases o.case:Nat):=if_pos hx
 have d1:decide (((iX s.cases o.case:Nat):Int)<0)=false:=decide_eq_false aeC;rw[e1];cases d6:(o.kind==6)
 case true=>
  have h6:o.kind=6:=by simpa using d6
  simp only[go_sem,d1,k4,d6];exact .same (.refl _) (by rw[Ev fun h=>h.2 h6];exact hfin)
 have h6:o.kind≠6:=by simpa using d6
 have hjj:=hj hx h6;have hlo:=Nk (w:=w) hx h6 hjj.symm;have hjc:j<s.cases.length:=by rw[hjj];exact hx
 rw[←hjj]at d1⊢;rw[hlo];obtain⟨xs,w1,hnx,hlw,hmy⟩:=hcsK;have hjx:j<xs.length:=aeC;obtain⟨f,l,ex,of,ol,hap,hys⟩:=hmy hjx hjc;obtain⟨id1,hg1,o1⟩:=w1.ow ahu;have o1' :=o1;obtain⟨cap,rest,ey,hid,hrl,hcap,hsz⟩:=o1';have lA:j*5=(au (xs.take j)).length:=afJ;have hidK:K id1=some (.obj (au (xs.take j)++(cg s.cases[j] f l++(au (xs.drop (j+1))++rest))) 120):=by
  rw[hid,Cv hjx,ex];simp[cg,AV.cells]
 have n1k:id1≠k:=mE o1 kk aeG;have n14:id1≠i4:=mE o1 k4 aeG;have hll:=hl _ (aex hjc);have p4:=(bC (H:=K) (l:=[k,i4,id1]) (show i4∈ [k,i4,id1] by simp)).trans k4
 have pk:=(bC (H:=K) (l:=[k,i4,id1]) (show k∈ [k,i4,id1] by simp)).trans kk
 have p1:=(bC (H:=K) (l:=[k,i4,id1]) (show id1∈ [k,i4,id1] by simp)).trans hidK
 have hc4:(au (xs.take j)++(cg s.cases[j] f l++(au (xs.drop (j+1))++rest)))[j*5+4]? =some l:=by rw[lA,List.getElem?_append_right aeC,Nat.add_sub_cancel_left];rfl
 obtain⟨CS,eCS⟩:∃CS,au (xs.take j)++(cg s.cases[j] f l++(au (xs.drop (j+1))++rest))=CS:=⟨_,rfl⟩;rw[eCS]at hc4 p1 hidK;simp only[go_sem,d1,k4,d6,kk];refine o1.idx (U:=U) (e:=120) j rfl hjx ot aeG ?_;simp only[go_sem];refine .stage (pick K [k,i4,id1]) [0,1,2,3,4,5,6,7,8,9,10,11,12,13,14,15,16] [17] bS aeF ?_;simp only[go_sem,pk,p4,p1,hc4];have hap1:Rd K 3 (.sl [iW ⟨s.tick,o.subj,w⟩] .full) [iW ⟨s.tick,o.subj,w⟩]:=.sl afi .full;refine OwE.app (U:=U) (tb:=186) ol (sG.trans sK) hap1 aeM aeG aeH aeM aeJ afc fun id2 y' K2 g2 hor how hoth=>?_
 have hor' :K id2=none∨nid l=some id2:=by
  exact ajm
 have n2:∀ {q b t},K q=some (.obj b t)→t≠186→q≠id2:=fun {q b t} hq ht e=>by
  rcases hor' with h|h
  ·rw[e,h]at hq;cases hq
  ·exact mE (ol.nid h).2.2 hq ht e.symm
 have m4:=(hoth i4 (n2 k4 aeG)).trans k4;have mk:=(hoth k (n2 kk aeG)).trans kk;have m1:=(hoth id1 (n2 hidK aeG)).trans hidK;refine⟨ja fun q hq=>?_,?_⟩
 ·simp only[List.mem_cons,List.not_mem_nil,or_false]at hq
  rcases hq with rfl|rfl|rfl
  ·rw[mk,kk]
  ·rw[m4,k4]
  ·rw[m1,hidK]
 simp only[go_sem];refine⟨cS,fun _ _ e=>ae2,?_⟩
 simp only[go_sem,m1,how.rd.fit,how.rd.cells];have e5:List.take (j*5+4) CS++ [y']++List.drop (j*5+4+1) CS=au (xs.take j)++(cg s.cases[j] f y' ++(au (xs.drop (j+1))++rest)):=by
  have:=pS (A:=au (xs.take j)++ [.s s.cases[j].id,.s s.cases[j].owner,.s s.cases[j].state,f]) (B:=[l]) (C:=au (xs.drop (j+1))++rest) (X:=[y']) (k:=j*5+4) (m:=1) (by rw[lA];simp) rfl rfl
  exact akk
 rw[e5];refine⟨by rw[←eCS];simp only[aew,←lA,cg,List.length_cons,List.length_nil];omega,(fun _ _ e=>ae2),?_⟩
 obtain⟨F,eF⟩:∃F,upd K2 id1 (some (.obj (au (xs.take j)++(cg s.cases[j] f y' ++(au (xs.drop (j+1))++rest))) 120))=F:=⟨_,rfl⟩;have kF:∀q,q≠id1→q≠id2→F q=K q:=fun q a b=>by rw[←eF,ag _ _ a,hoth q b]
 have kF' :∀q,K q≠none→q≠id1→nid l≠some q→F q=K q:=fun q a b c=>kF q b fun e=>by
  rcases hor' with h|h
  ·exact a (by rw[e];exact h)
  ·exact c (by rw[e];exact h)
 have hF1:F id1=some (.obj (au (xs.take j)++(cg s.cases[j] f y' ++(au (xs.drop (j+1))++rest))) 120):=by rw[←eF,ah]
 have n12:id1≠id2:=n2 hidK aeG;have hX5:Sized 5 (xs.set j (.agg (cg s.cases[j] f y'))):=fun z hz=>by
  exact ajt
 have hOw:Ow 120 F 5 id1 y1 (xs.set j (.agg (cg s.cases[j] f y'))):=⟨cap,rest,agT,by rw[hF1,ue hjx];simp[AV.cells],ahK,agM,hX5⟩
 have hl' :OwE 186 G F 3 y' ((s.cases[j].log++ [(⟨s.tick,o.subj,w⟩:yj)]).map iW):=by
  rw[List.map_append];exact .inr ⟨id2,g2,how.same (by rw[←eF,ag _ _ n12.symm])⟩
 have hny:∀q,nid y' =some q→q=id2:=fun q hq=>by have:=how.nid;rw[hq]at this;exact Option.some.inj this
 have nf1:nid f≠some id1:=fun e=>(hys y1 aeJ).1 id1 e o1.nid
 have hof:OwE 196 G F 4 f (s.cases[j].fields.map bN):=of.keep fun q e=>kF' q (of.nid e).2.1 (fun e' =>nf1 (by rw[←e'];exact e)) (hap q e)
 have hnid:∀ {y:AV},y∈ [y1,y2,y3,y4]→∀q,nid y=some q→K q≠none:=fun hy q e=>(hoK.mem hy e).2
 have hap2:∀ {y:AV},y∈ [y1,y2,y3,y4]→apart y' y:=fun {y} hy q e1 e2=>by
  have:=hny q e1;subst this;rcases hor' with h|h
  ·exact hnid hy _ e2 h
  ·exact(hys y hy).2 _ h e2
 have hkp:∀ {y:AV},y∈ [y2,y3,y4]→apart y1 y→∀q,nid y=some q→F q=K q:=fun {y} hy ha q e=>by
  have hy' :y∈ [y1,y2,y3,y4]:=List.mem_cons_of_mem _ hy;refine kF' q (hnid hy' q e) (fun e' =>ha id1 o1.nid (by rw[←e'];exact e)) fun e' =>(hys y hy').2 q e' e
 rw[eF];refine .same (.refl _) ⟨y1,y2,y3,y4,?_,iU.bL (h0:=G) ?_ fun i hi=>(nG i).1 hi,hgk,fun i b hi hb=>?_⟩
 ·rw[kF k n1k.symm (n2 kk aeG),kk]
  simp[stC,hpp,gq,bf]
 ·refine⟨CQ (X:=.agg (cg s.cases[j] f y')) (.inr ⟨id1,hg1,hOw⟩) hnx (fun q h1 h2 hq=>hlw q h1 h2 hq) fun hh=>⟨f,y',rfl,hof,hl',fun q e1 e2=>?_,fun y hy=>⟨(hys y hy).1,hap2 hy⟩⟩,hoK.rv.keep (hkp aeJ hoK.a12),hoK.nt.keep (hkp aeJ hoK.a13),hoK.rl.keep (hkp aeJ hoK.a14),hoK.a12,hoK.a13,hoK.a14,hoK.a23,hoK.a24,hoK.a34⟩
  have:=hny q e2;subst this;rcases hor' with h|h
  ·exact(of.nid e1).2.1 h
  ·exact hap _ e1 h
 ·have hGi:G i=some b:=by rw[oG i hi];exact hb
  rw[kF i (fun e=>by rw[e,hg1]at hGi;cases hGi) (fun e=>by rw[e,g2]at hGi;cases hGi)]
  exact sK _ _ (hfr i b hi hb)
end Go.Proofs.YtelkmnkejghkeaaGreatDoor
namespace Go.Bf
open Go Go.Ab Go.Proofs.YtelkmnkejghkeaaGreatDoor
variable {B:Nat}{s:an}{o:OpD}{done:Bool}
def sF(B:Nat)(s:an):Prop:=(∀c∈s.cases,c.log.length≤B)∧s.reviews.length≤B∧s.notices.length≤B
theorem sF.up{C:Nat}(h:sF B s)(hc:B≤C):sF C s:=⟨fun c hcc=>Nat.le_trans (h.1 c hcc) hc,Nat.le_trans h.2.1 hc,Nat.le_trans h.2.2 hc⟩
theorem Kb(o:OpD)(done:Bool)(x:cB)(h:sF B s):sF (B+1) (fy o done s x):=by
 unfold fy;split
 ·unfold iL
  split
  ·refine⟨fun c hc=>?_,Nat.le_succ_of_le h.2.1,Nat.le_succ_of_le h.2.2⟩
   rcases mem_modify hc with hc|⟨hi,rfl⟩
   ·exact Nat.le_succ_of_le (h.1 c hc)
   ·have:=h.1 _ (aex hi)
    simp only[jG,aew,List.length_singleton];omega
  ·exact h.up aeC
 ·split
  ·refine⟨fun c hc=>Nat.le_succ_of_le (h.1 c hc),?_,Nat.le_succ_of_le h.2.2⟩
   have:=h.2.1;simp only[bX,aew,List.length_singleton];omega
  ·split
   ·refine⟨fun c hc=>Nat.le_succ_of_le (h.1 c hc),Nat.le_succ_of_le h.2.1,?_⟩
    have:=h.2.2;simp only[aew,List.length_singleton];omega
   ·exact h.up aeC
theorem wQ(o:OpD)(done:Bool):∀(l:List cB) {B:Nat} {s:an},sF B s→sF (B+l.length) (dj s o l done)
 | [],B,s,h=>h
 |x::l,B,s,h=>(wQ o done l (Kb o done x h)).up aeD
theorem DF(s:an)(o:OpD)(done:Bool){l:List cB}{i:Nat}(h:i<l.length):dj s o (l.take (i+1)) done=fy o done (dj s o (l.take i) done) l[i]:=by grind [dj,List.take_succ_eq_append_getElem]
theorem wX(o:OpD)(done:Bool)(id:Txt):∀(l:List cB) (s:an),iX (dj s o l done).cases id=iX s.cases id∧(dj s o l done).cases.length=s.cases.length
 | [],s=>⟨rfl,rfl⟩
 |x::l,s=>by
  obtain⟨a1,a2⟩:=Kq o done s x id;obtain⟨b1,b2⟩:=wX o done id l (fy o done s x);exact⟨b1.trans a1,b2.trans a2⟩
theorem JL{x:cB}(h:x.kind=1):fy o true s x=iL s o x.arg:=by unfold fy;grind
theorem F6{x:cB}(h:x.kind=3):fy o done s x=bX s o x.arg:=by simp_all [fy,if_neg,if_pos]
theorem F7{x:cB}(h:x.kind=4):fy o done s x= {s with notices:=s.notices++ [⟨s.tick,o.case,x.arg⟩]}:=by simp_all [fy,if_neg,if_pos]
theorem DG{x:cB}(h1:¬(x.kind=1∧done=true))(h3:x.kind≠3)(h4:x.kind≠4):fy o done s x=s:=by simp_all [fy,if_neg]
end Go.Bf
namespace Go.Proofs.YtelkmnkejghkeaaGreatDoor
open Go Go.Ab Go.Bf Tryz
theorem F5{g H:Heap}{k:Nat}{s:an}{j:Nat}(hG:GSt g H k s j)(o:OpD)(hk64:i64 o.kind)(l:List cB)(hll:l.length≤100000000)(done:Bool)(hc:s.cases.length≤1000000)(hgr:sF 1000 s)(hj:done=true→iX s.cases o.case<s.cases.length→o.kind≠6→j=iX s.cases o.case):
  ai prog 51 [.ptr k 0,opA o,ay l,.b done] H fun r H' =>GSt g H' k (dj s o l done) j:=by
 have hkn:H k≠none:=by obtain⟨y1,y2,y3,y4,hk,_⟩:=hG;rw[hk];simp
 refine aeB func51 60 [] fun hwf=>?_
 simp only[go_sem,opA,opC,ay];intro i5 h5;have n5k:i5≠k:=fun e=>hkn (by rw[←e];exact h5)
 have hg5:g i5=none:=by
  obtain⟨y1,y2,y3,y4,hk,ho,hgk,hfr⟩:=hG;cases hh:g i5 with
  |none=>rfl
  |some b=>have:=hfr i5 b n5k hh;rw[h5]at this;cases this
 have hG5:=hG.box h5 (.obj [.i o.kind,.s o.subj,.s o.case,.s o.field,.s o.to,.i o.val.kind,.i o.val.n,.s o.val.s,.i o.review,.s o.text,.s o.reason,.b o.glass] 50);obtain⟨g5,eg5⟩:∃g5,upd g i5 (some (.obj [.i o.kind,.s o.subj,.s o.case,.s o.field,.s o.to,.i o.val.kind,.i o.val.n,.s o.val.s,.i o.review,.s o.text,.s o.reason,.b o.glass] 50))=g5:=⟨_,rfl⟩;have g55:g5 i5=some (.obj [.i o.kind,.s o.subj,.s o.case,.s o.field,.s o.to,.i o.val.kind,.i o.val.n,.s o.val.s,.i o.review,.s o.text,.s o.reason,.b o.glass] 50):=by rw[←eg5,ah]
 rw[eg5]at hG5;have hback:∀ {H' :Heap} {s' :an},GSt g5 H' k s' j→GSt g H' k s' j:=fun {H' s'} h=>by
  rw[←eg5]at h;exact(h.unbox n5k hg5).1
 have hgk5:g5 k≠none:=by obtain⟨_,_,_,_,_,_,h,_⟩:=hG5;exact h
 simp only[go_sem,aes];refine .intro (fun m ρ H2=>∃i:Nat,GSt g5 H2 k (dj s o (l.take i) done) j∧i≤l.length∧m=l.length - i∧lk ρ 0=some (.ptr k 0)∧lk ρ 3=some (.b done)∧lk ρ 5=some (.ptr i5 0)∧lk ρ 10=some (.sl (l.map bl) .no)∧lk ρ 11=some (.i l.length)∧lk ρ 12=some (.i i)) l.length ?_ ?_
 ·refine⟨0,hG5,aeC,rfl,?_,?_,?_,?_,?_,?_⟩<;>simp only[go_sem]
 ·rintro m ρ H2 ⟨i,hS,hi,rfl,r0,r3,r5,r10,r11,r12⟩
  simp only[go_sem,r11,r12];refine .intro (fun e=>?_) (fun e=>?_)
  ·have hlt:i<l.length:=aez e
   have w1:=aey i aeC;have hsn:=DF s o done hlt;have hgi:=wQ o done (l.take i) hgr;have hgi:sF 1000000000 (dj s o (l.take i) done):=hgi.up agb;obtain⟨hix,hcl⟩:=wX o done o.case (l.take i) s;have ix:=fun k=>dR.eq (xs:=l.map bl) (sz:=3) i aeX aeQ k
   rw[aet]at ix;obtain⟨x,ex⟩:∃x,l[i]=x:=⟨_,rfl⟩;rw[ex]at ix hsn;obtain⟨t,et⟩:∃t,dj s o (l.take i) done=t:=⟨_,rfl⟩;rw[et]at hS hsn hgi hix hcl;have hjt:done=true→iX t.cases o.case<t.cases.length→o.kind≠6→j=iX t.cases o.case:=fun a b c=>by rw[hix]at b⊢;rw[hcl]at b;exact hj a b c
   simp only[bl]at ix;simp only[go_sem,r10,r12,ix];intro i9 h9;have kkn:H2 k≠none:=by obtain⟨y1,y2,y3,y4,hk,_⟩:=hS;rw[hk];simp
   have n9k:i9≠k:=fun e=>kkn (by rw[←e];exact h9)
   have hg9:g5 i9=none:=by
    obtain⟨y1,y2,y3,y4,hk,ho,hgk,hfr⟩:=hS;cases hh:g5 i9 with
    |none=>rfl
    |some b=>have:=hfr i9 b n9k hh;rw[h9]at this;cases this
   have n95:i9≠i5:=fun e=>by rw[e,g55]at hg9;cases hg9
   have k5:H2 i5=some (.obj [.i o.kind,.s o.subj,.s o.case,.s o.field,.s o.to,.i o.val.kind,.i o.val.n,.s o.val.s,.i o.review,.s o.text,.s o.reason,.b o.glass] 50):=by obtain⟨_,_,_,_,_,_,_,hfr⟩:=hS;exact hfr i5 _ n5k g55
   have hS9:=hS.box h9 (.obj [.i x.on,.i x.kind,.s x.arg] 90);have hb9:∀ {H' :Heap} {s' :an},GSt (upd g5 i9 (some (.obj [.i x.on,.i x.kind,.s x.arg] 90))) H' k s' j→GSt g5 H' k s' j:=fun {H' s'} h=>(h.unbox n9k hg9).1
   have hlog:=fun(hd:done=true)=>Nl hS9 o x.arg (by rw[hcl];exact hc) hgi.1 (hjt hd)
   have hopen:=EL hS9 o x.arg hk64 hgi.2.1;simp only[opA,opC]at hlog hopen;cases a1:(x.kind==1)
   case true=>
    have e1:x.kind=1:=by simpa using a1
    have a3:(x.kind==3)=false:=by rw[e1];rfl
    have a4:(x.kind==4)=false:=by rw[e1];rfl
    cases done
    ·simp only[go_sem,r3,r12,a1,a3,a4,w1]
     refine⟨_,?_,i+1,by rw[hsn,DG (fun h=>by cases h.2) (by rw[e1];decide) (by rw[e1];decide)];exact hb9 hS9,aeC,rfl,?_,?_,?_,?_,?_,?_⟩
     ·omega
     all_goals simp only[go_sem,r0,r3,r5,r10,r11]
    ·simp only[go_sem,r0,r3,r5,a1,ak,n95.symm,k5]
     refine(hlog rfl).mono fun r H3 h3=>?_
     simp only[go_sem,r12,w1];refine⟨_,?_,i+1,by rw[hsn,JL e1];exact hb9 h3,aeC,rfl,?_,?_,?_,?_,?_,?_⟩
     ·omega
     all_goals simp only[go_sem,r0,r3,r5,r10,r11]
   have e1:¬(x.kind=1∧done=true):=fun h=>by rw[h.1]at a1;cases a1
   cases a3:(x.kind==3)
   case true=>
    have e3:x.kind=3:=by simpa using a3
    simp only[go_sem,r0,r5,a1,a3,ak,n95.symm,k5];refine hopen.mono fun r H3 h3=>?_
    simp only[go_sem,r12,w1];refine⟨_,?_,i+1,by rw[hsn,F6 e3];exact hb9 h3,aeC,rfl,?_,?_,?_,?_,?_,?_⟩
    ·omega
    all_goals simp only[go_sem,r0,r3,r5,r10,r11]
   have e3:x.kind≠3:=by simpa using a3
   cases a4:(x.kind==4)
   case false=>
    have e4:x.kind≠4:=by simpa using a4
    simp only[go_sem,r12,a1,a3,a4,w1];refine⟨_,?_,i+1,by rw[hsn,DG e1 e3 e4];exact hb9 hS9,aeC,rfl,?_,?_,?_,?_,?_,?_⟩
    ·omega
    all_goals simp only[go_sem,r0,r3,r5,r10,r11]
   have e4:x.kind=4:=by simpa using a4
   rw[F7 e4]at hsn;obtain⟨G,sG,nG,oG⟩:=hS9.base;obtain⟨y1,y2,y3,y4,kk,ho,hgk,hfr⟩:=hS9;obtain⟨K,eK⟩:∃K,upd H2 i9 (some (.obj [.i x.on,.i x.kind,.s x.arg] 90))=K:=⟨_,rfl⟩;have k9:K i9=some (.obj [.i x.on,.i x.kind,.s x.arg] 90):=by rw[←eK,ah]
   have k5' :K i5=some (.obj [.i o.kind,.s o.subj,.s o.case,.s o.field,.s o.to,.i o.val.kind,.i o.val.n,.s o.val.s,.i o.review,.s o.text,.s o.reason,.b o.glass] 50):=by rw[←eK,ag _ _ n95.symm];exact k5
   rw[eK]at sG kk ho hfr;have hoK:iU G K y1 y2 y3 y4 t j:=ho.bL fun i hi=>(nG i).2 hi
   obtain⟨pid,pset,palg,ptgt,prules,pkids,pobls,hpp⟩:∃a b c d e f g,t.policy= .mk a b c d e f g:=by cases t.policy;exact⟨_,_,_,_,_,_,_,rfl⟩
   have hst:∀z (n:List Jo),stC {t with notices:=n} y1 y2 z y4= [.i t.tick,y1,y2,z,y4,.s pid,.b pset,.i palg,aV ptgt,.sl (prules.map aC) .no,.sl (pkids.map aO) .no,ay pobls,.i t.version]:=fun z n=>ain
   have hst0:stC t y1 y2 y3 y4= [.i t.tick,y1,y2,y3,y4,.s pid,.b pset,.i palg,aV ptgt,.sl (prules.map aC) .no,.sl (pkids.map aO) .no,ay pobls,.i t.version]:=ain;rw[hst0]at kk;have p9:=(bC (H:=K) (l:=[k,i5,i9]) (show i9∈ [k,i5,i9] by simp)).trans k9
   have p5:=(bC (H:=K) (l:=[k,i5,i9]) (show i5∈ [k,i5,i9] by simp)).trans k5'
   have pk:=(bC (H:=K) (l:=[k,i5,i9]) (show k∈ [k,i5,i9] by simp)).trans kk
   simp only[go_sem,a1,a3,a4];rw[eK];refine .stage (pick K [k,i5,i9]) [0,1,2,3,4,5,6,7,8,9,10,11,12,13,14,15,16,17] [18] bS aeF ?_;simp only[go_sem,r0,r5,pk,p5,p9];have hap1:Rd K 3 (.sl [nO ⟨t.tick,o.case,x.arg⟩] .full) [nO ⟨t.tick,o.case,x.arg⟩]:=.sl afi .full;have hnl:=hgi.2.2;refine OwE.app (U:=U) (tb:=137) hoK.nt sG hap1 aeM aeG aeH aeM aeJ afc fun id y' K2 hid hor how hoth=>?_
   have hor' :K id=none∨nid y3=some id:=by
    exact ajm
   have n2:∀ {q b t},K q=some (.obj b t)→t≠137→q≠id:=fun {q b t} hq ht e=>by
    rcases hor' with h|h
    ·rw[e,h]at hq;cases hq
    ·exact mE (hoK.nt.nid h).2.2 hq ht e.symm
   have m9:=(hoth i9 (n2 k9 aeG)).trans k9;have m5:=(hoth i5 (n2 k5' aeG)).trans k5';have nik:=n2 kk aeG;have mk:=(hoth k nik).trans kk;refine⟨ja fun q hq=>?_,?_⟩
   ·simp only[List.mem_cons,List.not_mem_nil,or_false]at hq
    rcases hq with rfl|rfl|rfl
    ·rw[mk,kk]
    ·rw[m5,k5']
    ·rw[m9,k9]
   simp only[go_sem];refine⟨cS,fun _ _ e=>ae2,?_⟩
   simp only[go_sem,r12,mk,how.rd.fit,how.rd.cells];refine⟨fun _ _ e=>ae2,?_⟩
   simp only[go_sem,w1];obtain⟨F,eF⟩:∃F,upd K2 k (some (.obj [.i t.tick,y1,y2,y',y4,.s pid,.b pset,.i palg,aV ptgt,.sl (prules.map aC) .no,.sl (pkids.map aO) .no,ay pobls,.i t.version] 41))=F:=⟨_,rfl⟩;have Fk:F k=(some (.obj [.i t.tick,y1,y2,y',y4,.s pid,.b pset,.i palg,aV ptgt,.sl (prules.map aC) .no,.sl (pkids.map aO) .no,ay pobls,.i t.version] 41)):=by rw[←eF,ah]
   have Fo:∀q,q≠k→F q=K2 q:=fun q hq=>by rw[←eF,ag _ _ hq]
   have hoz:OwE 137 G F 3 y' ((t.notices++ [(⟨t.tick,o.case,x.arg⟩:Jo)]).map nO):=by
    rw[List.map_append];exact .inr ⟨id,hid,how.same (Fo id nik.symm)⟩
   have hop:iU G F y1 y2 y' y4 {t with notices:=t.notices++ [⟨t.tick,o.case,x.arg⟩]} j:=by
    refine iU.nots (h:=K) (h' :=F) hoK hoz (fun q hq=>?_) fun q hq hne hz=>?_
    ·have:id=q:=by have:=how.nid;rw[hq]at this;exact(Option.some.inj this).symm
     rw[←this];exact hor'
    ·have n1:q≠k:=fun e=>hgk ((nG k).1 (by rw[←e];exact hq))
     have n2:q≠id:=fun e=>by
      rcases hor' with h|h
      ·exact hne (by rw[e];exact h)
      ·exact hz (by rw[e];exact h)
     rw[Fo q n1,hoth q n2]
   have hgs:GSt (upd g5 i9 (some (.obj [.i x.on,.i x.kind,.s x.arg] 90))) F k {t with notices:=t.notices++ [⟨t.tick,o.case,x.arg⟩]} j:=by
    refine⟨y1,y2,y',y4,by rw[Fk,hst],iU.bL hop fun i hi=>(nG i).1 hi,hgk,fun i b hi hb=>?_⟩
    have n2:i≠id:=fun e=>by
     have:=(nG id).1 hid;rw[←e,hb]at this;cases this
    rw[Fo i hi,hoth i n2];exact hfr i b hi hb
   rw[←eF]at hgs;refine⟨_,?_,i+1,by rw[hsn];exact hb9 hgs,aeC,rfl,?_,?_,?_,?_,?_,?_⟩
   ·omega
   all_goals simp only[go_sem,r0,r3,r5,r10,r11]
  ·have hge:i=l.length:=by have:=aev e;omega
   subst hge;rw[List.take_length]at hS;simp only[go_sem];exact .same (.refl _) (hback hS)
theorem PG(s:an)(hf:Few s)(h:Heap):ai prog 45 [cG s] h fun r h' =>∃y1 y2 y3,r= .agg (stC s y1 y2 y3 (eJ s.roles))∧iU h h' y1 y2 y3 (eJ s.roles) s s.cases.length∧Ab.Sub h h' :=by
 have hst:=vU s;have hsc:∀y1 y2 y3,stC s y1 y2 y3 (eJ s.roles)=stC s y1 y2 y3 (eJ s.roles):=fun _ _ _=>rfl
 have hfc:=hf.cases;have hfg:=hf.log;have hfr:=hf.reviews;have hfn:=hf.notices;obtain⟨tick,cs,rv,nt,ro,⟨pid,pset,palg,ptgt,prules,pkids,pobls⟩,ver⟩:=s;simp only at hfc hfg hfr hfn;rw[hst];simp only[sL,gw,kR,lU,eJ,bf];refine aeB func45 35 [.cell 2 41] fun hwf=>?_
 simp only[go_sem];intro i1 h1;simp only[go_sem];intro i2 h2;have n21:=aI h2;have n2:=aB h2;simp only[go_sem];obtain⟨H,eH⟩:∃H,upd (upd h i1 (some (.obj [.i tick,.sl (cs.map cu) .no,.sl (rv.map jb) .no,.sl (nt.map nO) .no,.sl (ro.map eW) .no,.s pid,.b pset,.i palg,aV ptgt,.sl (prules.map aC) .no,.sl (pkids.map aO) .no,ay pobls,.i ver] 41))) i2 (some (.obj [.i 0,.sl [] .full,.sl [] .full,.sl [] .full,.sl [] .full,.s [],.b false,.i 0,.sl [] .full,.sl [] .full,.sl [] .full,.sl [] .full,.i 0] 41))=H:=⟨_,rfl⟩;have hH:Ab.Sub h H:=afC;have g1:H i1=some (.obj [.i tick,.sl (cs.map cu) .no,.sl (rv.map jb) .no,.sl (nt.map nO) .no,.sl (ro.map eW) .no,.s pid,.b pset,.i palg,aV ptgt,.sl (prules.map aC) .no,.sl (pkids.map aO) .no,ay pobls,.i ver] 41):=age;have g2:H i2=some (.obj [.i 0,.sl [] .full,.sl [] .full,.sl [] .full,.sl [] .full,.s [],.b false,.i 0,.sl [] .full,.sl [] .full,.sl [] .full,.sl [] .full,.i 0] 41):=af5;rw[eH];clear eH;refine .stage (hm1 i1 (.obj [.i tick,.sl (cs.map cu) .no,.sl (rv.map jb) .no,.sl (nt.map nO) .no,.sl (ro.map eW) .no,.s pid,.b pset,.i palg,aV ptgt,.sl (prules.map aC) .no,.sl (pkids.map aO) .no,ay pobls,.i ver] 41)) [0,1,3,4,6,7,2,9,5,8] [10,11,12,13,14] (.hm1 g1) aeF ?_;simp only[go_sem,gy];refine(wF _ (rv.map jb) H (eE jb 7 (fun _=>rfl) _ _) aeD).mono fun z2 H1 ⟨o2,s1⟩=>?_
 refine⟨.hm1 (s1 _ _ g1),?_⟩;simp only[go_sem];refine(wE _ (nt.map nO) H1 (eE nO 3 (fun _=>rfl) _ _) aeD).mono fun z3 H2 ⟨o3,s2⟩=>?_
 refine⟨.hm1 (s2 _ _ (s1 _ _ g1)),?_⟩;simp only[go_sem];refine(A5 _ (cs.map cu) H2 (eE cu 5 (fun _=>rfl) _ _) aeD).mono fun z1 H3 ⟨o1,s3⟩=>?_
 have s03:Ab.Sub H H3:=s1.trans (s2.trans s3);have q1' :=s03 _ _ g1;have q2' :=s03 _ _ g2;refine⟨.hm1 q1',cS,(fun _ _ e=>ae2),?_⟩
 simp only[go_sem,q1',o1.rd.fit,o1.rd.cells,o2.rd.fit,o2.rd.cells,o3.rd.fit,o3.rd.cells];refine⟨fun _ _ e=>ae2,fun _ _ e=>ae2,fun _ _ e=>ae2,?_⟩
 obtain⟨M,eM⟩:∃M,upd H3 i1 (some (.obj [.i tick,z1,z2,z3,.sl (ro.map eW) .no,.s pid,.b pset,.i palg,aV ptgt,.sl (prules.map aC) .no,.sl (pkids.map aO) .no,ay pobls,.i ver] 41))=M:=⟨_,rfl⟩;have oM:∀q,q≠i1→M q=H3 q:=fun q hq=>by rw[←eM,ag _ _ hq]
 have m1:M i1=some (.obj [.i tick,z1,z2,z3,.sl (ro.map eW) .no,.s pid,.b pset,.i palg,aV ptgt,.sl (prules.map aC) .no,.sl (pkids.map aO) .no,ay pobls,.i ver] 41):=by rw[←eM,ah]
 have m2:=(oM i2 n21).trans q2';have hM:Ab.Sub h M:=by rw[←eM];exact(hH.trans s03).put h1 _
 have new:∀ {tb:TypeId} {z:AV} {xs:List AV} {n:Nat} {g:Heap},OwE tb g H3 n z xs→Ab.Sub H g→OwE tb h M n z xs:=fun w hg=>(w.less (hH.trans hg)).keep fun id e=>oM id (cJ (w.nid e).1 (hg _ _ g1))
 have w1:=new o1 (s1.trans s2);have w2:=new (o2.sub (s2.trans s3)) (.refl _);have w3:=new (o3.sub s3) s1;have a12:apart z1 z2:=(eD o1 (o2.there s2.some)).symm;have a13:apart z1 z3:=(eD o1 (o3.there fun k hk=>hk)).symm
 have a23:apart z2 z3:=eD o3 (o2.there fun k hk=>hk)
 simp only[go_sem,o1.rd.len,aes];rw[eM];have h12:i1≠i2:=n21.symm;refine .intro (fun m ρ G=>∃i:Nat,Ab.Sub M G∧i≤cs.length∧m=cs.length - i∧lk ρ 1=some (.ptr i1 0)∧lk ρ 2=some (.ptr i2 0)∧lk ρ 18=some z1∧lk ρ 19=some (.i cs.length)∧lk ρ 20=some (.i i)) cs.length ?_ ?_
 ·refine⟨0,.refl _,aeC,rfl,?_,?_,?_,?_,?_⟩<;>simp only[go_sem]
 ·rintro m ρ G ⟨i,hs,hi,rfl,r1,r2,r18,r19,r20⟩
  have v1:=w1.sub hs;simp only[go_sem,r19,r20];refine .intro (fun e=>?_) (fun e=>?_)
  ·have hlt:i<cs.length:=aez e
   have w1' :IntKind.i64.wrap ((i:Int)+1)=((i+1:Nat):Int):=aeN;have hfl:=hfg _ (aex hlt);have hxi:(cs.map cu)[i]'aeD=cu cs[i]:=aet ..;simp only[go_sem,r18,r20];refine v1.rd.idx (U:=U) (e:=120) i rfl aeD ot aeG fun p hp1=>?_
   have hld:=hp1.all (U:=U) (ty:=120) aeG (by rw[ot,hxi];rfl) (by simp only[go_sem];rw[hxi];rfl)
   obtain⟨c,ec⟩:∃c,cs[i]=c:=⟨_,rfl⟩;rw[hxi,ec]at hld;rw[ec]at hfl hxi;simp only[cu,nU,gI,tf]at hld;simp only[go_sem,hld];intro i4 h4;have k1:=hs _ _ m1;have n41:i4≠i1:=cJ h4 k1;obtain⟨G4,eG4⟩:∃G4,upd G i4 (some (.obj [.s c.id,.s c.owner,.s c.state,.sl (c.fields.map bN) .no,.sl (c.log.map iW) .no] 120))=G4:=⟨_,rfl⟩;have sG:Ab.Sub G G4:=ahU;have p1:=sG _ _ k1;have p4:G4 i4=some (.obj [.s c.id,.s c.owner,.s c.state,.sl (c.fields.map bN) .no,.sl (c.log.map iW) .no] 120):=by rw[←eG4,ah]
   simp only[go_sem];rw[eG4];refine .stage (hm2 i1 (.obj [.i tick,z1,z2,z3,.sl (ro.map eW) .no,.s pid,.b pset,.i palg,aV ptgt,.sl (prules.map aC) .no,.sl (pkids.map aO) .no,ay pobls,.i ver] 41) i4 (.obj [.s c.id,.s c.owner,.s c.state,.sl (c.fields.map bN) .no,.sl (c.log.map iW) .no] 120)) [0,1,2,3,4,5,6,7] [8] (.hm2 p1 p4) aeF ?_;simp only[go_sem,r1,rZ _ _ n41.symm,sd];refine(xJ _ (c.log.map iW) G4 (eE iW 3 (fun _=>rfl) _ _) aeD (bn (fun _=>rfl) _)).pthen ?_
   refine⟨.hm2 p1 p4,?_⟩;simp only[go_sem];obtain⟨id1,hg1,u1⟩:=(v1.sub sG).ow aeD;refine u1.idx (U:=U) (e:=120) i rfl aeD ot aeG ?_;simp only[go_sem];refine⟨cS,(fun _ _ e=>ae2),?_⟩
   have u1' :=u1;obtain⟨cap,rest,ey,hid,hr,hcap,hsz⟩:=u1';have hbd:i*5+5≤(au (cs.map cu)++rest).length:=by
    grind [aew,aX,aes]
   have e5:List.take (i*5+4) (au (cs.map cu)++rest)++ [.sl (c.log.map iW) .no]++List.drop (i*5+4+1) (au (cs.map cu)++rest)=au (cs.map cu)++rest:=by
    refine(kC hsz i aeD 4 [.sl (c.log.map iW) .no] (aer rfl)).trans ?_;rw[pn];rw[List.getElem?_eq_getElem aeD,hxi];rfl
   simp only[go_sem,r20,hid];rw[e5,tH hid];refine⟨aeC,(fun _ _ e=>ae2),?_⟩
   simp only[go_sem,w1'];refine⟨_,?_,i+1,hs.trans sG,aeC,rfl,?_,?_,?_,?_,?_⟩
   ·omega
   all_goals simp only[go_sem,r1,r2,r18,r19]
  ·have hge:i=cs.length:=by grind
   have k1:=hs _ _ m1;have k2:=hs _ _ m2;have n21' :i2≠i1:=n21;simp only[go_sem,r1,r2,k1,k2];have kp:∀b q,h q=none→M q≠none→q≠i2→upd G i2 b q=M q:=fun b q a c d=>by
    rw[ag _ _ d];cases hh:M q with
    |none=>grind
    |some b=>exact hs _ _ hh
   have ne2:∀ {tb:TypeId} {z:AV} {xs:List AV} {n:Nat},OwE tb h M n z xs→tb≠41→∀q,nid z=some q→q≠i2:=fun w ht q e=>mE (w.nid e).2.2 m2 ht.symm
   refine .mk _ (.refl _) (.refl _) ⟨z1,z2,z3,by simp[stC,gq,bf]<;>rfl,⟨⟨cs.map cu,w1.keep fun q e=>kp _ q (w1.nid e).1 (w1.nid e).2.1 (ne2 w1 aeG q e),aeJ,fun j a b _=>aet ..,fun a b=>absurd b (Nat.lt_irrefl _)⟩,w2.keep fun q e=>kp _ q (w2.nid e).1 (w2.nid e).2.1 (ne2 w2 aeG q e),w3.keep fun q e=>kp _ q (w3.nid e).1 (w3.nid e).2.1 (ne2 w3 aeG q e),.inl rfl,a12,a13,fun q _ e=>ae2,a23,fun q _ e=>ae2,fun q _ e=>ae2⟩,(hM.trans hs).put n2 _⟩
end Go.Proofs.YtelkmnkejghkeaaGreatDoor
