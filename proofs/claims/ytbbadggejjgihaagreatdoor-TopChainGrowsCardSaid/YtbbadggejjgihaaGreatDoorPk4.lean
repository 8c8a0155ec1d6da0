/- The law TopVersions,TopChainGrows: pack 4 of its texts. -/
import Derived.Lib.AtoiAll
import Derived.Shelf.Small.Strs
import Derived.Shelf.Small.Wraps
import Derived.Shelf.Strconv.AtoiAll
import Derived.Shelf.Strconv.ErrVarAll
import Derived.Shelf.Strings.Search1
import Derived.Test.YtbbadggejjgihaaGreatDoorProg
import Derived.KernelRfl
import Derived.WalkKit
import Derived.BigCall
import Derived.Test.YtbbadggejjgihaaGreatDoorPk1
import Derived.Test.YtbbadggejjgihaaGreatDoorPk2
import Derived.Test.YtbbadggejjgihaaGreatDoorPk3
set_option linter.unusedSimpArgs false
set_option linter.unusedVariables false
set_option maxRecDepth 100000
namespace Go.Ab
open Go
noncomputable def pick (H:Heap) (l:List Nat):Heap:=fun j=>if j∈l then H j else none
theorem bC{H:Heap}{l:List Nat}{j:Nat}(hj:j∈l):pick H l j=H j:=if_pos hj
theorem iY{H h' :Heap}{l:List Nat}(hs:∀j∈l,h' j=H j):Sub (pick H l) h' :=fun j b hb=>by
 simp_all [bC,pick,if_neg]
theorem bR{H:Heap}{l:List Nat}:Sub (pick H l) H:=iY fun _ _=>rfl
end Go.Ab
namespace Go.Proofs.YtbbadggejjgihaaGreatDoor
open Go Go.Ab Go.Bf
def cg(c:aM)(f l:AV):List AV:=[.s c.id,.s c.owner,.s c.state,f,l]
theorem sH{h0 h:Heap}{s:an}(y1 y2 y3 y4:AV){k o:Nat}{A B:List AV}{t:TypeId}{c:aM}{f l:AV}(ho:o=A.length)(hk:h k=some (.obj (A++(cg c f l++B)) t))(ht:t≠163)
  (hlo:OwE 163 h0 h 3 l (c.log.map iU)) (hs0:Ab.Sub h0 h) (hll:c.log.length≤1000000) (actor what:Txt):
  ai Tryz.prog 116 [.agg ([.i s.tick,y1,y2,y3,y4]++gb s.policy++ [.i s.version]),.ptr k o,.s actor,.s what] h fun r h' =>∃l',OwE 163 h0 h' 3 l' ((c.log++ [(⟨s.tick,actor,what⟩:xV)]).map iU)∧h' k=some (.obj (A++(cg c f l' ++B)) t)∧(∀j,h j≠none→j≠k→nid l≠some j→h' j=h j)∧∀j,nid l' =some j→h j=none∨nid l=some j:=by
 cases hpp:s.policy with
 |mk pid pset palg ptgt prules pkids pobls=>
 have hcC:gb (.mk pid pset palg ptgt prules pkids pobls)= [.s pid,.b pset,.i palg,aV ptgt,.sl (prules.map aC) .no,.sl (pkids.map aO) .no,ay pobls]:=ahd;refine ad8 Tryz.func116 22 [] fun hwf=>?_
 simp only[go_sem,hcC,List.cons_append,List.nil_append];intro i1 h1;simp only[go_sem];obtain⟨H,eH⟩:∃H,upd h i1 (some (.obj [.i s.tick,y1,y2,y3,y4,.s pid,.b pset,.i palg,aV ptgt,.sl (prules.map aC) .no,.sl (pkids.map aO) .no,ay pobls,.i s.version] 51))=H:=⟨_,rfl⟩;have n1k:k≠i1:=fun e=>by rw[e,h1]at hk;cases hk
 have g1:H i1=some (.obj [.i s.tick,y1,y2,y3,y4,.s pid,.b pset,.i palg,aV ptgt,.sl (prules.map aC) .no,.sl (pkids.map aO) .no,ay pobls,.i s.version] 51):=afC;have gk:H k=some (.obj (A++(cg c f l++B)) t):=by rw[←eH,ag _ _ n1k];exact hk
 have hH:Ab.Sub h H:=by rw[←eH];exact(Sub.refl h).put h1 _
 have hoj:∀j,j≠i1→H j=h j:=fun j hj=>by rw[←eH];exact ag _ _ hj
 rw[eH];clear eH;refine .stage (hm2 k (.obj (A++(cg c f l++B)) t) i1 (.obj [.i s.tick,y1,y2,y3,y4,.s pid,.b pset,.i palg,aV ptgt,.sl (prules.map aC) .no,.sl (pkids.map aO) .no,ay pobls,.i s.version] 51)) [0,1,2,3,4,5,6,7,8,9,10,11,12,13] [14] (.hm2 gk g1) aec ?_;have hc4:(A++(cg c f l++B))[o+4]? =some l:=af0;obtain⟨CS,eCS⟩:∃CS,A++(cg c f l++B)=CS:=⟨_,rfl⟩;rw[eCS]at hc4 gk⊢;simp only[go_sem,rM,rL _ _ n1k,hc4];have hap1:Rd H 3 (.sl [iU ⟨s.tick,actor,what⟩] .full) [iU ⟨s.tick,actor,what⟩]:=.sl aeP .full;refine OwE.app (U:=U) (tb:=163) (hlo.sub hH) (hs0.trans hH) hap1 aej aed aee aej aeg aeI fun id2 y' h' g2 hor hw ho2=>?_
 have hor' :H id2=none∨nid l=some id2:=by
  exact aiU
 have k2:k≠id2:=by
  rcases hor' with hor|hor
  ·exact fun e=>by rw[←e,gk]at hor;cases hor
  ·exact(mq ((hlo.sub hH).nid hor).2.2 gk ht).symm
 have i2:i1≠id2:=by
  rcases hor' with hor|hor
  ·exact fun e=>by rw[←e,g1]at hor;cases hor
  ·exact fun e=>(hlo.nid hor).2.1 (by rw[←e];exact h1)
 have gk' :=(ho2 k k2).trans gk;have gi' :=(ho2 i1 i2).trans g1;refine⟨.hm2 gk' gi',?_⟩;simp only[go_sem];refine⟨cV,(fun _ _ e=>aey),?_⟩
 simp only[go_sem,gk',hw.rd.fit,hw.rd.cells];have lCS:CS.length=A.length+(5+B.length):=by rw[←eCS];simp[cg];omega
 have e5:List.take (o+4) CS++ [y']++List.drop (o+4+1) CS=A++(cg c f y' ++B):=by
  have:=pJ (A:=A++ [.s c.id,.s c.owner,.s c.state,f]) (B:=[l]) (C:=B) (X:=[y']) (k:=o+4) (m:=1) (by rw[ho];simp) rfl rfl
  exact ajQ
 rw[e5];refine⟨ad9,(fun _ _ e=>aey),.same (.refl _) ⟨y',?_,ah ..,fun j hj hjk hjl=>?_,fun j hj=>?_⟩⟩
 ·have hw' :Ow 163 (upd h' k (some (.obj (A++(cg c f y' ++B)) t))) 3 id2 y' (c.log.map iU++ [iU ⟨s.tick,actor,what⟩]):=hw.same (ag _ _ k2.symm)
  rw[List.map_append];exact .inr ⟨id2,g2,hw'⟩
 ·have hj2:j≠id2:=by
   rcases hor' with hor|hor
   ·intro e
    have:=hoj j (fun e' =>hj (by rw[e'];exact h1))
    rw[e,hor]at this;exact hj (by rw[e];exact this.symm)
   ·exact fun e=>hjl ah3
  have hj1:j≠i1:=fun e=>hj (by rw[e];exact h1)
  rw[ag _ _ hjk,ho2 j hj2,hoj j hj1]
 ·have:id2=j:=by have:=hw.nid;rw[hj]at this;exact(Option.some.inj this).symm
  rw[←this];rcases hor' with hor|hor
  ·refine .inl ?_
   cases hh:h id2 with
   |none=>rfl
   |some b=>rw[hH _ _ hh]at hor;cases hor
  ·exact .inr hor
theorem K8{h:Heap}(f:cO){k:Nat}{name:Txt}(hk:h k=some (.obj [.s name] 9)):ai Tryz.prog 168 [bN f,.ptr k 0] h fun r h' =>r= .b (geB f.name name)∧h' =h:=by
 refine ad8 Tryz.func168 8 [.tmp 3] fun hwf=>?_
 simp only[go_sem,bN];exact aiB
theorem Hs{fs:List cO}{name:Txt}{v:bu}(hx:¬fs.findIdx (fun f=>geB f.name name)<fs.length):eN fs name v=fs++ [⟨name,v⟩]:=by
 grind [eN,List.getElem?_eq_none,geB]
theorem zY{fs:List cO}{name:Txt}{v:bu}(hx:fs.findIdx (fun f=>geB f.name name)<fs.length)(he:fs[fs.findIdx (fun f=>geB f.name name)].name=name):eN fs name v=fs.set (fs.findIdx (fun f=>geB f.name name)) ⟨name,v⟩:=by
 simp_all [eN,List.getElem?_eq_getElem,if_true]
theorem Ht{fs:List cO}{name:Txt}{v:bu}(hx:fs.findIdx (fun f=>geB f.name name)<fs.length)(he:fs[fs.findIdx (fun f=>geB f.name name)].name≠name):eN fs name v=fs.take (fs.findIdx (fun f=>geB f.name name))++ [⟨name,v⟩]++fs.drop (fs.findIdx (fun f=>geB f.name name)):=by
 simp_all [eN,List.getElem?_eq_getElem,if_false]
theorem Ob{h0 h:Heap}{k o:Nat}{A B:List AV}{t:TypeId}{c:aM}{f l:AV}(ho:o=A.length)(hk:h k=some (.obj (A++(cg c f l++B)) t))(ht:t≠160)
  (hfo:OwE 160 h0 h 4 f (c.fields.map bN)) (hs0:Ab.Sub h0 h) (hff:c.fields.length≤1000000) (name:Txt) (v:bu):
  ai Tryz.prog 118 [.ptr k o,.s name,aS v] h fun r h' =>∃f',OwE 160 h0 h' 4 f' ((eN c.fields name v).map bN)∧h' k=some (.obj (A++(cg c f' l++B)) t)∧(∀j,h j≠none→j≠k→nid f≠some j→h' j=h j)∧∀j,nid f' =some j→h j=none∨nid f=some j:=by
 have hc3:(A++(cg c f l++B))[o+3]? =some f:=af0;have lCS:(A++(cg c f l++B)).length=A.length+(5+B.length):=by simp[cg];omega
 have e5:∀y',List.take (o+3) (A++(cg c f l++B))++ [y']++List.drop (o+3+1) (A++(cg c f l++B))=A++(cg c y' l++B):=fun y' =>by
  have:=pJ (A:=A++ [.s c.id,.s c.owner,.s c.state]) (B:=[f]) (C:=l::B) (X:=[y']) (k:=o+3) (m:=1) (by rw[ho];simp) rfl rfl
  exact aj0
 obtain⟨CS,eCS⟩:∃CS,A++(cg c f l++B)=CS:=⟨_,rfl⟩;rw[eCS]at hc3 hk lCS e5;refine ad8 Tryz.func118 60 [] fun hwf=>?_
 simp only[go_sem,aS];intro i1 h1;simp only[go_sem];intro i2 h2;have n21:=aI h2;have n2:=aB h2;have nk1:k≠i1:=fun e=>by rw[e,h1]at hk;cases hk
 have nk2:k≠i2:=fun e=>by rw[e,n2]at hk;cases hk
 obtain⟨H,eH⟩:∃H,upd (upd h i1 (some (.obj [.s name] 9))) i2 (some (.obj [.i v.kind,.i v.n,.s v.s] 32))=H:=⟨_,rfl⟩;have g1:H i1=some (.obj [.s name] 9):=afK;have g2:H i2=some (.obj [.i v.kind,.i v.n,.s v.s] 32):=afC;have gk:H k=some (.obj CS t):=by rw[←eH,ag _ _ nk2,ag _ _ nk1];exact hk
 have hH:Ab.Sub h H:=ae8;have hoj:∀j,h j≠none→H j=h j:=fun j hj=>by rw[←eH,ag _ _ (fun e=>hj (by rw[e];exact n2)),ag _ _ (fun e=>hj (by rw[e];exact h1))]
 rw[eH];clear eH;simp only[go_sem,gk,hc3];refine(yR f _ c.fields (fun f=>geB f.name name) _ [.ptr i1 0] _ (hfo.sub hH).rd aeg aeO (o6 (fun _=>rfl) _) fun i a b=>by
  rw[ad0];exact K8 _ g1).pthen ?_
 have hns:∀G,Ab.Sub cV G:=fun G _ _ e=>aey
 by_cases hx:c.fields.findIdx (fun f=>geB f.name name)<c.fields.length
 ·obtain⟨i,ei⟩:∃i,c.fields.findIdx (fun f=>geB f.name name)=i:=⟨_,rfl⟩
  have hxm:i<(c.fields.map bN).length:=by rw[←ei];simpa using hx
  have e1:ixD (fun f=>geB f.name name) c.fields=(i:Nat):=by rw[ixD,ei];exact if_pos (by rw[←ei];exact hx)
  have d1:decide (((i:Nat):Int)<0)=false:=decide_eq_false ad9;rw[e1];simp only[go_sem,d1];refine⟨.of aec,?_⟩;simp only[go_sem,gk,hc3];refine(hfo.sub hH).rd.idx (e:=160) i rfl hxm Hh aed fun p hp1=>?_
  simp only[go_sem];refine hp1.field (f:=0) (off:=0) (t:=9) rfl KQ fun p2 hp2=>?_
  have hld:=hp2.part (U:=U) (ty:=9) KQ (by rw[ad0,NZ];exact adY rfl)
  simp only[go_sem,hld,ad0,bN,g1];have hxi:i<c.fields.length:=by rw[←ei];exact hx
  cases d2:(c.fields[i].name==name)
  ·have hne:c.fields[i].name≠name:=by simpa using d2
   simp only[go_sem];refine .stage (pick H [k,i1,i2]) [0,1,2,3,4,5,6,7,8,9,10,11,12] [13] bR aec ?_;simp only[go_sem,bC (show k∈ [k,i1,i2] by simp),bC (show i1∈ [k,i1,i2] by simp),bC (show i2∈ [k,i1,i2] by simp),gk,g1,g2,hc3]
   refine(DP f _ (bN ⟨name,v⟩) i h0 H (hfo.sub hH) (hs0.trans hH) ad9 (by simpa using hff) rfl (by simp[bN,Ab.fit])).mono fun f' H1 ⟨w1,fr,ap⟩=>?_
   have nk:nid f≠some k:=fun e=>mq ((hfo.sub hH).nid e).2.2 gk ht rfl
   have n1' :nid f≠some i1:=fun e=>(hfo.nid e).2.1 h1
   have n2' :nid f≠some i2:=fun e=>(hfo.nid e).2.1 n2
   have gk' :H1 k=some (.obj CS t):=(fr k (by rw[gk];simp) nk).trans gk
   refine⟨iY fun j hj=>?_,?_⟩
   ·simp only[List.mem_cons,List.not_mem_nil,or_false]at hj
    rcases hj with rfl|rfl|rfl
    ·exact fr _ (by rw[gk];simp) nk
    ·exact fr _ (by rw[g1];simp) n1'
    ·exact fr _ (by rw[g2];simp) n2'
   simp only[go_sem];refine⟨cV,hns _,?_⟩;simp only[go_sem,gk',w1.rd.fit,w1.rd.cells];have hk2:nid f'≠some k:=fun e=>by
    rcases ap k e with h|h
    ·rw[gk]at h;cases h
    ·exact nk h
   have em:List.take i (c.fields.map bN)++([bN ⟨name,v⟩]++List.drop i (c.fields.map bN))=(eN c.fields name v).map bN:=by
    rw[Ht hx (by simp only[ei];exact hne),ei]
    simp[List.map_append,List.map_take,List.map_drop]
   rw[e5];rw[em]at w1;refine⟨ad9,hns _,.same (.refl _) ⟨f',w1.keep fun id e=>ag _ _ fun e' =>hk2 (by rw[←e'];exact e),ah ..,fun j hj hjk hjl=>?_,fun j hj=>?_⟩⟩
   ·rw[ag _ _ hjk,fr j (by rw[hoj j hj];exact hj) hjl,hoj j hj]
   ·rcases ap j hj with h|h
    ·exact .inl (hH.none h)
    ·exact .inr h
  ·have heq:c.fields[i].name=name:=by simpa using d2
   simp only[go_sem];refine⟨.of aec,?_⟩;simp only[go_sem,gk,g2,hc3];obtain⟨id1,hg1,o1⟩:=(hfo.sub hH).ow (by intro e;rw[e]at hxm;cases hxm)
   have t1:id1≠k:=mq o1 gk ht;have o1' :=o1;obtain⟨cap,rest,ey,hid,hr,hcap,hsz⟩:=o1';refine o1.idx (U:=U) (e:=160) i rfl hxm Hh aed ?_;simp only[go_sem,hid];have hxl:=ad0 (f:=bN) (l:=c.fields) (i:=i) (h:=hxm);have e2:List.take (i*4+1) (au (c.fields.map bN)++rest)++ [.i v.kind,.i v.n,.s v.s]++List.drop (i*4+1+3) (au (c.fields.map bN)++rest)=au ((eN c.fields name v).map bN)++rest:=by
    refine(ko hsz i hxm 1 [.i v.kind,.i v.n,.s v.s] (adY rfl)).trans ?_;rw[zY hx (by simp only[ei];exact heq),ei,List.map_set,hxl]
    have:AV.agg (over (bN c.fields[i]).cells 1 [.i v.kind,.i v.n,.s v.s])=bN ⟨name,v⟩:=by rw[←heq];rfl
    rw[this]
   have lw:(eN c.fields name v).length=c.fields.length:=by rw[zY hx (by simp only[ei];exact heq),List.length_set]
   rw[e2];refine⟨by rw[ad3,aX hsz];omega,.same (.refl _) ⟨f,.inr ⟨id1,hg1,cap,rest,by rw[ey];simp[lw],ah ..,by rw[hr];simp[lw],by rw[adZ]at hcap⊢;omega,bx (f:=bN) (n:=4) (fun _=>rfl) _⟩,(ag _ _ t1.symm).trans (by rw[eCS];exact gk),fun j hj hjk hjl=>?_,fun j hj=> .inr hj⟩⟩
   have:j≠id1:=fun e=>hjl (by rw[e];exact o1.nid)
   rw[ag _ _ this,hoj j hj]
 ·have e1:ixD (fun f=>geB f.name name) c.fields= -1:=by rw[ixD];exact if_neg hx
  have d1:decide ((-1:Int)<0)=true:=rfl;rw[e1];simp only[go_sem,d1];refine .stage (pick H [k,i1,i2]) [0,1,2,3,4,5,6,7,8,9,10,11] [12] bR aec ?_;simp only[go_sem,bC (show k∈ [k,i1,i2] by simp),bC (show i1∈ [k,i1,i2] by simp),bC (show i2∈ [k,i1,i2] by simp),gk,g1,g2,hc3]
  have hap1:Rd H 4 (.sl [bN ⟨name,v⟩] .full) [bN ⟨name,v⟩]:=.sl aeP .full;refine OwE.app (U:=U) (tb:=160) (hfo.sub hH) (hs0.trans hH) hap1 aej aed aee aej aeg aeI fun id2 y' h' g3 hor hw ho2=>?_
  have hor' :H id2=none∨nid f=some id2:=by
   exact aiU
  have k2:k≠id2:=by
   rcases hor' with hor|hor
   ·exact fun e=>by rw[←e,gk]at hor;cases hor
   ·exact(mq ((hfo.sub hH).nid hor).2.2 gk ht).symm
  have j1:i1≠id2:=by
   rcases hor' with hor|hor
   ·exact fun e=>by rw[←e,g1]at hor;cases hor
   ·exact fun e=>(hfo.nid hor).2.1 (by rw[←e];exact h1)
  have j2:i2≠id2:=by
   rcases hor' with hor|hor
   ·exact fun e=>by rw[←e,g2]at hor;cases hor
   ·exact fun e=>(hfo.nid hor).2.1 (by rw[←e];exact n2)
  refine⟨iY fun j hj=>ho2 j ?_,?_⟩
  ·simp only[List.mem_cons,List.not_mem_nil,or_false]at hj
   rcases hj with rfl|rfl|rfl
   ·exact k2
   ·exact j1
   ·exact j2
  have gk' :=(ho2 k k2).trans gk;simp only[go_sem];refine⟨cV,hns _,?_⟩;simp only[go_sem,gk',hw.rd.fit,hw.rd.cells];rw[e5,Hs hx];refine⟨ad9,hns _,.same (.refl _) ⟨y',?_,ah ..,fun j hj hjk hjl=>?_,fun j hj=>?_⟩⟩
  ·have hw' :Ow 160 (upd h' k (some (.obj (A++(cg c y' l++B)) t))) 4 id2 y' (c.fields.map bN++ [bN ⟨name,v⟩]):=hw.same (ag _ _ k2.symm)
   rw[List.map_append];exact .inr ⟨id2,g3,hw'⟩
  ·have hj2:j≠id2:=by
    rcases hor' with hor|hor
    ·intro e
     have:=hoj j hj;rw[e,hor]at this;exact hj (by rw[e];exact this.symm)
    ·exact fun e=>hjl ah3
   rw[ag _ _ hjk,ho2 j hj2,hoj j hj]
  ·have:id2=j:=by have:=hw.nid;rw[hj]at this;exact(Option.some.inj this).symm
   rw[←this];rcases hor' with hor|hor
   ·exact .inl (hH.none hor)
   ·exact .inr hor
theorem C6{cs:List aM}{id:Txt}(h:bZ cs id=true):bw cs id=cs[findD cs id]'(jS h):=by
 simp_all [bw,if_pos,List.getD_eq_getElem?_getD,List.getElem?_eq_getElem,jS]
theorem C7{cs:List aM}{id:Txt}(h:bZ cs id=false):bw cs id=oW:=by
 simp_all [bw,if_neg]
theorem mJ{g h:Heap}{p:Perm}:Frz g h (.sl [] p) (.sl [] .no):=.sl _ _ _ rfl ad9 aeg
theorem DC{g h:Heap}(c:aM):Frz g h (ct c) (ct c):=.agg _ _ rfl fun j a b=>by
 rcases j with _|_|_|_|_|j
 ·exact aet
 ·exact aet
 ·exact aet
 ·exact .pure (show cK (gF c.fields)=true from bl (fun _=>rfl) c.fields)
 ·exact .pure (show cK (sO c.log)=true from bl (fun _=>rfl) c.log)
 ·simp[nL]at a;omega
theorem B8{h:Heap}{x:AV}{s:an}(hb:RdS h x s)(id:Txt)(hf:Few s):ai Tryz.prog 58 [x,.s id] h fun r h' =>r= .tup [ct (bw s.cases id),.b (bZ s.cases id)]∧h' =h:=
 ai.freeze fun g hg _=>by
 replace hb:=hb.sub hg;have hb0:=hb;obtain⟨y1,y2,y3,y4,rfl,⟨xs,hc,hn,hcs⟩,h2,h3,h4⟩:=hb;cases hpp:s.policy with
 |mk pid pset palg ptgt prules pkids pobls=>
 have hcC:gb (.mk pid pset palg ptgt prules pkids pobls)= [.s pid,.b pset,.i palg,aV ptgt,.sl (prules.map aC) .no,.sl (pkids.map aO) .no,ay pobls]:=ahd;rw[hpp,hcC]at hb0;refine ad8 Tryz.func58 23 [.cell 4 133,.tmp 5] fun hwf=>?_
 simp only[go_sem,hcC,List.cons_append,List.nil_append];intro i1 h1;simp only[go_sem];intro i2 h2';have n21:=aI h2';have n2:=aB h2';simp only[go_sem,ak,n21.symm];have hs:∀a b,Ab.Sub g (upd (upd g i1 a) i2 b):=fun a b=>((Sub.refl g).put h1 a).put n2 b
 refine(Ce (hb0.sub (hs _ _)) id hf.cases).pthen ?_;cases d1:bZ s.cases id
 ·simp only[go_sem]
  refine .mk _ (.refl _) (.refl _) ⟨hs _ _,.tup [.agg [.s [],.s [],.s [],.sl [] .no,.sl [] .no],.b false],.tup _ _ rfl fun i a b=>?_,by rw[C7 d1];rfl⟩
  rcases i with _|_|i
  ·refine .agg _ _ rfl fun j c d=>?_
   rcases j with _|_|_|_|_|j
   ·exact aet
   ·exact aet
   ·exact aet
   ·exact mJ
   ·exact mJ
   grind
  ·exact aet
  grind
 ·have hlt:=jS d1
  have hltx:findD s.cases id<xs.length:=ad9;obtain⟨f,l,ex,hfl,hlg⟩:=hcs _ hltx hlt;simp only[go_sem,ak,n21.symm];refine hc.idx (e:=133) (findD s.cases id) rfl hltx nX aed fun p hp1=>?_
  have hld:=fun a b=>(hp1.sub (hs a b)).all (U:=U) (ty:=133) aed (by rw[nX,ex];rfl) (by simp only[go_sem];rw[ex];rfl)
  simp only[go_sem,hld];refine(wR ((hcs _ hltx hlt).sub (hs _ _)) (hf.fields _ (ad4 hlt)) (hf.log _ (ad4 hlt))).pthen ?_;rw[←C6 d1];simp only[go_sem,ct,nL,gF,sO];refine .mk _ (.refl _) (.refl _) ⟨hs _ _,_,.tup _ _ rfl fun i a b=>?_,rfl⟩
  rcases i with _|_|i
  ·exact DC _
  ·exact aet
  grind
theorem CF{h:Heap}{x:AV}{s:an}(hb:RdS h x s)(o:OpD)(hf:Few s):ai Tryz.prog 102 [x,opA o] h fun r h' =>r= .i (bT s o)∧h' =h:=by
 have hb0:=hb;obtain⟨y1,y2,y3,y4,rfl,⟨xs,hc,hn,hcs⟩,h2,h3,h4⟩:=hb;cases hpp:s.policy with
 |mk pid pset palg ptgt prules pkids pobls=>
 have hcC:gb (.mk pid pset palg ptgt prules pkids pobls)= [.s pid,.b pset,.i palg,aV ptgt,.sl (prules.map aC) .no,.sl (pkids.map aO) .no,ay pobls]:=ahd;rw[hpp,hcC]at hb0;refine ad8 Tryz.func102 67 [.tmp 4] fun hwf=>?_
 simp -implicitDefEqProofs only[go_sem,hcC,opA,opC,List.cons_append,List.nil_append];intro i1 h1;simp -implicitDefEqProofs only[go_sem];intro i2 h2';have n21:=aI h2';have n2:=aB h2';simp -implicitDefEqProofs only[go_sem,ak,n21.symm];have hs:∀a b,Ab.Sub h (upd (upd h i1 a) i2 b):=fun a b=>((Sub.refl h).put h1 a).put n2 b
 refine(B8 (hb0.sub (hs _ _)) o.case hf).pthen ?_;simp -implicitDefEqProofs only[go_sem,ct,nL,gF,sO];intro i3 h3';have n32:=aI h3';have h3b:=aB h3';have n31:=aI h3b;have n3:=aB h3b;have hs3:∀a b d,Ab.Sub h (upd (upd (upd h i1 a) i2 b) i3 d):=fun a b d=>(((Sub.refl h).put h1 a).put n2 b).put n3 d
 have hA:=(fun a b d=>Sub.trans (Sub.refl h) (hs3 a b d))
 simp -implicitDefEqProofs only[go_sem,ak,n32.symm];have hfl:(bw s.cases o.case).fields.length≤1000000000:=by
  unfold bw;split
  ·rename_i ht
   have hlt:=jS ht;rw[List.getD_eq_getElem?_getD,List.getElem?_eq_getElem hlt];exact Nat.le_trans (hf.fields _ (ad4 hlt)) aed
  decide
 cases d1:bZ s.cases o.case
 ·simp -implicitDefEqProofs only[go_sem]
  exact .mk _ (.refl _) (hs3 _ _ _) ⟨by simp only[bT,d1];rfl,rfl⟩
 ·simp -implicitDefEqProofs only[go_sem,ak,n32.symm]
  cases k3:(o.kind==3)
  ·have p3:o.kind≠3:=by grind
   simp -implicitDefEqProofs only[go_sem];cases k2:(o.kind==2)
   ·have p2:o.kind≠2:=by grind
    have k2n:(o.kind !=2)=true:=aea;cases d256:decide ((256:Int)≤((bw s.cases o.case).log.length:Int))
    ·have p256:¬256≤(bw s.cases o.case).log.length:=by grind
     simp -implicitDefEqProofs only[go_sem,ak,n32.symm,adZ,k3,k2n,d256];cases k4:(o.kind==4)
     ·have p4:o.kind≠4:=by grind
      exact aix
     ·have p4:o.kind=4:=by grind
      simp -implicitDefEqProofs only[go_sem,ak,n32.symm];refine(F1 _ _ _).pthen ?_;cases dfo:mU (bw s.cases o.case).state o.to
      ·exact aix
      ·exact aix
    ·have p256:256≤(bw s.cases o.case).log.length:=by grind
     simp -implicitDefEqProofs only[go_sem,adZ,k2n,d256];exact .mk _ (.refl _) (hs3 _ _ _) ⟨afQ,rfl⟩
   ·have p2:o.kind=2:=by grind
    have k2n:(o.kind !=2)=false:=aea;simp -implicitDefEqProofs only[go_sem,ak,n32.symm,k3,k2n];cases k4:(o.kind==4)
    ·have p4:o.kind≠4:=by omega
     exact aix
    ·have p4:o.kind=4:=by grind
     omega
  ·have p3:o.kind=3:=by grind
   cases d16:decide ((16:Int)≤((bw s.cases o.case).fields.length:Int))
   ·have p16:¬16≤(bw s.cases o.case).fields.length:=by grind
    simp -implicitDefEqProofs only[go_sem,adZ,d16];exact aiq
   ·have p16:16≤(bw s.cases o.case).fields.length:=by grind
    simp -implicitDefEqProofs only[go_sem,ak,n32.symm,adZ,d16];refine(Dv (show RdC _ (.agg [.s (bw s.cases o.case).id,.s (bw s.cases o.case).owner,.s (bw s.cases o.case).state,AV.sl ((bw s.cases o.case).fields.map bN) .no,AV.sl ((bw s.cases o.case).log.map iU) .no]) (bw s.cases o.case)from rdC _ _) o.field hfl).pthen ?_
    simp -implicitDefEqProofs only[go_sem,aS];cases dv:((dQ (bw s.cases o.case).fields o.field).kind==(0:Int) && ((dQ (bw s.cases o.case).fields o.field).n==(0:Int) && (dQ (bw s.cases o.case).fields o.field).s==([]:Txt)))
    ·have pv:eqV (dQ (bw s.cases o.case).fields o.field) aq=false:=dv
     simp -implicitDefEqProofs only[go_sem];exact aiq
    ·have pv:eqV (dQ (bw s.cases o.case).fields o.field) aq=true:=dv
     exact aix
theorem Ar{h:Heap}{x:AV}{s:an}(hb:RdS h x s)(o:OpD)(hf:Few s)(h0:0<o.review)(hr:o.review≤9223372036854775807):ai Tryz.prog 103 [x,opA o] h fun r h' =>r= .i (fu s o)∧h' =h:=by
 obtain⟨y1,y2,y3,y4,rfl,⟨xs,hc,hn,hcs⟩,h2,h3,h4⟩:=hb;cases hpp:s.policy with
 |mk pid pset palg ptgt prules pkids pobls=>
 have hcC:gb (.mk pid pset palg ptgt prules pkids pobls)= [.s pid,.b pset,.i palg,aV ptgt,.sl (prules.map aC) .no,.sl (pkids.map aO) .no,ay pobls]:=ahd;have hfr:=hf.reviews;refine ad8 Tryz.func103 35 [.tmp 4] fun hwf=>?_
 simp only[go_sem,hcC,opA,opC,List.cons_append,List.nil_append];intro i1 h1;simp only[go_sem];intro i2 h2';have n21:=aI h2';have n2:=aB h2';have hs:∀a b,Ab.Sub h (upd (upd h i1 a) i2 b):=fun a b=>((Sub.refl h).put h1 a).put n2 b
 simp only[go_sem,ak,n21.symm,h2.len,adZ];obtain⟨n,en⟩:∃n:Nat,o.review=((n:Nat):Int)+1:=⟨(o.review - 1).toNat,ad9⟩;have e1:wV s.reviews o.review=s.reviews[n]? :=by
  unfold wV;rw[if_pos ad9,show(o.review - 1).toNat=n by omega]
 have w1:IntKind.i64.wrap (o.review - 1)=((n:Nat):Int):=aek;cases dlt:decide ((s.reviews.length:Int)<o.review)
 ·have hlt:n<s.reviews.length:=by grind
  have hgl:wV s.reviews o.review=some s.reviews[n]:=aea;simp only[go_sem,ak,n21.symm,w1];refine h2.idx (e:=99) n rfl aea aeo aed fun p hp1=>?_
  simp only[go_sem];refine hp1.field (f:=6) (off:=6) (t:=4) rfl aed fun p2 hp2=>?_
  have hld:=fun a b=>(hp2.sub (hs a b)).part (U:=U) (ty:=4) aed (by rw[ad0,show(U 4).sz=1 by rfl];exact adY rfl)
  simp only[go_sem,hld,ad0,iZ];cases dop:s.reviews[n].isOpen
  ·exact aiX
  ·simp only[go_sem,ak,n21.symm]
   refine⟨.of aec,?_⟩;simp only[go_sem,w1];refine h2.idx (e:=99) n rfl aea aeo aed fun p hp1=>?_
   simp only[go_sem];refine hp1.field (f:=2) (off:=2) (t:=9) rfl KQ fun p2 hp2=>?_
   have hld:=fun a b=>(hp2.sub (hs a b)).part (U:=U) (ty:=9) KQ (by rw[ad0,NZ];exact adY rfl)
   simp only[go_sem,hld,ad0,iZ];cases dsu:(s.reviews[n].subj==o.subj)
   ·have psu:s.reviews[n].subj≠o.subj:=by grind
    exact aiX
   ·have psu:s.reviews[n].subj=o.subj:=by grind
    exact aiX
 ·have hge:¬n<s.reviews.length:=by grind
  have hgn:wV s.reviews o.review=none:=aea;exact aiX
theorem EM{h:Heap}{x:AV}{s:an}(hb:RdS h x s)(o:OpD)(hf:Few s)(hr:i64 o.review)(ht:i64 s.tick):ai Tryz.prog 50 [x,opA o] h fun r h' =>r= .i (bI s o)∧h' =h:=by
 have hb0:=hb;have hfo:=Cg o;have hrc:=fun(G:Heap) (hG:Ab.Sub h G)=>CF (hb.sub hG) o hf
 have hrl:=fun(G:Heap) (hG:Ab.Sub h G) (a:0<o.review)=>Ar (hb.sub hG) o hf a hr.2
 have hfi:=fun(G:Heap) (hG:Ab.Sub h G)=>Ce (hb.sub hG) o.case hf.cases
 have hha:=fun(G:Heap) (hG:Ab.Sub h G)=>Gb (hb.sub hG) o.case o.field (Nat.le_trans hf.roles aed)
 obtain⟨y1,y2,y3,y4,rfl,⟨xs,hc,hn,hcs⟩,h2,h3,h4⟩:=hb;cases hpp:s.policy with
 |mk pid pset palg ptgt prules pkids pobls=>
 have hcC:gb (.mk pid pset palg ptgt prules pkids pobls)= [.s pid,.b pset,.i palg,aV ptgt,.sl (prules.map aC) .no,.sl (pkids.map aO) .no,ay pobls]:=ahd;rw[hpp,hcC]at hb0 hrc hrl hfi hha;simp only[opA,opC,List.cons_append,List.nil_append]at hfo hrc hrl hfi hha;refine ad8 Tryz.func50 63 [.tmp 4] fun hwf=>?_
 simp only[go_sem,hcC,opA,opC,List.cons_append,List.nil_append];intro i1 h1;simp only[go_sem];intro i2 h2';have n21:=aI h2';have n2:=aB h2';have hs:∀a b,Ab.Sub h (upd (upd h i1 a) i2 b):=fun a b=>((Sub.refl h).put h1 a).put n2 b
 simp only[go_sem];refine(hfo _).pthen ?_;cases dform:cU o
 ·exact aiv
 ·simp only[go_sem]
  have hok:okD o=true:=by simp_all [cU,dU,Bool.and_eq_true]
  by_cases p1:o.kind=1
  ·have k1:(o.kind==1)=true:=by grind
   simp only[go_sem,ak,n21.symm,k1];refine(hfi _ (hs _ _)).pthen ?_;cases dth:bZ s.cases o.case
   ·simp only[go_sem,ak,n21.symm,hc.len,hn]
    cases d64:decide ((64:Int)≤(s.cases.length:Int))
    ·have p64:¬64≤s.cases.length:=by grind
     exact aiv
    ·have p64:64≤s.cases.length:=by grind
     exact aiv
   ·exact aiv
  have k1:(o.kind==1)=false:=aea;simp only[go_sem,k1]
  by_cases p2:o.kind=2
  ·have k2:(o.kind==2)=true:=by grind
   simp only[go_sem,ak,n21.symm,k2];refine(hrc _ (hs _ _)).pthen ?_;exact aiv
  have k2:(o.kind==2)=false:=aea;simp only[go_sem,k2]
  by_cases p3:o.kind=3
  ·have k3:(o.kind==3)=true:=by grind
   simp only[go_sem,ak,n21.symm,k3];refine(hrc _ (hs _ _)).pthen ?_;exact aiv
  have k3:(o.kind==3)=false:=aea;simp only[go_sem,k3]
  by_cases p4:o.kind=4
  ·have k4:(o.kind==4)=true:=by grind
   simp only[go_sem,ak,n21.symm,k4];refine(hrc _ (hs _ _)).pthen ?_;exact aiv
  have k4:(o.kind==4)=false:=aea;simp only[go_sem,k4]
  by_cases p5:o.kind=5
  ·have k5:(o.kind==5)=true:=by grind
   simp only[go_sem,ak,n21.symm,k5];have hrv:0<o.review:=by grind [okD]
   refine(hrl _ (hs _ _) hrv).pthen ?_;exact aiv
  have k5:(o.kind==5)=false:=aea;simp only[go_sem,k5]
  by_cases p6:o.kind=6
  ·have k6:(o.kind==6)=true:=by grind
   simp only[go_sem,ak,n21.symm,k6];simp only[go_sem,h4.len,adZ];cases d64:decide ((64:Int)≤(s.roles.length:Int))
   ·have p64:¬64≤s.roles.length:=by grind
    exact aiv
   ·have p64:64≤s.roles.length:=by grind
    simp only[go_sem,ak,n21.symm];refine(hha _ (hs _ _)).pthen ?_;cases dha:yK s.roles ⟨o.case,o.field⟩
    ·exact aiv
    ·exact aiv
  have k6:(o.kind==6)=false:=aea;simp only[go_sem,k6]
  by_cases p8:o.kind=8
  ·have k8:(o.kind==8)=true:=by grind
   simp only[go_sem,ak,n21.symm,k8];have hrv:0<o.review∧o.review≤1099511627776:=by grind [okD]
   have w1:IntKind.i64.wrap (1099511627776 - o.review)=1099511627776 - o.review:=aZ _ ad9;cases dt:decide (1099511627776 - o.review<s.tick)
   ·have pt:¬1099511627776 - o.review<s.tick:=ad2 dt
    simp only[go_sem,w1,dt];exact .mk _ (.refl _) (hs _ _) ⟨afG,rfl⟩
   ·have pt:1099511627776 - o.review<s.tick:=ad1 dt
    simp only[go_sem,w1,dt];exact .mk _ (.refl _) (hs _ _) ⟨afG,rfl⟩
  have k8:(o.kind==8)=false:=aea;simp only[go_sem,k8];exact .mk _ (.refl _) (hs _ _) ⟨by have:¬(2≤o.kind∧o.kind≤4):=ad9;simp only[bI,dform,p1,p5,p6,p8,this,if_false,Bool.true_eq_false,ax],rfl⟩
end Go.Proofs.YtbbadggejjgihaaGreatDoor
namespace Go.Bf
open Go Go.Ab
structure qj where
 kind:Int
 pos:Int
 n:Int
 s:Txt
def fH(t:qj):AV:=.agg [.i t.kind,.i t.pos,.i t.n,.s t.s]
def wrd(c:UInt8):Bool:=ltr c||dgt c||(c.toNat:Int)==95
def mB(l:Txt):Nat:=l.foldl (fun n c=>n*10+(c.toNat - 48)) 0
def eY(neg:Bool)(s:Txt):Int×Nat:=
 let d:=s.takeWhile dgt
 if d= []∨(1<d.length∧s.head? =some 48)then(0,0)else
 let v:Int:=if neg then -(mB d:Int)else(mB d:Int)
 if -9223372036854775808≤v∧v≤9223372036854775807 then(v,d.length)else(0,0)
def jT(s:Txt):Txt:=if bn (s.takeWhile wrd)then s.takeWhile wrd else []
def jV(c:UInt8):Int:=if dgt c then(c.toNat:Int) - 48 else if 97≤(c.toNat:Int)∧(c.toNat:Int)≤102 then(c.toNat:Int) - 87 else -1
def tZ:Txt→Option UInt8
 |b::x::y::_=>if b=92∧0≤jV x∧0≤jV y∧tY (UInt8.ofNat (16*jV x+jV y).toNat)=true then some (UInt8.ofNat (16*jV x+jV y).toNat)else none
 |_=>none
def uz:Nat→Txt→Nat→Txt→Txt×Nat
 |0,_,_,_=>([],0)
 |_+1,[],_,_=>([],0)
 |f+1,c::r,at_,out=>
  if c=34 then(if 64<out.length then([],0)else(out,at_+1))
  else if tY c=false then uz f r (at_+1) (out++ [c])
  else match tZ (c::r)with
   |some b=>uz f (r.drop 2) (at_+3) (out++ [b])
   |none=>([],0)
def zP(s:Txt):Txt×Nat:=uz s.length (s.drop 1) 1 []
def Ec(c:UInt8):Bool:=c∈([123,125,40,41,46,44,59,61,60,62,33]:Txt)
def bM(s:Txt):qj×Nat:=
 let c:=s.headD 0
 if ltr c then(⟨1,0,0,jT s⟩,(jT s).length)
 else if dgt c then(⟨2,0,(eY false s).1,[]⟩,(eY false s).2)
 else if c=45 then(⟨2,0,(eY true (s.drop 1)).1,[]⟩,if(eY true (s.drop 1)).1=0 then 0 else(eY true (s.drop 1)).2+1)
 else if c=64 then(⟨3,0,(eY false (s.drop 1)).1,[]⟩,if(eY false (s.drop 1)).2=0∨(eY false (s.drop 1)).1>1099511627776 then 0 else(eY false (s.drop 1)).2+1)
 else if c=35 then(⟨4,0,0,jT (s.drop 1)⟩,if jT (s.drop 1)= []then 0 else(jT (s.drop 1)).length+1)
 else if c=34 then(⟨5,0,0,(zP s).1⟩,(zP s).2)
 else if Ec c then(⟨6,0,0,[c]⟩,1)
 else(⟨0,0,0,[]⟩,0)
inductive Lexed where
 |bad (e:Int) (at_:Int)
 |ok (l:List qj)
def qB(c:UInt8):Bool:=(c.toNat:Int)==32||(c.toNat:Int)==10
def qo:Nat→Txt→Nat→List qj→Lexed
 |0,_,at_,_=> .bad 5 at_
 |_+1,[],at_,out=> .ok (out++ [⟨7,at_,0,[]⟩])
 |f+1,c::r,at_,out=>
  if qB c then qo f r (at_+1) out
  else if(bM (c::r)).2=0 then .bad 5 at_
  else qo f ((c::r).drop (bM (c::r)).2) (at_+(bM (c::r)).2) (out++ [{(bM (c::r)).1 with pos:=at_}])
def pI(s:Txt):Lexed:=if s.length>4096 then .bad 6 4096 else qo (s.length+1) s 0 []
theorem kC(p:UInt8→Bool)(s:Txt):(s.takeWhile p).length≤s.length:=(List.takeWhile_prefix p).length_le
theorem rD(p:UInt8→Bool)(s:Txt):s.take (s.takeWhile p).length=s.takeWhile p:=by
 obtain⟨t,ht⟩:=List.takeWhile_prefix (l:=s) p
 grind
theorem pM(neg:Bool)(s:Txt):(eY neg s).2≤s.length:=by
 have:=kC dgt s;unfold eY;simp only;split
 ·exact agf
 ·generalize (if neg=true then -(mB (s.takeWhile dgt):Int)else(mB (s.takeWhile dgt):Int))=v
  split
  ·exact aeR
  ·exact agf
theorem uJ(s:Txt):(jT s).length≤s.length:=by
 grind [kC,wrd,jT]
theorem El{s:Txt}{b:UInt8}(h:tZ s=some b):3≤s.length:=by
 match s,h with
 |_::_::_::_,_=>simp
theorem zQ:∀(f:Nat) (r:Txt) (at_:Nat) (out:Txt),(uz f r at_ out).2≤at_+r.length
 |0,_,_,_=>by simp[uz]
 |_+1,[],_,_=>by simp[uz]
 |f+1,c::r,at_,out=>by
  simp only[uz];split
  ·grind
  ·split
   ·have:=zQ f r (at_+1) (out++ [c]);simp only[List.length_cons];omega
   ·split
    ·rename_i b hb
     have h3:=El hb;have:=zQ f (r.drop 2) (at_+3) (out++ [b]);simp only[List.length_cons,List.length_drop]at this h3⊢;omega
    ·simp
theorem sw(s:Txt)(hs:s≠ []):(bM s).2≤s.length:=by
 have h1:1≤s.length:=aea;have hd:(s.drop 1).length=s.length - 1:=aeg;have k1:=uJ s;have k2:=uJ (s.drop 1);have k3:=pM false s;have k4:=pM false (s.drop 1);have k5:=pM true (s.drop 1);have k6:=zQ s.length (s.drop 1) 1 [];unfold bM;simp only;split
 ·exact k1
 split
 ·exact k3
 split
 ·simp only;split<;>omega
 split
 ·simp only;split<;>omega
 split
 ·simp only;split<;>omega
 split
 ·simp only[zP];omega
 split
 ·simp only;omega
 ·simp
structure PS where
 ts:List qj
 pos:Nat
 rules:Nat
 bad:Int
 place:Int
def aK(st:PS):qj:=st.ts.getD st.pos ⟨7,0,0,[]⟩
def bH(st:PS)(e p:Int):PS:=if st.bad=0 then {st with bad:=e,place:=p} else st
def bp(st:PS):PS:=bH st 5 (aK st).pos
def bE(st:PS)(more:Bool):PS:=if more then bH st 6 (aK st).pos else st
def isD(st:PS)(s:Txt):Bool:=st.bad==0 && ((aK st).s==s && ((aK st).kind==1||(aK st).kind==6))
def bh(st:PS):PS:={st with pos:=st.pos+1}
def cp(st:PS)(s:Txt):Bool×PS:=if isD st s=true then(true,bh st)else(false,st)
def dZ(st:PS)(s:Txt):PS:=if isD st s=true then bh st else bp st
def cm(st:PS):Txt×PS:=
 if(aK st).kind=1∧st.bad=0 then((aK st).s,bh st)else([],if(aK st).kind=1 then st else bp st)
def vg(s:Txt):List Txt→Option Nat
 | []=>none
 |w::r=>if w=s then some 0 else(vg s r).map (· +1)
def aY(st:PS)(ws:List Txt):Int×PS:=match vg (aK st).s ws with
 |some i=>if(aK st).kind=1∧st.bad=0 then((i:Int)+1,bh st)else(0,bp st)
 |none=>(0,bp st)
def WfP(st:PS):Prop:=st.pos<st.ts.length∧(∀i (h:i<st.ts.length),st.ts[i].kind≠7→i+1<st.ts.length)∧st.ts.length≤5000
theorem DL{st:PS}(h:st.pos<st.ts.length):aK st=st.ts[st.pos]:=by
 grind [aK,List.getElem?_eq_getElem]
theorem K6{st:PS}(e p:Int)(h:WfP st):WfP (bH st e p):=by
 unfold bH;split<;>exact h
theorem N9{st:PS}(h:WfP st)(hk:(aK st).kind≠7):WfP (bh st):=by
 rw[DL h.1]at hk;exact⟨h.2.1 _ h.1 hk,h.2⟩
theorem dK{st:PS}{s:Txt}(h:isD st s=true):(aK st).kind≠7:=by
 simp only[isD,Bool.and_eq_true,Bool.or_eq_true,beq_iff_eq]at h;omega
def Ah(st st' :PS):Prop:=WfP st'∧st'.ts=st.ts∧st.pos≤st'.pos
theorem Ah.refl{st:PS}(h:WfP st):Ah st st:=⟨h,rfl,Nat.le_refl _⟩
theorem Ah.trans{a b c:PS}(x:Ah a b)(y:Ah b c):Ah a c:=⟨y.1,y.2.1.trans x.2.1,Nat.le_trans x.2.2 y.2.2⟩
theorem ya{st:PS}(e p:Int)(h:WfP st):Ah st (bH st e p):=⟨K6 e p h,by grind [bH],by unfold bH;grind⟩
theorem fk{st:PS}(h:WfP st)(hk:(aK st).kind≠7):Ah st (bh st):=⟨N9 h hk,rfl,Nat.le_succ _⟩
theorem oI{st:PS}(h:WfP st):Ah st (bp st):=ya _ _ h
theorem lE{st:PS}(b:Bool)(h:WfP st):Ah st (bE st b):=by
 unfold bE;split
 ·grind [ya]
 ·exact agv
theorem Oz{st:PS}(s:Txt)(h:WfP st):Ah st (cp st s).2:=by
 unfold cp;split
 ·grind [fk,dK]
 ·exact agv
theorem jz{st:PS}(s:Txt)(h:WfP st):Ah st (dZ st s):=by
 grind [dZ,fk,dK,oI]
theorem nH{st:PS}(h:WfP st):Ah st (cm st).2:=by
 unfold cm;split
 ·grind [fk]
 ·simp only;split
  ·exact agv
  grind [oI]
theorem gK{st:PS}(ws:List Txt)(h:WfP st):Ah st (aY st ws).2:=by
 grind [aY,fk,oI]
def vW:List Txt:=[[115,117,98,106,101,99,116],[97,99,116,105,111,110],[99,97,115,101],[101,110,118]]
def ga(st:PS):qs×PS:=
 (⟨(aY st vW).1,(cm (dZ (aY st vW).2 [46])).1,(cp (cm (dZ (aY st vW).2 [46])).2 [33]).1⟩,(cp (cm (dZ (aY st vW).2 [46])).2 [33]).2)
theorem BY{st:PS}(h:WfP st):Ah st (ga st).2:=by
 have h1:=gK vW h;have h2:=jz [46] h1.1;have h3:=nH h2.1;exact((h1.trans h2).trans h3).trans (Oz [33] h3.1)
def xg:Txt:=[116,114,117,101]
def qL:Txt:=[102,97,108,115,101]
def fZ(st:PS):bu×PS:=
 if(aK st).kind=2 then(⟨2,(aK st).n,(aK st).s⟩,st)
 else if(aK st).kind=3 then(⟨4,(aK st).n,(aK st).s⟩,st)
 else if(aK st).kind=4 then(⟨5,(aK st).n,(aK st).s⟩,st)
 else if(aK st).kind=5 then(⟨3,(aK st).n,(aK st).s⟩,st)
 else if isD st xg then(⟨1,1,[]⟩,st)
 else if isD st qL then(⟨1,0,[]⟩,st)
 else(⟨0,(aK st).n,(aK st).s⟩,bp st)
def aD(st:PS):bu×PS:=if(fZ st).2.bad=0 then((fZ st).1,bh (fZ st).2)else(⟨0,0,[]⟩,(fZ st).2)
theorem rU(st:PS):(bp st).bad≠0:=by
 grind [bp,bH,Int]
theorem uF(st:PS):(fZ st).2=st∧(aK st).kind≠7∨(fZ st).2=bp st:=by
 unfold fZ;split
 ·grind
 split
 ·grind
 split
 ·grind
 split
 ·grind
 split
 ·rename_i h;exact .inl ⟨rfl,dK h⟩
 split
 ·rename_i h;exact .inl ⟨rfl,dK h⟩
 simp
theorem CX{st:PS}(h:WfP st):Ah st (aD st).2:=by
 unfold aD;rcases uF st with⟨e,hk⟩|e
 ·rw[e];split
  ·grind [fk]
  ·exact agv
 simp_all [if_neg,rU,oI]
def opP(st:PS):Int×PS:=
 if isD st [61]then(1,bh st)else if isD st [60]then(2,bh st)else if isD st [62]then(3,bh st)else(0,bp st)
theorem U2{st:PS}(h:WfP st):Ah st (opP st).2:=by
 grind [opP,fk,dK,oI]
def gG(st:PS):bP×PS:=(⟨(ga st).1,(opP (ga st).2).1,(aD (opP (ga st).2).2).1⟩,(aD (opP (ga st).2).2).2)
theorem qu{st:PS}(h:WfP st):Ah st (gG st).2:=by
 have h1:=BY h;have h2:=U2 h1.1;exact(h1.trans h2).trans (CX h2.1)
def fU{α:Type}(one:PS→α×PS)(w:Txt)(most:Nat):Nat→PS→List α→List α×PS
 |0,st,l=>(l,st)
 |f+1,st,l=>if isD st w=true then fU one w most f (bE (one (bh st)).2 (decide (most<l.length+1))) (l++ [(one (bh st)).1])else(l,st)
theorem tr{α:Type}{one:PS→α×PS}(ho:∀st,WfP st→Ah st (one st).2)(w:Txt)(most:Nat):∀(f:Nat) (st:PS) (l:List α),WfP st→Ah st (fU one w most f st l).2
 |0,st,l,h=> .refl h
 |f+1,st,l,h=>by
  unfold fU;split
  ·rename_i hi
   have h1:=fk h (dK hi);have h2:=ho _ h1.1;have h3:=lE (decide (most<l.length+1)) h2.1;exact((h1.trans h2).trans h3).trans (tr ho w most f _ _ h3.1)
  ·exact agv
def orT:Txt:=[111,114]
def CZ:Txt:=[97,110,100]
def Ff:Txt:=[119,104,101,110]
def qk(st:PS):List bP×PS:=fU gG [44] 8 st.ts.length (gG st).2 [(gG st).1]
theorem BW{st:PS}(h:WfP st):Ah st (qk st).2:=(qu h).trans (tr (fun _ h=>qu h) _ _ _ _ _ (qu h).1)
def rY(st:PS):List (List bP)×PS:=
 let a:=qk (dZ st [40])
 let m:=fU qk orT 8 st.ts.length a.2 [a.1]
 (m.1,dZ m.2 [41])
theorem BX{st:PS}(h:WfP st):Ah st (rY st).2:=by
 have h0:=jz [40] h;have h1:=BW h0.1;have h2:=tr (fun _ h=>BW h) orT 8 st.ts.length _ [(qk (dZ st [40])).1] h1.1
 exact((h0.trans h1).trans h2).trans (jz [41] h2.1)
def gW(st:PS):gj×PS:=if isD st Ff=true then fU rY CZ 8 st.ts.length (rY (bh st)).2 [(rY (bh st)).1]else([],st)
theorem B2{st:PS}(h:WfP st):Ah st (gW st).2:=by
 unfold gW;split
 ·rename_i hi
  have h0:=fk h (dK hi);have h1:=BX h0.1;exact(h0.trans h1).trans (tr (by grind [BX]) _ _ _ _ _ h1.1)
 ·exact agv
def mb:List Txt:=[[111,110,101],[115,105,122,101],[104,97,115],[101,113],[108,101,115,115],[97,100,100],[115,117,98],[109,117,108],[110,111,116],[97,110,100],[111,114]]
def opers(op:Int):List Bool:=if op=3∨op=4 then [true]else if op=5 then [true,false]else if op=11 then [false]else [false,false]
abbrev ExF:=PS→List aR→(List aR×Bool)×PS
def iH(ex:ExF)(st:PS)(l:List aR)(must:Bool):List aR×PS:=
 ((ex st l).1.1,if(ex st l).1.2=must then(ex st l).2 else bH (ex st l).2 5 (aK st).pos)
def jG(ex:ExF):List Bool→PS→List aR→List aR×PS
 | [],st,l=>(l,st)
 |b::bs,st,l=>if st.bad=0 then jG ex bs (iH ex st l b).2 (iH ex st l b).1 else(l,st)
def qN(ex:ExF)(st:PS)(l:List aR):(List aR×aR)×PS:=
 (((jG ex (opers (2+(aY st mb).1)) (aY st mb).2 l).1,⟨2+(aY st mb).1,⟨0,0,[]⟩,⟨0,[],false⟩⟩),dZ (jG ex (opers (2+(aY st mb).1)) (aY st mb).2 l).2 [41])
def jr(ex:ExF)(st:PS)(l:List aR):(List aR×aR)×PS:=
 if isD st [40]=true then qN ex (bh st) l
 else if(aK st).kind=1∧(aK st).s≠xg∧(aK st).s≠qL then((l,⟨2,⟨0,0,[]⟩,(ga st).1⟩),(ga st).2)
 else((l,⟨1,(aD st).1,⟨0,[],false⟩⟩),(aD st).2)
def eS:Nat→ExF
 |0,st,l=>((l,false),st)
 |f+1,st,l=>(((jr (eS f) st l).1.1++ [(jr (eS f) st l).1.2],(jr (eS f) st l).1.2.op==2),bE (jr (eS f) st l).2 (decide (32<(jr (eS f) st l).1.1.length+1)))
def Fm(ex:ExF):Prop:=∀st l,WfP st→Ah st (ex st l).2∧(ex st l).1.1.length+2*st.pos≤l.length+2*(ex st l).2.pos+1
theorem zl{ex:ExF}(he:Fm ex)(st:PS)(l:List aR)(b:Bool)(h:WfP st):Ah st (iH ex st l b).2∧(iH ex st l b).1.length+2*st.pos≤l.length+2*(iH ex st l b).2.pos+1:=by
 obtain⟨h1,h2⟩:=he st l h;unfold iH;split
 ·grind
 ·refine⟨h1.trans (ya _ _ h1.1),?_⟩
  grind [bH,aK]
theorem Bl{ex:ExF}(he:Fm ex):∀(bs:List Bool) (st:PS) (l:List aR),WfP st→Ah st (jG ex bs st l).2∧(jG ex bs st l).1.length+2*st.pos≤l.length+2*(jG ex bs st l).2.pos+bs.length
 | [],st,l,h=>⟨.refl h,by simp[jG]⟩
 |b::bs,st,l,h=>by
  unfold jG;split
  ·obtain⟨h1,h2⟩:=zl he st l b h
   obtain⟨h3,h4⟩:=Bl he bs (iH ex st l b).2 (iH ex st l b).1 h1.1;exact⟨h1.trans h3,aea⟩
  ·exact⟨.refl h,aeg⟩
theorem Ep(op:Int):(opers op).length≤2:=by
 grind [opers]
theorem Me{ex:ExF}(he:Fm ex)(st:PS)(l:List aR)(h:WfP st):Ah st (qN ex st l).2∧(qN ex st l).1.1.length+2*st.pos≤l.length+2*(qN ex st l).2.pos+2:=by
 have h1:=gK mb h;obtain⟨h2,h3⟩:=Bl he (opers (2+(aY st mb).1)) _ l h1.1;have h4:=jz [41] h2.1;have:=Ep (2+(aY st mb).1);have p1:=h1.2.2;have p4:=h4.2.2;unfold qN;exact⟨(h1.trans h2).trans h4,aea⟩
theorem DK{ex:ExF}(he:Fm ex)(st:PS)(l:List aR)(h:WfP st):Ah st (jr ex st l).2∧(jr ex st l).1.1.length+2*st.pos≤l.length+2*(jr ex st l).2.pos:=by
 unfold jr;split
 ·rename_i hi
  have h1:=fk h (dK hi);obtain⟨h2,h3⟩:=Me he _ l h1.1;have:(bh st).pos=st.pos+1:=rfl;exact⟨h1.trans h2,ad9⟩
 ·split
  ·have h1:=BY h
   have:=h1.2.2;exact⟨h1,aea⟩
  ·have h1:=CX h
   have:=h1.2.2;exact⟨h1,aea⟩
theorem qK:∀f,Fm (eS f)
 |0=>fun st l h=>⟨.refl h,by simp[eS]⟩
 |f+1=>fun st l h=>by
  obtain⟨h1,h2⟩:=DK (qK f) st l h;have h3:=lE (decide (32<(jr (eS f) st l).1.1.length+1)) h1.1;have:=h3.2.2;refine⟨h1.trans h3,?_⟩
  grind [eS,ad3,List.length_singleton]
def vq:List Txt:=[[112,101,114,109,105,116],[100,101,110,121]]
def mS:List Txt:=[[108,111,103],[114,101,100,97,99,116],[114,101,118,105,101,119],[110,111,116,105,102,121]]
def wP:Txt:=[111,110]
def An(st:PS):cD×PS:=
 (⟨(aY st vq).1,(aY (aY st vq).2 mS).1,(cm (aY (aY st vq).2 mS).2).1⟩,(cm (aY (aY st vq).2 mS).2).2)
theorem Lr{st:PS}(h:WfP st):Ah st (An st).2:=by
 have h1:=gK vq h;have h2:=gK mS h1.1;exact(h1.trans h2).trans (nH h2.1)
def gy(st:PS):List cD×PS:=fU An wP 8 st.ts.length st []
theorem B0{st:PS}(h:WfP st):Ah st (gy st).2:=tr (fun _ h=>Lr h) _ _ _ _ _ h
inductive Rch (a:PS):PS→Prop where
 |refl:Rch a a
 |wrong {b:PS} (e p:Int):Rch a b→(e=5∨e=6)→(∃i,i≤b.pos∧p=(b.ts.getD i ⟨7,0,0,[]⟩).pos)→Rch a (bH b e p)
 |next {b:PS}:Rch a b→b.bad=0→(aK b).kind≠7→Rch a (bh b)
theorem Rch.trans{a b c:PS}(x:Rch a b)(y:Rch b c):Rch a c:=by
 induction y with
 |refl=>exact x
 |wrong e p _ h1 h2 ih=>grind [wrong]
 |next _ h1 h2 ih=>grind [next]
theorem kV(st:PS):Rch st (bp st):=.wrong _ _ .refl (.inl rfl) ⟨st.pos,Nat.le_refl _,rfl⟩
theorem rQ(st:PS)(b:Bool):Rch st (bE st b):=by
 unfold bE;split
 ·exact .wrong _ _ .refl (.inr rfl) ⟨st.pos,Nat.le_refl _,rfl⟩
 ·exact agB
theorem H7{st:PS}{s:Txt}(h:isD st s=true):st.bad=0:=by
 simp_all [isD,Bool.and_eq_true,beq_iff_eq]
theorem sV{st:PS}{s:Txt}(h:isD st s=true):Rch st (bh st):=.next .refl (H7 h) (dK h)
theorem Np(st:PS)(s:Txt):Rch st (cp st s).2:=by
 unfold cp;split
 ·grind [sV]
 ·exact agB
theorem ng(st:PS)(s:Txt):Rch st (dZ st s):=by
 grind [dZ,sV,kV]
theorem uu(st:PS):Rch st (cm st).2:=by
 unfold cm;split
 ·rename_i h;exact .next .refl h.2 ad9
 ·simp only;split
  ·exact agB
  grind [kV]
theorem mO(st:PS)(ws:List Txt):Rch st (aY st ws).2:=by
 unfold aY;split
 ·split
  ·rename_i h;exact .next .refl h.2 ad9
  grind [kV]
 grind [kV]
theorem ED(st:PS):Rch st (ga st).2:=(((mO st vW).trans (ng _ [46])).trans (uu _)).trans (Np _ [33])
theorem Bw(st:PS):Rch st (aD st).2:=by
 unfold aD;rcases uF st with⟨e,hk⟩|e
 ·rw[e];split
  ·rename_i h;exact .next .refl h hk
  ·exact agB
 simp_all [if_neg,rU,kV]
theorem S9(st:PS):Rch st (opP st).2:=by
 grind [opP,sV,kV]
theorem Bu(st:PS):Rch st (gG st).2:=((ED st).trans (S9 _)).trans (Bw _)
theorem rq{α:Type}{one:PS→α×PS}(ho:∀st,Rch st (one st).2)(w:Txt)(most:Nat):∀(f:Nat) (st:PS) (l:List α),Rch st (fU one w most f st l).2
 |0,st,l=> .refl
 |f+1,st,l=>by
  unfold fU;split
  ·rename_i h
   exact(((sV h).trans (ho _)).trans (rQ _ _)).trans (rq ho w most f _ _)
  ·exact agB
theorem IB(st:PS):Rch st (qk st).2:=(Bu st).trans (rq Bu _ _ _ _ _)
theorem IC(st:PS):Rch st (rY st).2:=(((ng st [40]).trans (IB _)).trans (rq IB orT 8 st.ts.length _ [(qk (dZ st [40])).1])).trans (ng _ [41])
theorem ID(st:PS):Rch st (gW st).2:=by
 unfold gW;split
 ·rename_i h;exact((sV h).trans (IC _)).trans (rq IC _ _ _ _ _)
 ·exact agB
theorem PT(st:PS):Rch st (An st).2:=((mO st vq).trans (mO _ mS)).trans (uu _)
theorem EJ(st:PS):Rch st (gy st).2:=rq PT _ _ _ _ _
theorem rR{a b:PS}(h:Rch a b):b.ts=a.ts∧a.pos≤b.pos∧b.rules=a.rules:=by
 induction h with
 |refl=>simp
 |wrong e p _ _ _ ih=>
  grind [bH]
 |next _ _ _ ih=>exact⟨ih.1,Nat.le_succ_of_le ih.2.1,ih.2.2⟩
theorem EK{ex:ExF}(he:∀st l,Rch st (ex st l).2)(st:PS)(l:List aR)(b:Bool):Rch st (iH ex st l b).2:=by
 unfold iH;simp only;split
 ·grind
 ·have:=rR (he st l)
  exact .wrong _ _ (he st l) (.inl rfl) ⟨st.pos,this.2.1,by rw[this.1];rfl⟩
theorem Bv{ex:ExF}(he:∀st l,Rch st (ex st l).2):∀(bs:List Bool) (st:PS) (l:List aR),Rch st (jG ex bs st l).2
 | [],st,l=> .refl
 |b::bs,st,l=>by
  unfold jG;split
  ·exact(EK he st l b).trans (Bv he bs _ _)
  ·exact agB
theorem EE:∀(f:Nat) (st:PS) (l:List aR),Rch st (eS f st l).2
 |0,st,l=> .refl
 |f+1,st,l=>by
  refine Rch.trans ?_ (rQ _ _);unfold jr;split
  ·rename_i h
   exact(sV h).trans (((mO _ mb).trans (Bv (EE f) _ _ _)).trans (ng _ [41]))
  grind [ED,Bw]
def ifT:Txt:=[105,102]
def pP:Txt:=[112,101,114,109,105,116]
def jo:Txt:=[100,101,110,121]
def pQ:Txt:=[112,111,108,105,99,121]
def GO:Txt:=[115,101,116]
def mZ:List Txt:=[pQ,GO]
def yb:List Txt:=[[100,101,110,121,111,118,101,114],[112,101,114,109,105,116,111,118,101,114],[102,105,114,115,116],[111,110,108,121],[100,101,110,121,117,110,108,101,115,115],[112,101,114,109,105,116,117,110,108,101,115,115]]
def qH(st:PS):List aR×PS:=if isD st ifT=true then iH (eS st.ts.length) (bh st) [] false else([],st)
theorem No(st:PS):Rch st (qH st).2:=by
 unfold qH;split
 ·rename_i h;exact(sV h).trans (EK (EE _) _ _ _)
 ·exact agB
theorem Hx{st:PS}(h:WfP st):Ah st (qH st).2:=by
 unfold qH;split
 ·rename_i hi
  have h1:=fk h (dK hi);exact h1.trans (zl (qK _) _ _ _ h1.1).1
 ·exact agv
def qg(deny:Bool)(st:PS):cR×PS:=
 (⟨(cm st).1,deny,(gW (cm st).2).1,(qH (gW (cm st).2).2).1,(gy (qH (gW (cm st).2).2).2).1⟩,dZ (gy (qH (gW (cm st).2).2).2).2 [59])
theorem zB(deny:Bool)(st:PS):Rch st (qg deny st).2:=((((uu st).trans (ID _)).trans (No _)).trans (EJ _)).trans (ng _ [59])
theorem B1(deny:Bool){st:PS}(h:WfP st):Ah st (qg deny st).2:=by
 have h1:=nH h;have h2:=B2 h1.1;have h3:=Hx h2.1;have h4:=B0 h3.1;exact(((h1.trans h2).trans h3).trans h4).trans (jz [59] h4.1)
inductive oe (a:PS):PS→Prop where
 |refl:oe a a
 |small {b c:PS}:oe a b→Rch b c→oe a c
 |rule {b:PS}:oe a b→b.bad=0→b.rules≠64→(aK b).kind≠7→oe a {bh b with rules:=b.rules+1}
theorem oe.trans{a b c:PS}(x:oe a b)(y:oe b c):oe a c:=by
 induction y with
 |refl=>exact x
 |small _ h1 ih=>grind [small]
 |rule _ h1 h2 h3 ih=>grind [rule]
theorem Rch.big{a b:PS}(h:Rch a b):oe a b:=.small .refl h
def kr:Nat→PS→List cR→List cR×PS
 |0,st,l=>(l,st)
 |f+1,st,l=>if isD st pP=true∨isD st jo=true then
   if l.length=16∨st.rules=64 then(l,bE st true)
   else kr f (qg (isD st jo) {bh st with rules:=st.rules+1}).2 (l++ [(qg (isD st jo) {bh st with rules:=st.rules+1}).1])
  else(l,st)
abbrev PoF:=PS→bD×PS
def j7(pol:PoF)(deep:Bool):Nat→PS→List bD→List bD×PS
 |0,st,l=>(l,st)
 |f+1,st,l=>if isD st pQ=true∨isD st GO=true then
   if l.length=16∨deep=true then(l,bE st true)
   else j7 pol deep f (pol st).2 (l++ [(pol st).1])
  else(l,st)
def cY(st:PS):(Bool×Txt×Int×gj)×PS:=
 (((aY st mZ).1==2,(cm (aY st mZ).2).1,(aY (cm (aY st mZ).2).2 yb).1,(gW (aY (cm (aY st mZ).2).2 yb).2).1),dZ (gW (aY (cm (aY st mZ).2).2 yb).2).2 [123])
theorem EG(st:PS):Rch st (cY st).2:=((((mO st mZ).trans (uu _)).trans (mO _ yb)).trans (ID _)).trans (ng _ [123])
theorem Oy{st:PS}(h:WfP st):Ah st (cY st).2:=by
 have h1:=gK mZ h;have h2:=nH h1.1;have h3:=gK yb h2.1;have h4:=B2 h3.1;exact(((h1.trans h2).trans h3).trans h4).trans (jz [123] h4.1)
def qb(pol:PoF)(deep:Bool)(set:Bool)(st:PS):(List cR×List bD)×PS:=
 if set=true then(([],(j7 pol deep 17 st []).1),(j7 pol deep 17 st []).2)else(((kr 17 st []).1,[]),(kr 17 st []).2)
def gM:Nat→PoF
 |0,st=>(.mk [] false 0 [] [] [] [],st)
 |r+1,st=>(.mk (cY st).1.2.1 (cY st).1.1 (cY st).1.2.2.1 (cY st).1.2.2.2 (qb (gM r) (r==0) (cY st).1.1 (cY st).2).1.1 (qb (gM r) (r==0) (cY st).1.1 (cY st).2).1.2
   (gy (dZ (qb (gM r) (r==0) (cY st).1.1 (cY st).2).2 [125])).1,(gy (dZ (qb (gM r) (r==0) (cY st).1.1 (cY st).2).2 [125])).2)
theorem mX{st:PS}{a b:Txt}(h:isD st a=true∨isD st b=true):st.bad=0∧(aK st).kind≠7:=by
 grind [H7,dK]
theorem xZ{st:PS}(h:WfP st)(hk:(aK st).kind≠7):Ah st {bh st with rules:=st.rules+1}:=fk h hk
theorem Hz:∀(f:Nat) (st:PS) (l:List cR),WfP st→Ah st (kr f st l).2
 |0,st,l,h=> .refl h
 |f+1,st,l,h=>by
  unfold kr;split
  ·rename_i hi
   split
   ·exact lE true h
   ·have h1:=xZ h (mX hi).2
    have h2:=B1 (isD st jo) h1.1;exact(h1.trans h2).trans (Hz f _ _ h2.1)
  ·exact agv
theorem EL:∀(f:Nat) (st:PS) (l:List cR),oe st (kr f st l).2
 |0,st,l=> .refl
 |f+1,st,l=>by
  unfold kr;split
  ·rename_i hi
   split
   ·exact(rQ st true).big
   ·rename_i hn
    have h1:oe st {bh st with rules:=st.rules+1}:=.rule .refl (mX hi).1 ad9 (mX hi).2
    exact(h1.trans (zB (isD st jo) _).big).trans (EL f _ _)
  ·exact agB
theorem Hy{pol:PoF}(hp:∀st,WfP st→Ah st (pol st).2)(deep:Bool):∀(f:Nat) (st:PS) (l:List bD),WfP st→Ah st (j7 pol deep f st l).2
 |0,st,l,h=> .refl h
 |f+1,st,l,h=>by
  unfold j7;split
  ·split
   ·exact lE true h
   ·have h1:=hp st h
    exact h1.trans (Hy hp deep f _ _ h1.1)
  ·exact agv
theorem EI{pol:PoF}(hp:∀st,oe st (pol st).2)(deep:Bool):∀(f:Nat) (st:PS) (l:List bD),oe st (j7 pol deep f st l).2
 |0,st,l=> .refl
 |f+1,st,l=>by
  unfold j7;split
  ·split
   ·exact(rQ st true).big
   ·exact(hp st).trans (EI hp deep f _ _)
  ·exact agB
theorem BZ{pol:PoF}(hp:∀st,WfP st→Ah st (pol st).2)(deep set:Bool){st:PS}(h:WfP st):Ah st (qb pol deep set st).2:=by
 grind [qb,Hy,Hz]
theorem Nn{pol:PoF}(hp:∀st,oe st (pol st).2)(deep set:Bool)(st:PS):oe st (qb pol deep set st).2:=by
 grind [qb,EI,EL]
theorem xY:∀(r:Nat) (st:PS),WfP st→Ah st (gM r st).2
 |0,st,h=> .refl h
 |r+1,st,h=>by
  have h1:=Oy h;have h2:=BZ (xY r) (r==0) (cY st).1.1 h1.1;have h3:=jz [125] h2.1;exact((h1.trans h2).trans h3).trans (B0 h3.1)
theorem CE:∀(r:Nat) (st:PS),oe st (gM r st).2
 |0,st=> .refl
 |r+1,st=>(((EG st).big.trans (Nn (CE r) _ _ _)).trans (ng _ [125]).big).trans (EJ _).big
theorem vA{a b:PS}(h:oe a b)(h0:a.rules≤64):b.rules≤64:=by
 induction h with
 |refl=>omega
 |small _ h1 ih=>rw[(rR h1).2.2];omega
 |rule _ _ h2 _ ih=>grind
theorem vl:∀(f:Nat) (s:Txt) (a:Nat) (out l:List qj),qo f s a out= .ok l→∃pre,l=out++pre++ [⟨7,(a+s.length:Nat),0,[]⟩]∧pre.length≤s.length∧∀t∈pre,(a:Int)≤t.pos∧t.pos<((a+s.length:Nat):Int)
 |0,_,_,_,_,h=>by grind [qo]
 |f+1,[],a,out,l,h=>by
  grind [qo,Lexed.ok.injEq]
 |f+1,c::r,a,out,l,h=>by
  simp only[qo]at h;split at h
  ·obtain⟨pre,e1,e2,e3⟩:=vl f r (a+1) out l h
   grind
  ·split at h
   ·cases h
   ·rename_i hn
    have hle:=sw (c::r) aeg;obtain⟨pre,e1,e2,e3⟩:=vl f _ _ _ l h;have ee:((a+(bM (c::r)).2+((c::r).drop (bM (c::r)).2).length:Nat):Int)=((a+(c::r).length:Nat):Int):=aea;refine⟨{(bM (c::r)).1 with pos:=a}::pre,aea,aea,fun t ht=>?_⟩
    grind
theorem Bb{s:Txt}{ts:List qj}(h:pI s= .ok ts):∃pre,ts=pre++ [⟨7,s.length,0,[]⟩]∧pre.length≤s.length∧(∀t∈pre,0≤t.pos∧t.pos<(s.length:Int))∧s.length≤4096:=by
 grind [pI,vl]
theorem K0{s:Txt}{ts:List qj}(h:pI s= .ok ts)(x:Nat)(e p:Int):WfP ⟨ts,0,x,e,p⟩:=by
 obtain⟨pre,rfl,h2,_,h3⟩:=Bb h;refine⟨aeg,fun i hi hk=>?_,aea⟩
 grind
theorem yY:∀(f:Nat) (s:Txt) (a:Nat) (out:List qj) (e p:Int),qo f s a out= .bad e p→e=5∧0≤p∧(s.length<f→p≤((a+s.length:Nat):Int))
 |0,s,a,out,e,p,h=>by
  simp only[qo,Lexed.bad.injEq]at h;omega
 |f+1,[],a,out,e,p,h=>by grind [qo]
 |f+1,c::r,a,out,e,p,h=>by
  simp only[qo]at h;split at h
  ·obtain⟨h1,h2,h3⟩:=yY f r (a+1) out e p h
   grind
  ·split at h
   ·grind
   ·obtain⟨h1,h2,h3⟩:=yY f _ _ _ e p h
    grind [sw,List.length_drop]
theorem tW{s:Txt}{e a:Int}(h:pI s= .bad e a):(e=5∨e=6)∧0≤a∧a≤s.length:=by
 unfold pI at h;split at h
 ·grind
 ·obtain⟨h1,h2,h3⟩:=yY _ _ _ _ _ _ h
  omega
def oX:bD:=.mk [] false 0 [] [] [] []
def qn(s:Txt)(x:bD×PS):PS:=
 if(if(aK x.2).kind=7 then x.2 else bp x.2).bad=0∧gH x.1≠0 then bH (if(aK x.2).kind=7 then x.2 else bp x.2) 5 s.length else(if(aK x.2).kind=7 then x.2 else bp x.2)
def zn(s:Txt)(ts:List qj):bD×Int×Int:=
 if(qn s (gM 4 ⟨ts,0,0,0,0⟩)).bad=0 then((gM 4 ⟨ts,0,0,0,0⟩).1,0,0)else(oX,(qn s (gM 4 ⟨ts,0,0,0,0⟩)).bad,(qn s (gM 4 ⟨ts,0,0,0,0⟩)).place)
def aQ(s:Txt):bD×Int×Int:=match pI s with
 |.bad e a=>(oX,e,a)
 |.ok ts=>zn s ts
end Go.Bf
namespace Go.Proofs.YtbbadggejjgihaaGreatDoor
open Go Go.Ab Go.Bf
def Byt(g:FuncId)(p:UInt8→Bool):Prop:=∀(c:UInt8) (h:Heap),ai Tryz.prog g [.v (.int .u8 c.toNat)] h fun r h' =>r= .b (p c)∧h' =h
theorem mY:Byt 188 dgt:=fun c h=>by
 refine ad8 Tryz.func188 9 [.tmp 2] fun hwf=>?_
 cases d1:decide (48≤(c.toNat:Int))<;>cases d2:decide ((c.toNat:Int)≤57)
 all_goals
  simp only[go_sem,d1,d2];exact .same (.refl _) ⟨by simp only[dgt,d1,d2];rfl,rfl⟩
theorem JY:Byt 229 wrd:=fun c h=>by
 refine ad8 Tryz.func229 17 [.tmp 2] fun hwf=>?_
 cases d1:decide (97≤(c.toNat:Int))<;>cases d2:decide ((c.toNat:Int)≤122)<;>cases d3:dgt c<;>cases d4:((c.toNat:Int)==95)
 all_goals
  simp only[go_sem,d1,d2]
  first
   |exact .same (.refl _) ⟨by simp only[wrd,ltr,d1,d2,d3,d4];rfl,rfl⟩
   |(refine(mY c _).pthen ?_;simp only[go_sem,d3,d4];exact .same (.refl _) ⟨by simp only[wrd,ltr,d1,d2,d3,d4];rfl,rfl⟩)
theorem Ew:Byt 230 (fun c=> !tY c):=fun c h=>by
 refine ad8 Tryz.func230 17 [.tmp 2] fun hwf=>?_
 cases d1:decide (32≤(c.toNat:Int))<;>cases d2:decide ((c.toNat:Int)≤126)<;>cases d3:((c.toNat:Int)==34)<;>cases d4:((c.toNat:Int)==92)
 all_goals
  simp only[go_sem,d1,d2,d3,d4,bne];refine .same (.refl _) ⟨?_,rfl⟩;have e1:decide ((c.toNat:Int)<32)= !decide (32≤(c.toNat:Int)):=by
   grind
  have e2:decide (126<(c.toNat:Int))= !decide ((c.toNat:Int)≤126):=by
   grind
  simp only[tY,e1,e2,d1,d2,d3,d4];rfl
theorem Qm(p:UInt8→Bool)(s:Txt)(i:Nat)(hi:i<s.length)(h:i≤(s.takeWhile p).length)(hp:p s[i]=true):i+1≤(s.takeWhile p).length:=by
 exact aiZ
theorem Wn(p:UInt8→Bool)(s:Txt)(i:Nat)(hi:i<s.length)(h:i≤(s.takeWhile p).length)(hp:p s[i]=false):(s.takeWhile p).length=i:=by
 exact aiZ
theorem NC(g:FuncId)(p:UInt8→Bool)(hg:Byt g p)(s:Txt)(h:Heap):ai Tryz.prog 228 [.s s,.fn g []] h fun r h' =>r= .v (.int .i64 (s.takeWhile p).length)∧h' =h:=by
 refine ad8 Tryz.func228 20 [.tmp 4] fun hwf=>?_
 have hlen:=hwf (.s s) aeg;simp only[wfA,wf1,lim]at hlen;simp only[go_sem];refine .intro (fun m ρ h' =>h' =h∧∃i:Nat,i≤s.length∧m=s.length - i∧i≤(s.takeWhile p).length∧lk ρ 0=some (.s s)∧lk ρ 1=some (.fn g [])∧lk ρ 5=some (.i i)) s.length ?_ ?_
 ·refine⟨rfl,0,ad9,rfl,ad9,?_,?_,?_⟩<;>simp only[go_sem]
 ·rintro m ρ h' ⟨rfl,i,hi,rfl,hc,r0,r1,r5⟩
  cases d1:decide ((i:Int)<(s.length:Int))
  ·have hge:i=s.length:=by grind
   have:=kC p s;simp only[go_sem,r0,r5,d1];exact .same (.refl _) ⟨by grind [ax],rfl⟩
  ·have hlt:i<s.length:=by grind
   have w1:IntKind.i64.wrap ((i:Int)+1)=((i+1:Nat):Int):=aek;simp only[go_sem,r0,r1,r5,d1];refine .at i hlt ?_;simp only[go_sem,aL];refine(hg s[i] _).pthen ?_;cases d2:p s[i]
   ·have:=Wn p s i hlt hc d2
    simp only[go_sem,r5];exact .same (.refl _) ⟨by rw[this];rfl,rfl⟩
   ·simp only[go_sem,r5,w1]
    refine⟨_,?_,rfl,i+1,ad9,rfl,Qm p s i hlt hc d2,?_,?_,?_⟩
    ·omega
    all_goals simp only[go_sem,r0,r1]
theorem zh(s:Txt)(h:Heap):ai Tryz.prog 187 [.s s] h fun r h' =>r= .s (jT s)∧h' =h:=by
 refine ad8 Tryz.func187 12 [.tmp 2] fun hwf=>?_
 simp only[go_sem];refine(NC _ _ JY s _).pthen ?_;simp only[go_sem];refine⟨ad9,ad9,?_⟩;simp only[go_sem,Option.isSome_none,Option.isSome_some,tD,Int.toNat_natCast,rD];refine⟨by grind [kC,wrd],?_⟩
 refine(pK _ _).pthen ?_;cases d1:bn (s.takeWhile wrd)
 ·exact ajX
 ·exact ajX
theorem wr8{x:Int}(h:0≤x∧x<256):IntKind.u8.wrap x=x:=by
 grind [IntKind.wrap,IntKind.signed,IntKind.bits]
theorem tF(c:UInt8)(h:Heap):ai Tryz.prog 263 [.v (.int .u8 c.toNat)] h fun r h' =>r= .i (jV c)∧h' =h:=by
 refine ad8 Tryz.func263 20 [.tmp 2] fun hwf=>?_
 have hc:=c.toNat_lt;simp only[go_sem];refine(mY c _).pthen ?_;cases d1:dgt c
 case true=>
  have e1:48≤(c.toNat:Int)∧(c.toNat:Int)≤57:=by grind [dgt]
  have w1:IntKind.u8.wrap ((c.toNat:Int) - 48)=(c.toNat:Int) - 48:=wr8 ad9;have w2:IntKind.i64.wrap ((c.toNat:Int) - 48)=(c.toNat:Int) - 48:=aZ _ ad9;simp only[go_sem,w1,w2];exact .same (.refl _) ⟨by grind [jV,ax],rfl⟩
 cases d2:decide (97≤(c.toNat:Int))<;>cases d3:decide ((c.toNat:Int)≤102)
 case true.true=>
  have e2:=ad1 d2;have e3:=ad1 d3;have w1:IntKind.u8.wrap ((c.toNat:Int) - 97)=(c.toNat:Int) - 97:=wr8 ad9;have w2:IntKind.i64.wrap ((c.toNat:Int) - 97)=(c.toNat:Int) - 97:=aZ _ ad9;have w3:IntKind.i64.wrap ((c.toNat:Int) - 97+10)=(c.toNat:Int) - 87:=aek;simp only[go_sem,d2,d3,w1,w2,w3];exact .same (.refl _) ⟨by grind [jV,ax],rfl⟩
 all_goals
  simp only[go_sem,d2,d3];simp only[decide_eq_true_eq,decide_eq_false_iff_not]at d2 d3;refine .same (.refl _) ⟨?_,rfl⟩
  grind [Int,jV,ax]
theorem HW(c:UInt8): -1≤jV c∧jV c≤15:=by
 grind [jV,dgt]
theorem NY(n:Nat)(h:n<256):((UInt8.ofNat n).toNat:Int)=n:=by
 simp;omega
theorem S1(s:Txt)(h:Heap):ai Tryz.prog 231 [.s s] h fun r h' =>(∃x:Int,r= .tup [.v (.int .u8 x),.v (.bool (tZ s).isSome)]∧∀c,tZ s=some c→x=c.toNat)∧h' =h:=by
 refine ad8 Tryz.func231 38 [.tmp 2,.tmp 3] fun hwf=>?_
 have hlen:=hwf (.s s) aeg;simp only[wfA,wf1,lim]at hlen;cases d0:decide ((s.length:Int)<3)
 case true=>
  have e0:s.length<3:=aea;have:tZ s=none:=by
   match s,e0 with
   | [],_=>rfl
   | [_],_=>rfl
   | [_,_],_=>rfl
  simp only[go_sem,d0];exact .same (.refl _) ⟨⟨0,by rw[this];rfl,fun c hc=>aea⟩,rfl⟩
 have e0:3≤s.length:=aea;obtain⟨b,x,y,t,rfl⟩:∃b x y t,s=b::x::y::t:=by
  match s,e0 with
  |b::x::y::t,_=>exact⟨b,x,y,t,rfl⟩
 simp only[List.length_cons]at d0;have bad:tZ (b::x::y::t)=none→∃z:Int,AV.tup [.v (.int .u8 0),.b false]= .tup [.v (.int .u8 z),.v (.bool (tZ (b::x::y::t)).isSome)]∧∀c,tZ (b::x::y::t)=some c→z=c.toNat:=
  fun e=>⟨0,aea,fun c hc=>aea⟩
 cases d1:((b.toNat:Int) !=92)
 case true=>
  have e1:b≠92:=by rintro rfl;grind
  simp only[go_sem,d0];refine .at 0 aeg ?_;simp only[go_sem,aL,List.getElem_cons_zero,d1];exact ajH
 have e1:b=92:=by
  have:(b.toNat:Int)=92:=aea;exact UInt8.toNat_inj.1 aea
 simp only[go_sem,d0];refine .at 0 aeg ?_;simp only[go_sem,aL,List.getElem_cons_zero,d1];refine .at 1 aeg ?_;simp only[go_sem,aL,List.getElem_cons_zero,List.getElem_cons_succ];refine(tF x _).pthen ?_;cases d2:decide (jV x<0)
 case true=>
  have e2:=ad1 d2;simp only[go_sem,d2];exact ajH
 have e2:0≤jV x:=aea;simp only[go_sem,d2];refine .at 2 aeg ?_;simp only[go_sem,aL,List.getElem_cons_zero,List.getElem_cons_succ];refine(tF y _).pthen ?_;cases d3:decide (jV y<0)
 case true=>
  have e3:=ad1 d3;simp only[go_sem,d3];exact ajH
 have e3:0≤jV y:=aea;have hx:=HW x;have hy:=HW y;have w1:IntKind.i64.wrap (16*jV x)=16*jV x:=aZ _ ad9;have w2:IntKind.i64.wrap (16*jV x+jV y)=16*jV x+jV y:=aZ _ ad9;have w3:IntKind.u8.wrap (16*jV x+jV y)=((UInt8.ofNat (16*jV x+jV y).toNat).toNat:Int):=by
  grind [wr8,NY]
 simp only[go_sem,d3];refine .quiet aec ?_;simp only[go_sem];refine .at 1 aeg ?_;simp only[go_sem,aL,List.getElem_cons_zero,List.getElem_cons_succ];refine⟨_,tF x _,?_⟩;simp only[go_sem];refine .at 2 aeg ?_;simp only[go_sem,aL,List.getElem_cons_zero,List.getElem_cons_succ];refine⟨_,tF y _,?_⟩;simp only[go_sem,w1,w2,w3];refine(Ew _ _).pthen ?_;simp only[go_sem];refine .same (.refl _) ⟨⟨((UInt8.ofNat (16*jV x+jV y).toNat).toNat:Int),?_,fun c hc=>?_⟩,rfl⟩
 ·grind [tY,UInt8.ofNat,jV,tZ,ax]
 grind [tZ]
theorem u5z:(U 5).sz=1:=aeo
theorem u5b:(U 5).bytes=1:=aeo
theorem nK(l:List UInt8):Sized 1 (l.map aL):=fun z hz=>by
 obtain⟨c,_,rfl⟩:=List.mem_map.1 hz;rfl
theorem IM(s:Txt)(hs:s.length≤10000)(h:Heap):ai Tryz.prog 190 [.s s] h fun r h' =>r= .tup [.s (zP s).1,.v (.int .i64 (zP s).2)]∧h' =h:=by
 refine ad8 Tryz.func190 50 [.tmp 2,.tmp 3] fun hwf=>?_
 simp only[go_sem];refine .intro (fun m ρ h' =>∃(i f:Nat) (y:AV) (out:Txt),Acc U 5 h h' y (out.map aL)∧out.length≤i∧m=s.length+1 - i∧i≤s.length+3∧s.length≤f+i∧uz f (s.drop i) i out=zP s∧lk ρ 0=some (.s s)∧lk ρ 4=some y∧lk ρ 5=some (.i i)) s.length ?_ ?_
 ·refine⟨1,s.length,.sl [] .full,[],.full (.refl _),aeg,ad9,ad9,ad9,rfl,?_,?_,?_⟩<;>simp only[go_sem]
 ·rintro m ρ h' ⟨i,f,y,out,hy,hoi,rfl,hi,hf,he,r0,r4,r5⟩
  cases d1:decide ((i:Int)<(s.length:Int))
  ·have hge:s.length≤i:=by grind
   have hd:s.drop i= []:=List.drop_of_length_le hge;have:zP s=([],0):=by
    rw[←he,hd];cases f<;>rfl
   simp only[go_sem,r0,r5,d1];exact .mk _ (.refl _) hy.1 ⟨by rw[this];rfl,rfl⟩
  have hlt:i<s.length:=aea;obtain⟨f,rfl⟩:∃g,f=g+1:=⟨f - 1,ad9⟩;have hdr:s.drop i=s[i]::s.drop (i+1):=List.drop_eq_getElem_cons hlt;rw[hdr]at he;simp only[uz]at he;have w1:IntKind.i64.wrap ((i:Int)+1)=((i+1:Nat):Int):=aek;have w3:IntKind.i64.wrap ((i:Int)+3)=((i+3:Nat):Int):=aek;simp only[go_sem,r0,r5,d1];refine .at i hlt ?_;cases d2:((s[i].toNat:Int)==34)
  case true=>
   have e2:s[i]=34:=by
    have:(s[i].toNat:Int)=34:=aea;exact UInt8.toNat_inj.1 aea
   rw[if_pos e2]at he;cases d3:decide (64<(out.length:Int))
   case true=>
    have e3:64<out.length:=aea;rw[if_pos e3]at he;simp only[go_sem,r4,aL,d2,hy.len,adZ,d3];exact ajC
   have e3:¬64<out.length:=aea;rw[if_neg e3]at he;simp only[go_sem,r4,aL,d2,hy.len,adZ,d3];obtain⟨q,rfl⟩:=hy.row;simp only[go_sem,r5,w1];exact ajC
  have e2:s[i]≠34:=by intro e;simp_all
  rw[if_neg e2]at he;simp only[go_sem,r0,r5,aL,d2];refine .at i hlt ?_;simp only[go_sem,aL];refine(Ew _ _).pthen ?_;cases d4:tY s[i]
  ·rw[if_pos d4]at he
   simp only[go_sem,r0,r4,r5,d4];refine .at i hlt ?_;simp only[go_sem,aL];refine hy.app (zs:=[aL s[i]]) aed aed (fun k hk=>hk) (by grind [u5z,nK]) (by rw[u5z];exact nK [s[i]]) (by grind [u5b]) fun y' h2 hy' hk2=>?_
   simp only[go_sem,r5,w1];refine⟨_,?_,i+1,f,y',out++ [s[i]],aea,aea,rfl,ad9,ad9,he,?_,?_,?_⟩
   ·omega
   all_goals simp only[go_sem,r0]
  ·rw[if_neg aea]at he
   simp only[go_sem,r0,r5,d4];refine⟨ad9,?_⟩;simp only[go_sem,Option.isSome_none,Option.isSome_some,mA,Int.toNat_natCast];refine⟨ad9,ad9,?_⟩;refine(S1 _ _).mono fun x h2 hx=>?_
   obtain⟨⟨v,rfl,hv⟩,rfl⟩:=hx;rw[←hdr]at he;cases e5:tZ (s.drop i)with
   |none=>
    rw[e5]at he;simp only[go_sem,Option.isSome_none];exact ajC
   |some b=>
    rw[e5]at he;have hvb:=hv b e5;subst hvb;have h3:=El e5;simp only[List.length_drop]at h3;simp only[go_sem,r4,Option.isSome_some];refine hy.app (zs:=[aL b]) aed aed (fun k hk=>hk) (by grind [u5z,nK]) (by rw[u5z];exact nK [b]) (by grind [u5b]) fun y' h2 hy' hk2=>?_
    simp only[go_sem,r5,w3];refine⟨_,?_,i+3,f,y',out++ [b],aea,aea,rfl,ad9,ad9,?_,?_,?_,?_⟩
    ·omega
    ·simp_all
    all_goals simp only[go_sem,r0]
end Go.Proofs.YtbbadggejjgihaaGreatDoor
namespace Go.Bf
open Go Go.Ab
theorem HG(c:UInt8):dgt c=true↔48≤c.toNat∧c.toNat≤57:=by
 simp only[dgt,Bool.and_eq_true,decide_eq_true_eq];omega
def Jj(acc:Nat)(l:Txt):Nat:=l.foldl (fun n c=>n*10+(c.toNat - 48)) acc
theorem AR(acc:Nat)(c:UInt8)(r:Txt):Jj acc (c::r)=Jj (acc*10+(c.toNat - 48)) r:=List.foldl_cons ..
theorem Di:∀(l:Txt) (acc:Nat),acc≤Jj acc l
 | [],acc=>Nat.le_refl _
 |c::r,acc=>by rw[AR];exact Nat.le_trans ad9 (Di r (acc*10+(c.toNat - 48)))
theorem uf:∀(l:Txt) (acc:Nat),(∀c∈l,dgt c=true)→acc<18446744073709551616→
  Lib.parseUint10 acc l=if Jj acc l<18446744073709551616 then .ok (Jj acc l)else .range
 | [],acc,_,ha=>by
  have:Jj acc []=acc:=rfl;rw[this,if_pos ha];rfl
 |c::r,acc,hd,ha=>by
  have hc:=(HG c).1 (hd c aeg);have hm:=Di r (acc*10+(c.toNat - 48));rw[AR];unfold Lib.parseUint10;rw[if_pos hc];split
  ·rw[if_neg ad9]
  ·split
   ·rw[if_neg ad9]
   ·exact uf r _ aea ad9
def qi(neg:Bool):Txt:=if neg then [45]else []
theorem vU(neg:Bool)(d:Txt)(h0:d≠ [])(hd:∀c∈d,dgt c=true):
  Lib.atoiAll (qi neg++d)=if -9223372036854775808≤(if neg then -(mB d:Int)else(mB d:Int))∧(if neg then -(mB d:Int)else(mB d:Int))≤9223372036854775807 then .ok (if neg then -(mB d:Int)else(mB d:Int))else .range:=by
 have hp:Lib.parseMag d=if mB d<18446744073709551616 then .ok (mB d)else .range:=by
  unfold Lib.parseMag;rw[if_neg h0];exact uf d 0 hd aed
 cases neg
 ·obtain⟨c,r,rfl⟩:=List.exists_cons_of_ne_nil h0
  have hc:=(HG c).1 (hd c aeg);simp only[qi,Bool.false_eq_true,if_false,List.nil_append,Lib.atoiAll];rw[if_neg ad9,hp];have e45:(c.toNat=45)=False:=aea;simp only[e45,not_false_eq_true,true_and,false_and,if_false];split
  ·rename_i h;split at h
   ·cases h
   ·cases h
  ·rename_i h;split at h
   ·cases h
   ·rw[if_neg ad9]
  ·rename_i u h;split at h
   ·cases h
    split
    ·rw[if_neg ad9]
    ·rw[if_pos ad9]
   ·cases h
 ·simp only[qi,if_true,List.cons_append,List.nil_append,Lib.atoiAll]
  rw[if_pos (.inr aed),hp];simp only[show((45:UInt8).toNat=45)=True by simp,not_true_eq_false,false_and,if_false,true_and,if_true]
  split
  ·rename_i h;split at h
   ·cases h
   ·cases h
  ·rename_i h;split at h
   ·cases h
   ·rw[if_neg ad9]
  ·rename_i u h;split at h
   ·cases h
    split
    ·rw[if_neg ad9]
    ·rw[if_pos ad9]
   ·cases h
theorem Az(s:Txt):∀c∈s.takeWhile dgt,dgt c=true:=fun c hc=>by
 induction s with
 |nil=>cases hc
 |cons x r ih=>
  simp only[List.takeWhile_cons]at hc
  grind
end Go.Bf
namespace Go.Proofs
open Go.Shelf
def Tryz.DZ:Go.Shelf.Ren:=⟨fun|137=>191|217=>232|266=>264|n=>n,fun|9=>9|5=>5|3=>3|n=>n,fun|n=>n⟩
theorem Tryz.Ic:Go.Proofs.Lays.n137 Tryz.prog Tryz.DZ:={
 mixed:=aeo
 f137:=Tryz.func191.trans aeo
 f217:=Tryz.func232.trans aeo
 f266:=Tryz.func264.trans aeo
 t3:=Tryz.underlying3
 a3:=Tryz.isAgg3
 z3:=Tryz.sizeOf3
 v3:=Tryz.zeroValue3
 t5:=Tryz.underlying5
 a5:=Tryz.isAgg5
 z5:=Tryz.sizeOf5
 v5:=Tryz.zeroValue5
 t9:=Tryz.underlying9
 a9:=Tryz.isAgg9
 z9:=Tryz.sizeOf9
 v9:=Tryz.zeroValue9}
open Go.RowKit in
theorem Tryz.strings_IndexByte(s:ByteArray)(c:Int)(w:World):
  Calls Tryz.prog 191 #[.string s,.int .u8 c] w fun e w' =>e= .returned (.int .i64 (Lib.indexByte s.data.toList c.toNat.toUInt8))∧w' =w:=Any.strings_IndexByte Tryz.Ic s c w
def Tryz.Cq:Go.Shelf.Ren:=⟨fun|172=>95|244=>151|245=>152|247=>201|279=>202|280=>203|281=>204|282=>205|287=>242|316=>243|171=>63|205=>244|321=>270|322=>271|243=>127|246=>173|283=>222|284=>223|285=>224|286=>225|129=>258|317=>257|318=>259|319=>260|320=>261|337=>285|338=>286|n=>n,fun|9=>9|3=>3|75=>188|76=>189|4=>4|5=>5|167=>287|37=>77|0=>0|85=>288|2=>2|168=>290|53=>60|175=>325|46=>221|210=>328|127=>314|145=>366|143=>364|21=>21|171=>309|173=>312|212=>346|51=>147|20=>20|213=>347|232=>398|233=>399|80=>238|n=>n,fun|15=>1|16=>2|17=>3|18=>4|19=>5|n=>n⟩
theorem Tryz.D3:Go.Proofs.LaysC.n172 Tryz.prog Tryz.Cq:={
 mixed:=aeo
 f129:=Tryz.func258.trans aeo
 f171:=Tryz.func63.trans aeo
 f172:=Tryz.func95.trans aeo
 f205:=Tryz.func244.trans aeo
 f243:=Tryz.func127.trans aeo
 f244:=Tryz.func151.trans aeo
 f245:=Tryz.func152.trans aeo
 f246:=Tryz.func173.trans aeo
 f247:=Tryz.func201.trans aeo
 f279:=Tryz.func202.trans aeo
 f280:=Tryz.func203.trans aeo
 f281:=Tryz.func204.trans aeo
 f282:=Tryz.func205.trans aeo
 f283:=Tryz.func222.trans aeo
 f284:=Tryz.func223.trans aeo
 f285:=Tryz.func224.trans aeo
 f286:=Tryz.func225.trans aeo
 f287:=Tryz.func242.trans aeo
 f316:=Tryz.func243.trans aeo
 f317:=Tryz.func257.trans aeo
 f318:=Tryz.func259.trans aeo
 f319:=Tryz.func260.trans aeo
 f320:=Tryz.func261.trans aeo
 f321:=Tryz.func270.trans aeo
 f322:=Tryz.func271.trans aeo
 f337:=Tryz.func285.trans aeo
 f338:=Tryz.func286.trans aeo
 t0:=Tryz.underlying0
 a0:=Tryz.isAgg0
 z0:=Tryz.sizeOf0
 v0:=Tryz.zeroValue0
 t2:=Tryz.underlying2
 a2:=Tryz.isAgg2
 z2:=Tryz.sizeOf2
 v2:=Tryz.zeroValue2
 t3:=Tryz.underlying3
 a3:=Tryz.isAgg3
 z3:=Tryz.sizeOf3
 v3:=Tryz.zeroValue3
 t4:=Tryz.underlying4
 a4:=Tryz.isAgg4
 z4:=Tryz.sizeOf4
 v4:=Tryz.zeroValue4
 t5:=Tryz.underlying5
 a5:=Tryz.isAgg5
 z5:=Tryz.sizeOf5
 v5:=Tryz.zeroValue5
 t9:=Tryz.underlying9
 a9:=Tryz.isAgg9
 z9:=Tryz.sizeOf9
 v9:=Tryz.zeroValue9
 t20:=Tryz.underlying20
 a20:=Tryz.isAgg20
 z20:=Tryz.sizeOf20
 v20:=Tryz.zeroValue20
 t21:=Tryz.underlying21
 a21:=Tryz.isAgg21
 z21:=Tryz.sizeOf21
 v21:=Tryz.zeroValue21
 t37:=Tryz.underlying77
 a37:=Tryz.isAgg77
 z37:=Tryz.sizeOf77
 v37:=Tryz.zeroValue77
 t46:=Tryz.underlying221
 a46:=Tryz.isAgg221
 z46:=Tryz.sizeOf221
 v46:=Tryz.zeroValue221
 t51:=Tryz.underlying147
 a51:=Tryz.isAgg147
 z51:=Tryz.sizeOf147
 v51:=Tryz.zeroValue147
 t53:=Tryz.underlying60
 a53:=Tryz.isAgg60
 z53:=Tryz.sizeOf60
 v53:=Tryz.zeroValue60
 t75:=Tryz.underlying188
 a75:=Tryz.isAgg188
 z75:=Tryz.sizeOf188
 v75:=Tryz.zeroValue188
 t76:=Tryz.underlying189
 a76:=Tryz.isAgg189
 z76:=Tryz.sizeOf189
 v76:=Tryz.zeroValue189
 t85:=Tryz.underlying288
 a85:=Tryz.isAgg288
 z85:=Tryz.sizeOf288
 v85:=Tryz.zeroValue288
 t127:=Tryz.underlying314
 a127:=Tryz.isAgg314
 z127:=Tryz.sizeOf314
 v127:=Tryz.zeroValue314
 t143:=Tryz.underlying364
 a143:=Tryz.isAgg364
 z143:=Tryz.sizeOf364
 v143:=Tryz.zeroValue364
 t145:=Tryz.underlying366
 a145:=Tryz.isAgg366
 z145:=Tryz.sizeOf366
 v145:=Tryz.zeroValue366
 t167:=Tryz.underlying287
 a167:=Tryz.isAgg287
 z167:=Tryz.sizeOf287
 v167:=Tryz.zeroValue287
 t168:=Tryz.underlying290
 a168:=Tryz.isAgg290
 z168:=Tryz.sizeOf290
 v168:=Tryz.zeroValue290
 t171:=Tryz.underlying309
 a171:=Tryz.isAgg309
 z171:=Tryz.sizeOf309
 v171:=Tryz.zeroValue309
 t173:=Tryz.underlying312
 a173:=Tryz.isAgg312
 z173:=Tryz.sizeOf312
 v173:=Tryz.zeroValue312
 t175:=Tryz.underlying325
 a175:=Tryz.isAgg325
 z175:=Tryz.sizeOf325
 v175:=Tryz.zeroValue325
 t210:=Tryz.underlying328
 a210:=Tryz.isAgg328
 z210:=Tryz.sizeOf328
 v210:=Tryz.zeroValue328
 t212:=Tryz.underlying346
 a212:=Tryz.isAgg346
 z212:=Tryz.sizeOf346
 v212:=Tryz.zeroValue346
 t213:=Tryz.underlying347
 a213:=Tryz.isAgg347
 z213:=Tryz.sizeOf347
 t232:=Tryz.underlying398
 a232:=Tryz.isAgg398
 z232:=Tryz.sizeOf398
 v232:=Tryz.zeroValue398
 t233:=Tryz.underlying399
 a233:=Tryz.isAgg399
 z233:=Tryz.sizeOf399
 v233:=Tryz.zeroValue399
 g15:=aec
 g16:=aec
 g17:=aec
 g18:=aec
 g19:=aec
 t80:=Tryz.underlying238
 a80:=Tryz.isAgg238
 z80:=Tryz.sizeOf238
 v80:=Tryz.zeroValue238
 i0:=aec
 i2:=aec
 i3:=aec
 i4:=aec
 i5:=aec
 i9:=aec
 i20:=aec
 i21:=aec
 i37:=aec
 i46:=aec
 i51:=aec
 i53:=aec
 i75:=aec
 i76:=aec
 i80:=aec
 i85:=aec
 i127:=aec
 i143:=aec
 i145:=aec
 i167:=aec
 i168:=aec
 i171:=aec
 i173:=aec
 i175:=aec
 i210:=aec
 i212:=aec
 i232:=aec
 i233:=aec
 m15:=aeo
 m16:=aeo
 m17:=aeo
 m18:=aeo
 m19:=aeo
 c0:=aec
 c2:=aec
 c3:=aec
 c4:=aec
 c5:=aec
 c9:=aec
 c20:=aec
 c21:=aec
 c37:=aec
 c46:=aec
 c51:=aec
 c53:=aec
 c75:=aec
 c76:=aec
 c80:=aec
 c85:=aec
 c127:=aec
 c143:=aec
 c145:=aec
 c167:=aec
 c168:=aec
 c171:=aec
 c173:=aec
 c175:=aec
 c210:=aec
 c212:=aec
 c213:=aec
 c232:=aec
 c233:=aec}
open Go.RowKit in
theorem Tryz.strconv_Atoi_ok(s:ByteArray)(hmax:s.size≤9223372036854775806)(v:Int)(h:Lib.atoiAll s.data.toList= .ok v)(w:World):
  Calls Tryz.prog 95 #[.string s] w fun e w' =>e= .returned (.tuple #[.int .i64 v,.nilIface])∧(w' =w∨∃t,w' =Lib.bytesWorld w 5 t):=Any.strconv_Atoi_ok Tryz.D3 s hmax v h w
open Go.RowKit in
theorem Tryz.strconv_Atoi_range(s:ByteArray)(hlim:s.size≤281474976710656)(h:Lib.atoiAll s.data.toList= .range)(ev:Value)(w:World)(hv:w.cell? ⟨2,0,none⟩=some ev)(hev:ev= .nilIface∨∃te pe,ev= .iface te pe):
  Calls Tryz.prog 95 #[.string s] w fun e w' =>∃N,e= .returned (.tuple #[.int .i64 (Lib.atoiSat s.data.toList),.iface 290 (.pointer (some ⟨N,0,none⟩))])∧w.heap.size≤N∧w'.heap[N]? =some (.cells #[.string ⟨#[65,116,111,105]⟩,.string s,ev] 328 (0,0))∧Below w.heap.size w w' :=Any.strconv_Atoi_range Tryz.D3 s hlim h ev w hv hev
end Go.Proofs
namespace Go.Proofs.YtbbadggejjgihaaGreatDoor
open Go Go.Ab Go.Bf Go.RowKit
theorem Kx(s:Txt)(hs:s.length≤100000)(w:World):Calls Tryz.prog 228 #[.string ⟨s.toArray⟩,.func (.func 188) #[] #[]] w fun e w' =>e= .returned (.int .i64 (s.takeWhile dgt).length)∧Below w.heap.size w w' :=by
 refine Go.Ab.ai.calls (args:=[.s s,.fn 188 []]) ⟨_,Tryz.func228,aeo,rfl⟩ ((NC _ _ mY s cV).mono fun _ _ h=>h.1) rfl (fun i hi=>?_)
 rcases i with _|_|i
 ·exact .s s (by grind [lim,Nat])
 ·exact .fn _ [] #[] rfl (fun i hi=>by cases hi)
 ·simp at hi;omega
def AD(neg:Bool)(d:Txt):Int:=if neg then -(mB d:Int)else(mB d:Int)
def inI(neg:Bool)(d:Txt):Prop:= -9223372036854775808≤(if neg then -(mB d:Int)else(mB d:Int))∧(if neg then -(mB d:Int)else(mB d:Int))≤9223372036854775807
instance (neg:Bool) (d:Txt):Decidable (inI neg d):=inferInstanceAs (Decidable (_∧_))
theorem zJ(neg:Bool):(qi neg).length≤1:=by cases neg<;>decide
theorem B6(neg:Bool)(d:Txt)(h0:d≠ [])(hd:∀c∈d,dgt c=true)(hlen:d.length≤10000)(S:ByteArray)(hS:S=⟨(qi neg++d).toArray⟩)(hr:inI neg d)(W:World):
  Calls Tryz.prog 95 #[.string S] W fun e w' =>e= .returned (.tuple #[.int .i64 (AD neg d),.nilIface])∧Below W.heap.size W w' :=by
 have hl:=zJ neg;have hsz:S.size≤10001:=by grind [ByteArray.size]
 have ha:Lib.atoiAll S.data.toList= .ok (AD neg d):=by
  rw[hS];rw[vU neg d h0 hd];exact if_pos hr
 refine(Tryz.strconv_Atoi_ok S ad9 _ ha W).mono ?_
 rintro e w' ⟨rfl,rfl|⟨t,rfl⟩⟩
 ·exact⟨rfl,.refl _ _⟩
 ·exact⟨rfl,Lib.bytesWorld_below W _ t⟩
theorem C2(neg:Bool)(d:Txt)(h0:d≠ [])(hd:∀c∈d,dgt c=true)(hlen:d.length≤10000)(S:ByteArray)(hS:S=⟨(qi neg++d).toArray⟩)(hr:¬inI neg d)(W:World)(ev:Value)(hv:W.cell? ⟨2,0,none⟩=some ev)(hev:ev= .nilIface∨∃te pe,ev= .iface te pe):
  Calls Tryz.prog 95 #[.string S] W fun e w' =>(∃(x:Int) (N:Nat),e= .returned (.tuple #[.int .i64 x,.iface 290 (.pointer (some ⟨N,0,none⟩))]))∧Below W.heap.size W w' :=by
 have hl:=zJ neg;have hsz:S.size≤10001:=by grind [ByteArray.size]
 have ha:Lib.atoiAll S.data.toList= .range:=by
  rw[hS];rw[vU neg d h0 hd];exact if_neg hr
 refine(Tryz.strconv_Atoi_range S ad9 ha ev W hv hev).mono ?_
 grind
set_option maxHeartbeats 1000000 in
theorem Ek(neg:Bool)(s:Txt)(hs:s.length≤10000)(w:World)(ev:Value)(hv:w.cell? ⟨2,0,none⟩=some ev)(hev:ev= .nilIface∨∃te pe,ev= .iface te pe)(hg:2<w.heap.size):
  Calls Tryz.prog 189 #[.string ⟨(qi neg).toArray⟩,.string ⟨s.toArray⟩] w fun e w' =>e= .returned (.tuple #[.int .i64 (eY neg s).1,.int .i64 ((eY neg s).2:Nat)])∧Below w.heap.size w w' :=by
 have hle:=kC dgt s;obtain⟨d,ed⟩:∃d,s.takeWhile dgt=d:=⟨_,rfl⟩;have htk:s.take d.length=d:=by grind [rD]
 have hrun:=Kx s ad9 w;have hall:=Az s;rw[ed]at hrun hle hall
 go_enter Tryz.func189,Tryz.ntmps189
 by_cases h0:d.length=0
 ·have e0:d= []:=by grind
  have en:eY neg s=(0,0):=by simp_all [eY,if_pos]
  go_wp2_with (go_at_call 228;refine hrun.mono ?_)
  rintro e W0 ⟨rfl,b0⟩
  rw[h0]
  go_wp2
  go_ret2
  simp_all
 ·have e0:d≠ []:=by grind
  go_wp2_with (go_at_call 228;refine hrun.mono ?_)
  rintro e W0 ⟨rfl,b0⟩
  have hpos:0<d.length:=ad9;have hs0:0<s.length:=ad9;have hsz:0<(⟨s.toArray⟩:ByteArray).size:=by grind [ByteArray.size]
  have hg0:(⟨s.toArray⟩:ByteArray)[0]=s[0]:=rfl;have hgn:∀x:UInt8,(s.head? =some x)↔s[0]=x:=fun x=>by
   rw[List.head?_eq_getElem?,List.getElem?_eq_getElem hs0];simp
  cases d0:((d.length:Int)==0)
  case true=>exact absurd aea h0
  have hS:(⟨(qi neg).toArray⟩:ByteArray)++(⟨s.toArray⟩:ByteArray).extract 0 d.length=⟨(qi neg++d).toArray⟩:=by
   apply ByteArray.ext
   simp_all
  have hcat:¬9223372036854775807<List.length (qi neg)+d.length:=by grind [zJ]
  cases d1:decide (1<(d.length:Int))
  ·have f1:¬1<d.length:=by grind
   have en:eY neg s=if inI neg d then(AD neg d,d.length)else(0,0):=by
    unfold eY;rw[ed,if_neg aea];rfl
   have hv0:W0.cell? ⟨2,0,none⟩=some ev:=by rw[b0.cell hg];omega
   by_cases hr:inI neg d
   ·rw[if_pos hr]at en
    go_wp2_with (go_at_call 95;refine(B6 neg d e0 hall ad9 _ aeo hr _).mono ?_)
    rintro e W1 ⟨rfl,b1⟩
    go_wp2
    go_ret2
    rw[en];exact afU
   ·rw[if_neg hr]at en
    go_wp2_with (go_at_call 95;refine(C2 neg d e0 hall ad9 _ aeo hr _ ev hv0 hev).mono ?_)
    rintro e W1 ⟨⟨x,N,rfl⟩,b1⟩
    go_wp2
    go_ret2
    rw[en];exact afU
  ·have f1:1<d.length:=by grind
   cases d2:((s[0].toNat:Int)==48)
   ·have f2:s.head?≠some 48:=by
     rw[ne_eq,hgn];intro e;simp_all
    have en:eY neg s=if inI neg d then(AD neg d,d.length)else(0,0):=by
     unfold eY;rw[ed,if_neg aea];rfl
    have hv0:W0.cell? ⟨2,0,none⟩=some ev:=by rw[b0.cell hg];omega
    by_cases hr:inI neg d
    ·rw[if_pos hr]at en
     go_wp2_with (go_at_call 95;refine(B6 neg d e0 hall ad9 _ aeo hr _).mono ?_)
     rintro e W1 ⟨rfl,b1⟩
     go_wp2
     go_ret2
     rw[en];exact afU
    ·rw[if_neg hr]at en
     go_wp2_with (go_at_call 95;refine(C2 neg d e0 hall ad9 _ aeo hr _ ev hv0 hev).mono ?_)
     rintro e W1 ⟨⟨x,N,rfl⟩,b1⟩
     go_wp2
     go_ret2
     rw[en];exact afU
   ·have f2:s.head? =some 48:=by
     rw[hgn];have:(s[0].toNat:Int)=48:=aea;exact UInt8.toNat_inj.1 aea
    have en:eY neg s=(0,0):=by simp_all [eY,if_pos]
    go_wp2
    go_ret2
    simp_all
def iQ(h:Heap):Prop:=∃ev:Value,(ev= .nilIface∨∃te pe,ev= .iface te pe)∧Tab h 2 [ev]
theorem iQ.sub{h h' :Heap}(he:iQ h)(hs:Ab.Sub h h'):iQ h' :=by
 obtain⟨ev,h1,h2⟩:=he;exact⟨ev,h1,h2.sub hs⟩
theorem mL(neg:Bool)(s:Txt)(hs:s.length≤10000)(h:Heap)(he:iQ h):ai Tryz.prog 189 [.s (qi neg),.s s] h fun r h' =>r= .tup [.v (.int .i64 (eY neg s).1),.i ((eY neg s).2:Nat)]∧h' =h:=by
 obtain⟨ev,hev,id,hi⟩:=he;refine .lib ⟨_,Tryz.func189,aeo,rfl⟩ fun c vs hs' g h1 h2=>?_
 obtain⟨u,v,rfl⟩:∃u v,vs= #[u,v]:=by
  match vs,h1 with
  |⟨[u,v]⟩,_=>exact⟨u,v,rfl⟩
 have e1:u= .string ⟨(qi neg).toArray⟩:=((h2 0 aeg).lQ).1;have e2:v= .string ⟨s.toArray⟩:=((h2 1 aeg).lQ).1;subst e1;subst e2
 obtain⟨_,t,fr,hh⟩:=g.ro id _ _ (hs' _ _ hi);have hc:c.w.cell? ⟨2,0,none⟩=some ev:=by grind [World.cell?]
 refine(Ek neg s hs c.w ev hc hev (cZ hh)).mono ?_;exact ajd
end Go.Proofs.YtbbadggejjgihaaGreatDoor
namespace Go.Bf
open Go Go.Ab
def marks:Txt:=[123,125,40,41,46,44,59,61,60,62,33]
theorem Ai:∀n:Fin 256,decide (0≤Lib.indexByte marks (UInt8.ofNat n.val))=Ec (UInt8.ofNat n.val):=aed
theorem rN(c:UInt8):decide (0≤Lib.indexByte marks c)=Ec c:=by
 have:=Ai ⟨c.toNat,c.toNat_lt⟩;simpa using this
end Go.Bf
namespace Go.Proofs.YtbbadggejjgihaaGreatDoor
open Go Go.Ab Go.Bf
theorem DO(l:Txt)(c:UInt8)(h:Heap):ai Tryz.prog 191 [.s l,.v (.int .u8 c.toNat)] h fun r h' =>r= .i (Lib.indexByte l c)∧h' =h:=by
 refine .lib ⟨_,Tryz.func191,aeo,rfl⟩ fun cx vs hs' g h1 h2=>?_
 obtain⟨u,v,rfl⟩:∃u v,vs= #[u,v]:=by
  match vs,h1 with
  |⟨[u,v]⟩,_=>exact⟨u,v,rfl⟩
 have e1:u= .string ⟨l.toArray⟩:=((h2 0 aeg).lQ).1;have e2:v= .int .u8 c.toNat:=(h2 1 aeg).bQ;subst e1;subst e2
 refine(Tryz.strings_IndexByte ⟨l.toArray⟩ c.toNat cx.w).mono ?_;exact ajk
theorem I5(s:Txt)(h0:s≠ [])(hs:s.length≤4096)(h:Heap)(he:iQ h):ai Tryz.prog 141 [.s s] h fun r h' =>r= .tup [fH (bM s).1,.i ((bM s).2:Nat)]∧h' =h:=by
 refine ad8 Tryz.func141 106 [.cell 2 181,.tmp 3] fun hwf=>?_
 obtain⟨c,r,rfl⟩:=List.exists_cons_of_ne_nil h0;have hsl:r.length≤4095:=by simpa using hs
 simp only[go_sem];intro i2 hi2;simp only[go_sem];intro i4 hi4;have n24:=aI hi4;have g2:∀(f:Heap) (x:Option Blk),upd f i4 x i2=f i2:=fun f x=>ag f x n24.symm
 have g4:∀(f:Heap) (x:Option Blk),upd f i2 x i4=f i4:=fun f x=>ag f x n24
 have hsub:Ab.Sub h (upd (upd h i2 (some (.obj [.i 0,.i 0,.i 0,.s []] 181))) i4 (some (.obj [.i 0,.i 0,.i 0,.s []] 181))):=(Sub.aj hi2).trans (.aj hi4);have he2:=he.sub hsub;have hi4h:h i4=none:=by rw[ag _ _ n24]at hi4;exact hi4
 simp only[go_sem];refine .at 0 aeg ?_;cases la:decide (97≤(c.toNat:Int))
 ·have hl:ltr c=false:=by simp only[ltr,la,Bool.false_and]
  simp only[go_sem,aL,List.getElem_cons_zero,la];exact ail
 ·cases lb:decide ((c.toNat:Int)≤122)
  ·have hl:ltr c=false:=by simp only[ltr,lb,Bool.and_false]
   simp only[go_sem,aL,List.getElem_cons_zero,la,lb];exact ail
  ·have hl:ltr c=true:=by simp only[ltr,la,lb];rfl
   simp only[go_sem,aL,List.getElem_cons_zero,la,lb];refine(zh _ _).pthen ?_;simp only[go_sem,g2,ah];exact .mk _ (.refl _) aeb ⟨by simp[bM,hl,fH,ax],rfl⟩
theorem Qp:(U 181).sz=4:=aeo
theorem Wt:(U 181).bytes=40:=aeo
theorem pY(l:List qj):Sized 4 (l.map fH):=fun z hz=>by
 obtain⟨c,_,rfl⟩:=List.mem_map.1 hz;rfl
def Gn:Lexed→AV
 |.bad e a=> .tup [.sl [] .no,.i e,.i a]
 |.ok l=> .tup [.sl (l.map fH) .no,.i 0,.i 0]
def Le(s:Txt)(h:Heap)(m:Nat)(ρ:Env)(h' :Heap):Prop:=
 ∃(i f:Nat) (y:AV) (out:List qj) (id:Nat),Acc U 181 h h' y (out.map fH)∧out.length≤i∧i≤s.length∧m=s.length - i∧s.length<f+i∧s.length≤4096∧h id=none∧(∃c0 c1 c2 c3,h' id=some (.obj [c0,c1,c2,c3] 181))∧qo f (s.drop i) i out=pI s∧lk ρ 0=some (.s s)∧lk ρ 5=some y∧lk ρ 6=some (.ptr id 0)∧lk ρ 7=some (.i i)
theorem yc(s:Txt)(h:Heap)(he:iQ h):ai Tryz.prog 86 [.s s] h fun r h' =>r=Gn (pI s)∧h' =h:=by
 refine ai.of_wp hU Tryz.func86 rfl aeo 52 rfl [.tmp 2,.tmp 3,.tmp 4] rfl (adY rfl) ?_;refine .one hU hm ?_;simp only[go_sem];refine WP.NG hU hm 0 (Le s h) rfl ?_ ?_
 ·rintro m ρ h' ⟨i,f,y,out,id,hy,hoi,hi,rfl,hf,hs,hid,⟨c0,c1,c2,c3,hob⟩,hl,r0,r5,r6,r7⟩
  refine .vc hU hm ?_;cases d1:((i:Int)==(s.length:Int))
  case true=>
   have e1:i=s.length:=aea;subst e1;obtain⟨f,rfl⟩:∃g,f=g+1:=⟨f - 1,ad9⟩;rw[List.drop_length]at hl;simp only[qo]at hl;simp only[go_sem,r0,r5,r7,d1];refine hy.app (zs:=[fH ⟨7,s.length,0,[]⟩]) aed aed (fun k hk=>hk) (by grind [Qp,pY]) (by rw[Qp];exact pY [⟨7,s.length,0,[]⟩]) (by grind [Wt]) fun y' h2 hy' hk2=>?_
   simp only[go_sem];obtain⟨q,rfl⟩:=hy'.row;refine .mk _ (BP _ _ _ _) hy'.1 ⟨?_,rfl⟩
   grind [Gn]
  have e1:i≠s.length:=aea;have hlt:i<s.length:=ad9;obtain⟨f,rfl⟩:∃g,f=g+1:=⟨f - 1,ad9⟩;have hdr:s.drop i=s[i]::s.drop (i+1):=aeg;have w1:IntKind.i64.wrap ((i:Int)+1)=((i+1:Nat):Int):=aek;have hl2:=hl;rw[hdr]at hl2;simp only[qo]at hl2;rw[←hdr]at hl2;have blank:qB s[i]=true→∃m',m' <s.length - i∧True:=fun _=>⟨s.length - (i+1),ad9,trivial⟩
  cases d2:((s[i].toNat:Int)==32)
  case true=>
   have hb:qB s[i]=true:=by simp only[qB,d2,Bool.true_or]
   rw[if_pos hb]at hl2;simp only[go_sem,r0,r7,d1];refine .at i hlt ?_;simp only[go_sem,r7,aL,d2,w1];exact ajc
  cases d3:((s[i].toNat:Int)==10)
  case true=>
   have hb:qB s[i]=true:=by simp only[qB,d3,Bool.or_true]
   rw[if_pos hb]at hl2;simp only[go_sem,r0,r7,d1];refine .at i hlt ?_;simp only[go_sem,r0,r7,aL,d2];refine .at i hlt ?_;simp only[go_sem,r7,aL,d3,w1];exact ajc
  have hb:¬qB s[i]=true:=by grind [qB]
  rw[if_neg hb]at hl2;have hne:s.drop i≠ []:=fun e=>by have:=congrArg List.length e;simp at this;omega
  have hle:=sw (s.drop i) hne;have hdl:(s.drop i).length=s.length - i:=aeg;have hbo:=fun hh eh=>I5 (s.drop i) hne ad9 hh eh
  obtain⟨t,n,etn⟩:∃t n,bM (s.drop i)=(t,n):=⟨_,_,rfl⟩;rw[etn]at hbo hl2 hle;simp only[fH]at hbo hl2 hle;simp only[go_sem,r0,r7,d1];refine .at i hlt ?_;simp only[go_sem,r0,r7,aL,d2];refine .at i hlt ?_;simp only[go_sem,r0,r7,aL,d3,mA,Option.isSome_none,Option.isSome_some,Int.toNat_natCast];refine⟨ad9,ad9,ad9,?_⟩;refine(hbo _ (he.sub hy.1)).pthen ?_;cases d4:((n:Int)==0)
  case true=>
   have e4:n=0:=aea;rw[if_pos e4]at hl2;simp only[go_sem,r6,r7,hob,d4];refine .mk _ (BP _ _ _ _) (hy.1.put hid _) ⟨?_,rfl⟩;rw[←hl2];rfl
  have e4:n≠0:=aea;rw[if_neg e4]at hl2;have w2:IntKind.i64.wrap ((i:Int)+(n:Int))=((i+n:Nat):Int):=aek;simp only[go_sem,r5,r6,r7,hob,d4];refine(hy.put hid hob _).app (zs:=[fH {t with pos:=i}]) aed aed (fun k hk=>hk) (by grind [Qp,pY]) (by rw[Qp];exact pY [{t with pos:=i}]) (by grind [Wt]) fun y' h2 hy' hk2=>?_
  simp only[go_sem,r7,w2];refine⟨s.length - (i+n),ad9,i+n,f,y',out++ [{t with pos:=i}],id,aea,aea,ad9,rfl,ad9,hs,hid,⟨_,_,_,_,hk2 _ _ _ (ah ..)⟩,?_,?_,?_,?_,?_⟩
  ·grind [List.drop_drop]
  all_goals simp only[go_sem,r0,r6]
 ·intro nx
  cases d0:decide (4096<(s.length:Int))
  case true=>
   have e0:s.length>4096:=aea;refine .one hU hm ?_;simp only[go_sem,d0];exact .mk (.tup [.sl [] .no,.i 6,.i 4096]) (fI (.tup [.sl [] .full,.i 6,.i 4096])) (.refl _) ⟨by rw[pI,if_pos e0];rfl,rfl⟩
  have e0:¬s.length>4096:=aea;refine .one hU hm ?_;simp only[go_sem,d0];refine .one hU hm ?_;simp only[go_sem];refine .one hU hm ?_;simp only[go_sem];intro id hid;simp only[go_sem];refine .one hU hm ?_;simp only[go_sem];refine .one hU hm ?_;simp only[go_sem];refine nx (s.length - 0) _ _ ⟨0,s.length+1,_,[],id,.full (.aj hid),aeg,ad9,rfl,ad9,ad9,hid,⟨_,_,_,_,ah ..⟩,by simp_all [pI,if_neg],?_,?_,?_,?_⟩<;>simp only[go_sem]
def PO(st:PS):Blk:=.obj [.sl (st.ts.map fH) .no,.i st.pos,.i st.rules,.i st.bad,.i st.place] 178
def PC(f:FuncId)(args:List AV)(st:PS)(R:AV)(st' :PS):Prop:=∀(h:Heap) (id:Nat),h id=some (PO st)→ai Tryz.prog f (.ptr id 0::args) h fun r h' =>r=R∧h' =upd h id (some (PO st'))
theorem PC.go{f:FuncId}{args:List AV}{st st' :PS}{R:AV}(hc:PC f args st R st'){h:Heap}{id:Nat}{Q:AV→Heap→Prop}(hid:h id=some (PO st))(k:Q R (upd h id (some (PO st')))):ai Tryz.prog f (.ptr id 0::args) h Q:=
 (hc h id hid).mono fun r h' ⟨e1,e2⟩=>agL
theorem bF{h:Heap}{id:Nat}{b:Option Blk}(e:h id=b):upd h id b=h:=by
 grind [ah,ag]
theorem rH(st:PS)(e p:Int):PC 91 [.i e,.i p] st (.tup []) (bH st e p):=fun h id hid=>by
 refine ad8 Tryz.func91 19 [] fun hwf=>?_
 have g:=hid;unfold PO at g;cases d1:(st.bad==0)
 ·have e1:st.bad≠0:=by grind
  simp only[go_sem,g,d1];exact .mk _ (.refl _) (.refl _) ⟨rfl,by rw[bH,if_neg e1,bF hid]⟩
 ·have e1:st.bad=0:=by grind
  simp only[go_sem,g,d1];exact .mk _ (.refl _) (.refl _) ⟨rfl,by rw[bH,if_pos e1];rfl⟩
theorem mE(st:PS)(hw:WfP st):PC 88 [] st (fH (aK st)) st:=fun h id hid=>by
 refine ad8 Tryz.func88 13 [.cell 2 181] fun hwf=>?_
 have g:=hid;unfold PO at g;simp only[go_sem];intro i2 hi2;have n2:id≠i2:=fun e=>aea
 simp only[go_sem,g,ak,n2];refine⟨.of aec,?_⟩;refine .at st.pos (by simpa using hw.1) aen ?_
 simp only[go_sem,ad0,fH];refine .mk _ (.refl _) (.aj hi2) ⟨by rw[DL hw.1];rfl,(bF hid).symm⟩
theorem lS(st:PS)(hw:WfP st):PC 89 [] st (.tup []) (bp st):=fun h id hid=>by
 refine ad8 Tryz.func89 7 [] fun hwf=>?_
 simp only[go_sem];refine(mE st hw).go hid ?_;rw[bF hid];simp only[go_sem,fH];refine(rH st 5 _).go hid ?_;exact aiT
theorem cP(st:PS)(b:Bool)(hw:WfP st):PC 195 [.b b] st (.tup []) (bE st b):=fun h id hid=>by
 refine ad8 Tryz.func195 10 [] fun hwf=>?_
 cases b
 ·simp only[go_sem]
  exact agR
 simp only[go_sem];refine(mE st hw).go hid ?_;rw[bF hid];simp only[go_sem,fH];refine(rH st 6 _).go hid ?_;exact aiT
theorem tT(st:PS)(s:Txt)(hw:WfP st):PC 196 [.s s] st (.b (isD st s)) st:=fun h id hid=>by
 refine ad8 Tryz.func196 29 [.tmp 4] fun hwf=>?_
 have g:=hid;unfold PO at g;simp only[go_sem];refine(mE st hw).go hid ?_;rw[bF hid];simp only[go_sem,fH];intro i2 hi2;have n2:id≠i2:=fun e=>aea
 cases d1:(st.bad==0)<;>cases d2:((aK st).s==s)<;>cases d3:((aK st).kind==1)<;>cases d4:((aK st).kind==6)
 all_goals
  simp only[go_sem,g,ak,n2,d1,d2,d3,d4];exact .mk _ (.refl _) (.aj hi2) ⟨by simp only[isD,d1,d2,d3,d4];rfl,rfl⟩
theorem kD(st:PS)(s:Txt)(hw:WfP st):PC 193 [.s s] st (.v (.bool (cp st s).1)) (cp st s).2:=fun h id hid=>by
 refine ad8 Tryz.func193 18 [.tmp 4] fun hwf=>?_
 have g:=hid;unfold PO at g;simp only[go_sem];refine(tT st s hw).go hid ?_;rw[bF hid];cases d1:isD st s
 ·have e:cp st s=(false,st):=by grind [cp]
  simp only[go_sem];exact .mk _ (.refl _) (.refl _) ⟨ahW,by grind [bF]⟩
 ·have e:cp st s=(true,bh st):=by grind [cp]
  have w1:IntKind.i64.wrap ((st.pos:Int)+1)=((st.pos+1:Nat):Int):=afO;simp only[go_sem,g,w1];exact .mk _ (.refl _) (.refl _) ⟨ahW,ahW⟩
theorem lf(st:PS)(s:Txt)(hw:WfP st):PC 145 [.s s] st (.tup []) (dZ st s):=fun h id hid=>by
 refine ad8 Tryz.func145 10 [] fun hwf=>?_
 simp only[go_sem];refine(kD st s hw).go hid ?_;cases d1:isD st s
 ·have e:cp st s=(false,st):=by grind [cp]
  rw[e,bF hid];simp only[go_sem];refine(lS st hw).go hid ?_;exact ajN
 ·have e:cp st s=(true,bh st):=by grind [cp]
  rw[e];exact ajN
theorem uk(st:PS)(hw:WfP st):PC 143 [] st (.s (cm st).1) (cm st).2:=fun h id hid=>by
 refine ad8 Tryz.func143 25 [.tmp 2] fun hwf=>?_
 have g:=hid;unfold PO at g;have w1:IntKind.i64.wrap ((st.pos:Int)+1)=((st.pos+1:Nat):Int):=afO;simp only[go_sem];refine(mE st hw).go hid ?_;rw[bF hid];simp only[go_sem,fH];intro i2 hi2;have n2:id≠i2:=fun e=>aea
 cases d1:((aK st).kind !=1)
 case true=>
  have e1:(aK st).kind≠1:=aea;have en:cm st=([],bp st):=by grind [cm]
  simp only[go_sem,d1];have hid2:upd h i2 (some (.obj [.v (.int .i64 (aK st).kind),.v (.int .i64 (aK st).pos),.v (.int .i64 (aK st).n),.s (aK st).s] 181)) id=some (PO st):=aeK;refine(lS st hw).go hid2 ?_;have hb:(bp st).bad≠0:=by
   grind [bp,bH,Int]
  have d2:((bp st).bad !=0)=true:=aea;simp only[go_sem,PO,d2];exact .mk _ (.refl _) (Sub.both (.aj hi2) _ _) ⟨aeZ,aea⟩
 have e1:(aK st).kind=1:=aea;cases d2:(st.bad !=0)
 case true=>
  have e2:st.bad≠0:=aea;have en:cm st=([],st):=by grind [cm]
  simp only[go_sem,g,ak,n2,d1,d2];exact .mk _ (.refl _) (.aj hi2) ⟨aeZ,by grind [bF]⟩
 have e2:st.bad=0:=aea;have en:cm st=((aK st).s,bh st):=by grind [cm]
 simp only[go_sem,g,ak,n2,n2.symm,d1,d2,w1];exact .mk _ (.refl _) (Sub.both (.aj hi2) _ _) ⟨aeZ,by rw[en];try rfl⟩
theorem PC.run{f:FuncId}{args:List AV}{st st' :PS}{R:AV}(hc:PC f args st R st'){G:Heap}{id:Nat}{Q:AV→Heap→Prop}(k:Q R (upd G id (some (PO st')))):ai Tryz.prog f (.ptr id 0::args) (upd G id (some (PO st))) Q:=
 hc.go (ah ..) (by rw[eu];exact k)
theorem PC.of{f:FuncId}{args:List AV}{st st' :PS}{R:AV}(hk:∀(G:Heap) (id:Nat),ai Tryz.prog f (.ptr id 0::args) (upd G id (some (PO st))) fun r h' =>r=R∧h' =upd G id (some (PO st'))):PC f args st R st' :=fun h id hid=>by
 have:=hk h id;rw[bF hid]at this;exact aeR
theorem cy{α:Type}(f:Nat→α){i j:Nat}(x y:α)(h:i≠j):upd (upd f i x) j y=upd (upd f j y) i x:=by
 grind [ag,ah]
theorem Cm{s:Txt}:∀ {ws:List Txt} {i:Nat},vg s ws=some i→i<ws.length
 |w::r,i,h=>by
  simp only[vg]at h;split at h
  ·grind
  ·cases hr:vg s r with
   |none=>grind
   |some j=>rw[hr]at h;cases h;have:=Cm hr;simp;omega
theorem HX{s:Txt}:∀ {ws:List Txt} (i:Nat) (hi:i<ws.length),(∀j (hj:j<ws.length),j<i→ws[j]≠s)→ws[i]=s→vg s ws=some i
 |w::r,0,_,_,h=>by grind [vg]
 |w::r,i+1,hi,hb,h=>by
  have h0:=hb 0 aeg ad9;simp only[List.getElem_cons_zero]at h0;simp only[vg,if_neg h0];rw[HX i aea aea aea];rfl
theorem A9{s:Txt}:∀ {ws:List Txt},(∀j (hj:j<ws.length),ws[j]≠s)→vg s ws=none
 | [],_=>rfl
 |w::r,hb=>by
  have h0:=hb 0 aeg;simp only[List.getElem_cons_zero]at h0;simp only[vg,if_neg h0];rw[A9 (fun j hj=>by have:=hb (j+1) aea;simpa using this)]
  rfl
def Sz(o:Option Nat):Int:=match o with
 |some i=>i
 |none=> -1
theorem JX(ws:List Txt)(q:Perm)(s:Txt)(hl:ws.length≤1000)(h:Heap):ai Tryz.prog 192 [.sl (ws.map AV.s) q,.s s] h fun r h' =>r= .i (Sz (vg s ws))∧h' =h:=by
 refine ad8 Tryz.func192 19 [.tmp 4] fun hwf=>?_
 simp only[go_sem,adZ];refine .intro (fun m ρ h' =>h' =h∧∃i:Nat,i≤ws.length∧m=ws.length - i∧(∀j (hj:j<ws.length),j<i→ws[j]≠s)∧lk ρ 0=some (.sl (ws.map AV.s) q)∧lk ρ 1=some (.s s)∧lk ρ 7=some (.i ws.length)∧lk ρ 8=some (.i i)) ws.length ?_ ?_
 ·refine⟨rfl,0,ad9,rfl,fun j _ hj=>ad9,?_,?_,?_,?_⟩<;>simp only[go_sem]
 ·rintro m ρ h' ⟨rfl,i,hi,rfl,hc,r0,r1,r7,r8⟩
  simp only[go_sem,r7,r8];refine .intro (fun e=>?_) (fun e=>?_)
  ·have hlt:i<ws.length:=ad6 e
   have w1:IntKind.i64.wrap ((i:Int)+1)=((i+1:Nat):Int):=aek;simp only[go_sem,r0,r1,r8];refine .at i aea aen ?_;cases d1:(s==ws[i])
   ·have e1:ws[i]≠s:=by grind
    simp only[go_sem,r8,ad0,d1,w1];refine⟨_,?_,rfl,i+1,ad9,rfl,fun j hj hji=>?_,?_,?_,?_,?_⟩
    ·omega
    ·grind
    all_goals simp only[go_sem,r0,r1,r7]
   ·have e1:ws[i]=s:=by grind
    simp only[go_sem,ad0,d1];exact .same (.refl _) ⟨by rw[HX i hlt hc e1];rfl,rfl⟩
  ·have hge:i=ws.length:=by grind
   subst hge;simp only[go_sem];exact .same (.refl _) ⟨by rw[A9 fun j hj=>hc j hj hj];rfl,rfl⟩
theorem oJ(st:PS)(ws:List Txt)(q:Perm)(hl:ws.length≤1000)(hw:WfP st):PC 142 [.sl (ws.map AV.s) q] st (.v (.int .i64 (aY st ws).1)) (aY st ws).2:=.of fun G id=>by
 refine ad8 Tryz.func142 28 [.tmp 4] fun hwf=>?_
 simp only[go_sem];refine(mE st hw).run ?_;simp only[go_sem,fH];intro i2 hi2;have n2:=aI hi2;have hG2:G i2=none:=aeK;have c2:∀(f:Heap) (x y:Option Blk),upd (upd f id x) i2 y=upd (upd f i2 y) id x:=fun f x y=>cy f x y n2.symm
 cases d1:((aK st).kind==1)
 ·have e1:(aK st).kind≠1:=by grind
  have en:aY st ws=(0,bp st):=by grind [aY]
  simp only[go_sem,c2,ak,n2,d1];exact aiQ
 have e1:(aK st).kind=1:=aea;simp only[go_sem,c2,ak,n2,d1];refine(JX ws q _ hl _).pthen ?_;cases ei:vg (aK st).s ws with
 |none=>
  have en:aY st ws=(0,bp st):=by grind [aY]
  have dm:decide ((0:Int)≤ -1)=false:=aed;simp only[go_sem,Sz,dm];exact aiQ
 |some i=>
  have hil:=Cm ei;have d2:decide (0≤(i:Int))=true:=aeg;have w1:IntKind.i64.wrap ((i:Int)+1)=((i:Int)+1):=aek;simp only[go_sem,Sz,d2,ak,n2];refine(kD st _ hw).run ?_;cases d3:(st.bad==0)
  ·have e3:st.bad≠0:=by grind
   have et:cp st (aK st).s=(false,st):=by grind [cp,isD]
   have en:aY st ws=(0,bp st):=by grind [aY]
   rw[et];simp only[go_sem];exact aiQ
  ·have e3:st.bad=0:=by grind
   have et:cp st (aK st).s=(true,bh st):=by grind [cp,isD]
   have en:aY st ws=((i:Int)+1,bh st):=by grind [aY]
   rw[et];simp only[go_sem,w1];exact .mk _ (.refl _) (Sub.both (.aj hG2) _ _) ⟨aeZ,by rw[en]⟩
theorem Lz(st:PS)(hw:WfP st):PC 287 [] st (C3 (ga st).1) (ga st).2:=.of fun G id=>by
 have h1:=gK vW hw;have h2:=jz [46] h1.1;have h3:=nH h2.1;refine ad8 Tryz.func287 17 [.cell 2 170] fun hwf=>?_
 simp only[go_sem];intro i2 hi2;have n2:=aI hi2;have hG2:G i2=none:=aeK;have c2:∀(f:Heap) (x y:Option Blk),upd (upd f id x) i2 y=upd (upd f i2 y) id x:=fun f x y=>cy f x y n2.symm
 simp only[go_sem,c2];intro i3 hi3;have n3:=aI hi3;have hi3' :=hi3;rw[ag _ _ n3]at hi3';have n32:=aI hi3';have hG3:G i3=none:=aeK;have c3:∀(f:Heap) (x y:Option Blk),upd (upd f id x) i3 y=upd (upd f i3 y) id x:=fun f x y=>cy f x y n3.symm
 have c23:∀(f:Heap) (x y:Option Blk),upd (upd f i3 x) i2 y=upd (upd f i2 y) i3 x:=fun f x y=>cy f x y n32
 have m32:¬i3=i2:=n32;have m23:¬i2=i3:=n32.symm;simp only[go_sem,c3];refine(oJ st vW .full aed hw).run ?_;simp only[go_sem,c3,ak,n3];refine(lf _ [46] h1.1).run ?_;simp only[go_sem];refine(uk _ h2.1).run ?_;simp only[go_sem,c3,ak,n3];refine(kD _ [33] h3.1).run ?_;simp only[go_sem,c2,c3,c23,ak,n2,n3,m23];exact .mk _ (.refl _) (Sub.both aeA _ _) ⟨rfl,rfl⟩
theorem uG(st:PS)(hw:WfP st):PC 288 [] st (aS (aD st).1) (aD st).2:=.of fun G id=>by
 refine ad8 Tryz.func288 56 [.cell 2 32] fun hwf=>?_
 have w1:IntKind.i64.wrap ((st.pos:Int)+1)=((st.pos+1:Nat):Int):=afO;simp only[go_sem];intro i2 hi2;have n2:=aI hi2;have hG2:G i2=none:=by rw[ag _ _ n2]at hi2;exact hi2
 have c2:∀(f:Heap) (x y:Option Blk),upd (upd f id x) i2 y=upd (upd f i2 y) id x:=fun f x y=>cy f x y n2.symm
 simp only[go_sem,c2];refine(mE st hw).run ?_;simp only[go_sem,fH];intro i3 hi3;have n3:=aI hi3;have hi3' :=hi3;rw[ag _ _ n3]at hi3';have n32:=aI hi3';have hG3:G i3=none:=by rw[ag _ _ n32]at hi3';exact hi3'
 have c3:∀(f:Heap) (x y:Option Blk),upd (upd f id x) i3 y=upd (upd f i3 y) id x:=fun f x y=>cy f x y n3.symm
 have c23:∀(f:Heap) (x y:Option Blk),upd (upd f i3 x) i2 y=upd (upd f i2 y) i3 x:=fun f x y=>cy f x y n32
 have m32:¬i3=i2:=n32;have m23:¬i2=i3:=n32.symm;simp only[go_sem,c3,ak,n3];intro i4 hi4;have n4:=aI hi4;have hi4' :=hi4;rw[ag _ _ n4]at hi4';have n43:=aI hi4';have hi4'' :=hi4';rw[ag _ _ n43]at hi4'';have n42:=aI hi4'';have hG4:G i4=none:=by rw[ag _ _ n42]at hi4'';exact hi4''
 have c4:∀(f:Heap) (x y:Option Blk),upd (upd f id x) i4 y=upd (upd f i4 y) id x:=fun f x y=>cy f x y n4.symm
 have c24:∀(f:Heap) (x y:Option Blk),upd (upd f i4 x) i2 y=upd (upd f i2 y) i4 x:=fun f x y=>cy f x y n42
 have c34:∀(f:Heap) (x y:Option Blk),upd (upd f i4 x) i3 y=upd (upd f i3 y) i4 x:=fun f x y=>cy f x y n43
 have m42:¬i4=i2:=n42;have m24:¬i2=i4:=n42.symm;have m43:¬i4=i3:=n43;have m34:¬i3=i4:=n43.symm;cases k2:((aK st).kind==2)
 case true=>
  have e2:(aK st).kind=2:=by simpa using k2
  have ev:fZ st=(⟨2,(aK st).n,(aK st).s⟩,st):=by simp[fZ,e2]
  cases kb:(st.bad !=0)
  ·have eb:st.bad=0:=by simpa using kb
   have en:aD st=(⟨2,(aK st).n,(aK st).s⟩,bh st):=afx;simp only[go_sem,c2,c4,c23,c24,ak,n2,n3,n4,m23,m24,m34,k2,PO,kb,w1];exact air
  ·have eb:st.bad≠0:=by simpa using kb
   have en:aD st=(⟨0,0,[]⟩,st):=afx;simp only[go_sem,c2,c4,c23,c24,ak,n2,n3,n4,m23,m24,m34,k2,PO,kb];exact air
 have e2:(aK st).kind≠2:=by simpa using k2
 cases k3:((aK st).kind==3)
 case true=>
  have e3:(aK st).kind=3:=by simpa using k3
  have ev:fZ st=(⟨4,(aK st).n,(aK st).s⟩,st):=by simp[fZ,e3]
  cases kb:(st.bad !=0)
  ·have eb:st.bad=0:=by simpa using kb
   have en:aD st=(⟨4,(aK st).n,(aK st).s⟩,bh st):=afx;simp only[go_sem,c2,c4,c23,c24,ak,n2,n3,n4,m23,m24,m34,k2,k3,PO,kb,w1];exact air
  ·have eb:st.bad≠0:=by simpa using kb
   have en:aD st=(⟨0,0,[]⟩,st):=afx;simp only[go_sem,c2,c4,c23,c24,ak,n2,n3,n4,m23,m24,m34,k2,k3,PO,kb];exact air
 have e3:(aK st).kind≠3:=by simpa using k3
 cases k4:((aK st).kind==4)
 case true=>
  have e4:(aK st).kind=4:=by simpa using k4
  have ev:fZ st=(⟨5,(aK st).n,(aK st).s⟩,st):=by simp[fZ,e4]
  cases kb:(st.bad !=0)
  ·have eb:st.bad=0:=by simpa using kb
   have en:aD st=(⟨5,(aK st).n,(aK st).s⟩,bh st):=afx;simp only[go_sem,c2,c4,c23,c24,ak,n2,n3,n4,m23,m24,m34,k2,k3,k4,PO,kb,w1];exact air
  ·have eb:st.bad≠0:=by simpa using kb
   have en:aD st=(⟨0,0,[]⟩,st):=afx;simp only[go_sem,c2,c4,c23,c24,ak,n2,n3,n4,m23,m24,m34,k2,k3,k4,PO,kb];exact air
 have e4:(aK st).kind≠4:=by simpa using k4
 cases k5:((aK st).kind==5)
 case true=>
  have e5:(aK st).kind=5:=by simpa using k5
  have ev:fZ st=(⟨3,(aK st).n,(aK st).s⟩,st):=by simp[fZ,e5]
  cases kb:(st.bad !=0)
  ·have eb:st.bad=0:=by simpa using kb
   have en:aD st=(⟨3,(aK st).n,(aK st).s⟩,bh st):=afx;simp only[go_sem,c2,c4,c23,c24,ak,n2,n3,n4,m23,m24,m34,k2,k3,k4,k5,PO,kb,w1];exact air
  ·have eb:st.bad≠0:=by simpa using kb
   have en:aD st=(⟨0,0,[]⟩,st):=afx;simp only[go_sem,c2,c4,c23,c24,ak,n2,n3,n4,m23,m24,m34,k2,k3,k4,k5,PO,kb];exact air
 have e5:(aK st).kind≠5:=by simpa using k5
 simp only[go_sem,c4,ak,n3,n4,m34,k2,k3,k4,k5];refine(tT st xg hw).run ?_;cases kt:isD st xg
 case true=>
  have ev:fZ st=(⟨1,1,[]⟩,st):=by simp[fZ,e2,e3,e4,e5,kt]
  cases kb:(st.bad !=0)
  ·have eb:st.bad=0:=by simpa using kb
   have en:aD st=(⟨1,1,[]⟩,bh st):=afx;simp only[go_sem,c2,c4,c23,c24,ak,n2,n4,m23,m24,PO,kb,w1];exact air
  ·have eb:st.bad≠0:=by simpa using kb
   have en:aD st=(⟨0,0,[]⟩,st):=afx;simp only[go_sem,c2,c4,c23,c24,ak,n2,n4,m23,m24,PO,kb];exact air
 simp only[go_sem];refine(tT st qL hw).run ?_;cases kf:isD st qL
 case true=>
  have ev:fZ st=(⟨1,0,[]⟩,st):=by simp[fZ,e2,e3,e4,e5,kt,kf]
  cases kb:(st.bad !=0)
  ·have eb:st.bad=0:=by simpa using kb
   have en:aD st=(⟨1,0,[]⟩,bh st):=afx;simp only[go_sem,c2,c4,c23,c24,ak,n2,n4,m23,m24,PO,kb,w1];exact air
  ·have eb:st.bad≠0:=by simpa using kb
   have en:aD st=(⟨0,0,[]⟩,st):=afx;simp only[go_sem,c2,c4,c23,c24,ak,n2,n4,m23,m24,PO,kb];exact air
 have ev:fZ st=(⟨0,(aK st).n,(aK st).s⟩,bp st):=by simp[fZ,e2,e3,e4,e5,kt,kf]
 have en:aD st=(⟨0,0,[]⟩,bp st):=by simp[aD,ev,rU]
 have kb:((bp st).bad !=0)=true:=by simpa using rU st
 simp only[go_sem];refine(lS st hw).run ?_;simp only[go_sem,c2,c23,c24,ak,n2,m23,m24,PO,kb];exact air
def uc:List Txt:=[[61],[60],[62]]
theorem S2{st:PS}(i:Nat)(hi:i<uc.length)(hb:∀j (hj:j<uc.length),j<i→isD st uc[j]=false)(h:isD st uc[i]=true):opP st=((i:Int)+1,bh st):=by
 have h3:i<3:=hi;rcases(by omega:i=0∨i=1∨i=2)with rfl|rfl|rfl
 ·simp only[opP,show isD st [61]=true from h,if_true];rfl
 ·simp only[opP,show isD st [61]=false from hb 0 aed aed,show isD st [60]=true from h,if_true];rfl
 ·simp only[opP,show isD st [61]=false from hb 0 aed aed,show isD st [60]=false from hb 1 aed aed,show isD st [62]=true from h,if_true];rfl
theorem MZ{st:PS}(hb:∀j (hj:j<uc.length),isD st uc[j]=false):opP st=(0,bp st):=by
 simp only[opP,show isD st [61]=false from hb 0 aed,show isD st [60]=false from hb 1 aed,show isD st [62]=false from hb 2 aed];rfl
theorem Ig(st:PS)(hw:WfP st):PC 265 [] st (dR (gG st).1) (gG st).2:=.of fun G id=>by
 have h1:=BY hw;obtain⟨a,st1,e1⟩:∃a st1,ga st=(a,st1):=⟨_,_,rfl⟩;have hat:=Lz st hw;rw[e1]at h1 hat;simp only at h1 hat;refine ad8 Tryz.func265 32 [.cell 2 233] fun hwf=>?_
 simp only[go_sem];intro i2 hi2;have n2:=aI hi2;have hG2:G i2=none:=aeK;have c2:∀(f:Heap) (x y:Option Blk),upd (upd f id x) i2 y=upd (upd f i2 y) id x:=fun f x y=>cy f x y n2.symm
 simp only[go_sem,c2];refine hat.run ?_;simp only[go_sem,C3];intro i3 hi3;have n3:=aI hi3;have hi3' :=hi3;rw[ag _ _ n3]at hi3';have n32:=aI hi3';have hG3:G i3=none:=aeK;have c3:∀(f:Heap) (x y:Option Blk),upd (upd f id x) i3 y=upd (upd f i3 y) id x:=fun f x y=>cy f x y n3.symm
 have c23:∀(f:Heap) (x y:Option Blk),upd (upd f i3 x) i2 y=upd (upd f i2 y) i3 x:=fun f x y=>cy f x y n32
 have m32:¬i3=i2:=n32;have m23:¬i2=i3:=n32.symm;simp only[go_sem,c3,ak,n3];refine .intro (fun m ρ H=>H=upd (upd (upd G i2 (some (.obj [.i 0,.s [],.b false,.i 0,.i 0,.i 0,.s []] 233))) i3 (some (.obj [.i a.cat,.s a.name,.b a.must,.i 0,.i 0,.i 0,.s []] 233))) id (some (PO st1))∧
  ∃i:Nat,i≤3∧m=3 - i∧(∀j (hj:j<uc.length),j<i→isD st1 uc[j]=false)∧lk ρ 0=some (.ptr id 0)∧lk ρ 2=some (.ptr i2 0)∧lk ρ 3=some (.ptr i3 0)∧lk ρ 9=some (.sl (uc.map AV.s) .full)∧lk ρ 10=some (.i 3)∧lk ρ 11=some (.i i)) 3 ?_ ?_
 ·refine⟨rfl,0,ad9,rfl,fun j _ hj=>ad9,?_,?_,?_,?_,?_,?_⟩<;>simp only[go_sem]<;>rfl
 ·rintro m ρ H ⟨rfl,i,hi,rfl,hb,r0,r2,r3,r9,r10,r11⟩
  simp only[go_sem,r10,r11];refine .intro (fun e=>?_) (fun e=>?_)
  ·have hlt:i<3:=by grind
   have hlo:i<uc.length:=hlt;have w1:IntKind.i64.wrap ((i:Int)+1)=((i+1:Nat):Int):=aek;have w2:IntKind.i64.wrap (1+(i:Int))=((i:Int)+1):=aea;simp only[go_sem,r9,r11];refine .at i aea aen ?_;simp only[go_sem,r0,ad0];refine(kD st1 uc[i] h1.1).run ?_;cases d1:isD st1 uc[i]
   ·have et:cp st1 uc[i]=(false,st1):=by grind [cp]
    rw[et];simp only[go_sem,r11,w1];refine⟨_,?_,rfl,i+1,ad9,rfl,fun j hj hji=>?_,?_,?_,?_,?_,?_,?_⟩
    ·omega
    ·grind
    all_goals simp only[go_sem,r0,r2,r3,r9,r10]
   ·have et:cp st1 uc[i]=(true,bh st1):=by grind [cp]
    have eo:=S2 i hlo hb d1;have h2:Ah st1 (bh st1):=fk h1.1 (dK d1);have en:gG st=(⟨a,(i:Int)+1,(aD (bh st1)).1⟩,(aD (bh st1)).2):=by grind [gG]
    have d2:(((i:Int)+1)==0)=false:=aeo;rw[et];simp only[go_sem,c3,ak,n3,r0,r3,w2,d2];refine(uG (bh st1) h2.1).run ?_;exact ajh
  ·have hge:i=3:=by grind
   subst hge;have eo:=MZ fun j hj=>hb j hj hj
   have h2:Ah st1 (bp st1):=oI h1.1;have en:gG st=(⟨a,0,(aD (bp st1)).1⟩,(aD (bp st1)).2):=by grind [gG]
   simp only[go_sem,r0,r3,ak,n3];refine(lS st1 h1.1).run ?_;simp only[go_sem,r0];refine(uG (bp st1) h2.1).run ?_;exact ajh
theorem Tu:(U 233).sz=7:=aeo
theorem WB:(U 233).bytes=72:=aeo
theorem II(l:List bP):Sized 7 (l.map dR):=fun z hz=>by
 obtain⟨c,_,rfl⟩:=List.mem_map.1 hz;rfl
theorem Tt:(U 234).sz=1:=aeo
theorem Wz:(U 234).bytes=24:=aeo
theorem IG(l:List (List bP)):Sized 1 (l.map jj):=fun z hz=>by
 obtain⟨c,_,rfl⟩:=List.mem_map.1 hz;rfl
theorem Tv:(U 230).sz=1:=aeo
theorem WD:(U 230).bytes=24:=aeo
theorem IK(l:List (List (List bP))):Sized 1 (l.map cX):=fun z hz=>by
 obtain⟨c,_,rfl⟩:=List.mem_map.1 hz;rfl
theorem QK(st:PS)(hw:WfP st):PC 233 [] st (jj (qk st).1) (qk st).2:=.of fun G id=>by
 have h1:=qu hw;have hm1:=Ig st hw;obtain⟨x0,st1,e1⟩:∃x0 st1,gG st=(x0,st1):=⟨_,_,rfl⟩;have ep:fU gG [44] 8 st.ts.length st1 [x0]=qk st:=by grind [qk]
 rw[e1]at h1 hm1;simp only[dR]at h1 hm1;refine ad8 Tryz.func233 20 [.tmp 2] fun hwf=>?_
 simp only[go_sem];refine hm1.run ?_;simp only[go_sem];have hB:upd G id none id=none:=ah ..;refine .intro (fun m ρ H=>∃(f:Nat) (st' :PS) (l:List _) (y:AV),H id=some (PO st')∧Acc U 233 (upd G id none) H y (l.map dR)∧Ah st1 st'∧fU gG [44] 8 f st' l=qk st∧st1.ts.length≤f+st'.pos∧l.length≤st'.pos+1∧m=st1.ts.length - st'.pos∧lk ρ 0=some (.ptr id 0)∧lk ρ 3=some y) (st1.ts.length - st1.pos) ?_ ?_
 ·refine⟨st.ts.length,st1,[x0],.sl ([x0].map dR) .full,ah ..,.full (base_start G id _),.refl h1.1,ep,by rw[h1.2.1];omega,aeg,rfl,?_,?_⟩<;>simp only[go_sem]<;>rfl
 ·rintro m ρ H ⟨f,st',l,y,hH,hy,ha,hfin,hf,hll,rfl,r0,r3⟩
  have hlen:=ha.1.2.2;have hpos:=ha.1.1;have htl:=ha.2.1;simp only[go_sem,r0];refine(kD st' [44] ha.1).go hH ?_;cases d1:isD st' [44]
  ·have et:cp st' [44]=(false,st'):=by grind [cp]
   have ef:fU gG [44] 8 f st' l=(l,st'):=ahy;rw[et,bF hH];rw[ef]at hfin;simp only[go_sem,r3];exact .mk (h' :=upd G id (some (PO (qk st).2))) (jj l) hy.weak (by rw[←hfin];exact fD hy.1 hH) ⟨aea,rfl⟩
  ·have et:cp st' [44]=(true,bh st'):=by grind [cp]
   obtain⟨g,rfl⟩:∃g,f=g+1:=⟨f - 1,aea⟩;simp only[fU,d1,if_true]at hfin;have h2:=fk ha.1 (dK d1);have hone:=Ig (bh st') h2.1;have h3:=(fun _ h=>qu h:∀st,WfP st→Ah st (gG st).2) _ h2.1
   obtain⟨x,st2,e2⟩:∃x st2,gG (bh st')=(x,st2):=⟨_,_,rfl⟩;rw[e2]at hfin hone h3;simp only[dR]at hfin hone h3;have hdec:decide ((8:Int)<((l.length+1:Nat):Int))=decide (8<l.length+1):=by
    grind
   have h4:=lE (decide (8<l.length+1)) h3.1;have hnp:(bh st').pos=st'.pos+1:=rfl;have hp3:=h3.2.2;have hp4:=h4.2.2;rw[et];simp only[go_sem,r0,r3];refine hone.run ?_;simp only[go_sem];refine(hy.put hB hH _).app (zs:=[dR x]) (by grind [Tu]) (by grind [WB]) (fun k hk=>hk) (by grind [Tu,II]) (by rw[Tu];exact II [x]) (by grind [WB]) fun y' H2 hy' hk2=>?_
   exact aip
theorem QL(st:PS)(hw:WfP st):PC 194 [] st (cX (rY st).1) (rY st).2:=.of fun G id=>by
 have h0:=jz [40] hw;have h1:=BW h0.1;have hm1:=QK _ h0.1;obtain⟨x0,st1,e1⟩:∃x0 st1,qk (dZ st [40])=(x0,st1):=⟨_,_,rfl⟩;obtain⟨M,eM⟩:∃M,fU qk orT 8 st.ts.length st1 [x0]=M:=⟨_,rfl⟩;have epp:(M.1,dZ M.2 [41])=rY st:=by grind [rY]
 rw[e1]at h1 hm1;simp only[jj]at h1 hm1;refine ad8 Tryz.func194 24 [.tmp 2] fun hwf=>?_
 simp only[go_sem];refine(lf st [40] hw).run ?_;simp only[go_sem];refine hm1.run ?_;simp only[go_sem];have hB:upd G id none id=none:=ah ..;refine .intro (fun m ρ H=>∃(f:Nat) (st' :PS) (l:List _) (y:AV),H id=some (PO st')∧Acc U 234 (upd G id none) H y (l.map jj)∧Ah st1 st'∧fU qk orT 8 f st' l=M∧st1.ts.length≤f+st'.pos∧l.length≤st'.pos+1∧m=st1.ts.length - st'.pos∧lk ρ 0=some (.ptr id 0)∧lk ρ 3=some y) (st1.ts.length - st1.pos) ?_ ?_
 ·refine⟨st.ts.length,st1,[x0],.sl ([x0].map jj) .full,ah ..,.full (base_start G id _),.refl h1.1,eM,by rw[h1.2.1,h0.2.1];omega,aeg,rfl,?_,?_⟩<;>simp only[go_sem]<;>rfl
 ·rintro m ρ H ⟨f,st',l,y,hH,hy,ha,hfin,hf,hll,rfl,r0,r3⟩
  have hlen:=ha.1.2.2;have hpos:=ha.1.1;have htl:=ha.2.1;simp only[go_sem,r0];refine(kD st' orT ha.1).go hH ?_;cases d1:isD st' orT
  ·have et:cp st' orT=(false,st'):=by grind [cp]
   have ef:fU qk orT 8 f st' l=(l,st'):=ahy;rw[et,bF hH];rw[ef]at hfin;simp only[go_sem,r0];refine(lf st' [41] ha.1).go hH ?_;simp only[go_sem,r3];exact .mk (h' :=upd G id (some (PO (rY st).2))) (cX l) hy.weak (by rw[←epp,←hfin];exact fD (hy.1.put hB _) (ah ..)) ⟨aea,rfl⟩
  ·have et:cp st' orT=(true,bh st'):=by grind [cp]
   obtain⟨g,rfl⟩:∃g,f=g+1:=⟨f - 1,aea⟩;simp only[fU,d1,if_true]at hfin;have h2:=fk ha.1 (dK d1);have hone:=QK (bh st') h2.1;have h3:=(fun _ h=>BW h:∀st,WfP st→Ah st (qk st).2) _ h2.1
   obtain⟨x,st2,e2⟩:∃x st2,qk (bh st')=(x,st2):=⟨_,_,rfl⟩;rw[e2]at hfin hone h3;simp only[jj]at hfin hone h3;have hdec:decide ((8:Int)<((l.length+1:Nat):Int))=decide (8<l.length+1):=by
    grind
   have h4:=lE (decide (8<l.length+1)) h3.1;have hnp:(bh st').pos=st'.pos+1:=rfl;have hp3:=h3.2.2;have hp4:=h4.2.2;rw[et];simp only[go_sem,r0,r3];refine hone.run ?_;simp only[go_sem];refine(hy.put hB hH _).app (zs:=[jj x]) (by grind [Tt]) (by grind [Wz]) (fun k hk=>hk) (by grind [Tt,IG]) (by rw[Tt];exact IG [x]) (by grind [Wz]) fun y' H2 hy' hk2=>?_
   exact aip
theorem Rn(st:PS)(hw:WfP st):PC 144 [] st (aV (gW st).1) (gW st).2:=.of fun G id=>by
 refine ad8 Tryz.func144 23 [.tmp 2] fun hwf=>?_
 simp only[go_sem];refine(kD st Ff hw).run ?_;cases d0:isD st Ff
 ·have et:cp st Ff=(false,st):=by grind [cp]
  have ep:gW st=([],st):=by grind [gW]
  rw[et];simp only[go_sem];exact .mk (h' :=upd G id (some (PO (gW st).2))) (aV []) (.sl _ _) (by rw[ep];exact .refl _) ⟨by rw[ep],rfl⟩
 have et:cp st Ff=(true,bh st):=by grind [cp]
 have h0:=fk hw (dK d0);have h1:=BX h0.1;have hm1:=QL _ h0.1;obtain⟨x0,st1,e1⟩:∃x0 st1,rY (bh st)=(x0,st1):=⟨_,_,rfl⟩;obtain⟨M,eM⟩:∃M,fU rY CZ 8 st.ts.length st1 [x0]=M:=⟨_,rfl⟩;have ep:M=gW st:=by simp_all [gW,if_true]
 rw[e1]at h1 hm1;simp only[cX]at h1 hm1;rw[et];simp only[go_sem];refine hm1.run ?_;simp only[go_sem];have hB:upd G id none id=none:=ah ..;refine .intro (fun m ρ H=>∃(f:Nat) (st' :PS) (l:List _) (y:AV),H id=some (PO st')∧Acc U 230 (upd G id none) H y (l.map cX)∧Ah st1 st'∧fU rY CZ 8 f st' l=M∧st1.ts.length≤f+st'.pos∧l.length≤st'.pos+1∧m=st1.ts.length - st'.pos∧lk ρ 0=some (.ptr id 0)∧lk ρ 3=some y) (st1.ts.length - st1.pos) ?_ ?_
 ·refine⟨st.ts.length,st1,[x0],.sl ([x0].map cX) .full,ah ..,.full (base_start G id _),.refl h1.1,eM,by rw[h1.2.1,h0.2.1];omega,aeg,rfl,?_,?_⟩<;>simp only[go_sem]<;>rfl
 ·rintro m ρ H ⟨f,st',l,y,hH,hy,ha,hfin,hf,hll,rfl,r0,r3⟩
  have hlen:=ha.1.2.2;have hpos:=ha.1.1;have htl:=ha.2.1;simp only[go_sem,r0];refine(kD st' CZ ha.1).go hH ?_;cases d1:isD st' CZ
  ·have et:cp st' CZ=(false,st'):=by grind [cp]
   have ef:fU rY CZ 8 f st' l=(l,st'):=ahy;rw[et,bF hH];rw[ef]at hfin;simp only[go_sem,r3];exact .mk (h' :=upd G id (some (PO (gW st).2))) (aV l) hy.weak (by rw[←ep,←hfin];exact fD hy.1 hH) ⟨aea,rfl⟩
  ·have et:cp st' CZ=(true,bh st'):=by grind [cp]
   obtain⟨g,rfl⟩:∃g,f=g+1:=⟨f - 1,aea⟩;simp only[fU,d1,if_true]at hfin;have h2:=fk ha.1 (dK d1);have hone:=QL (bh st') h2.1;have h3:=(fun _ h=>BX h:∀st,WfP st→Ah st (rY st).2) _ h2.1
   obtain⟨x,st2,e2⟩:∃x st2,rY (bh st')=(x,st2):=⟨_,_,rfl⟩;rw[e2]at hfin hone h3;simp only[cX]at hfin hone h3;have hdec:decide ((8:Int)<((l.length+1:Nat):Int))=decide (8<l.length+1):=by
    grind
   have h4:=lE (decide (8<l.length+1)) h3.1;have hnp:(bh st').pos=st'.pos+1:=rfl;have hp3:=h3.2.2;have hp4:=h4.2.2;rw[et];simp only[go_sem,r0,r3];refine hone.run ?_;simp only[go_sem];refine(hy.put hB hH _).app (zs:=[cX x]) (by grind [Tv]) (by grind [WD]) (fun k hk=>hk) (by grind [Tv,IK]) (by rw[Tv];exact IK [x]) (by grind [WD]) fun y' H2 hy' hk2=>?_
   exact aip
theorem Eo(op:Int)(h:Heap):ai Tryz.prog 305 [.i op] h fun r h' =>r= .sl ((opers op).map jY) .no∧h' =h:=by
 refine ad8 Tryz.func305 15 [.tmp 2] fun hwf=>?_
 cases k3:(op==3)<;>cases k4:(op==4)<;>cases k5:(op==5)<;>cases k11:(op==11)
 all_goals
  simp only[go_sem,k3,k4,k5,k11];simp only[beq_iff_eq,beq_eq_false_iff_ne]at k3 k4 k5 k11;refine .mk _ (.sl _ _) (.refl _) ⟨?_,rfl⟩
  grind [opers,jY]
theorem WE:(U 91).sz=3:=aeo
theorem Y1:(U 91).bytes=32:=aeo
theorem IJ(l:List cD):Sized 3 (l.map bt):=fun z hz=>by
 obtain⟨c,_,rfl⟩:=List.mem_map.1 hz;rfl
theorem tG(st:PS)(hw:WfP st):PC 148 [] st (ay (gy st).1) (gy st).2:=.of fun G id=>by
 obtain⟨M,eM⟩:∃M,gy st=M:=⟨_,rfl⟩;have eM2:fU An wP 8 st.ts.length st []=M:=eM;refine ad8 Tryz.func148 28 [.tmp 2] fun hwf=>?_
 simp only[go_sem];have hB:upd G id none id=none:=ah ..;refine .intro (fun m ρ H=>∃(f:Nat) (st' :PS) (l:List cD) (y:AV),H id=some (PO st')∧Acc U 91 (upd G id none) H y (l.map bt)∧Ah st st'∧fU An wP 8 f st' l=M∧st.ts.length≤f+st'.pos∧l.length≤st'.pos+1∧m=st.ts.length - st'.pos∧lk ρ 0=some (.ptr id 0)∧lk ρ 3=some y) (st.ts.length - st.pos) ?_ ?_
 ·refine⟨st.ts.length,st,[],.sl ([].map bt) .full,ah ..,.full (base_start G id _),.refl hw,eM2,ad9,aeg,rfl,?_,?_⟩<;>simp only[go_sem]<;>rfl
 ·rintro m ρ H ⟨f,st',l,y,hH,hy,ha,hfin,hf,hll,rfl,r0,r3⟩
  have hlen:=ha.1.2.2;have hpos:=ha.1.1;have htl:=ha.2.1;simp only[go_sem,r0];refine(kD st' wP ha.1).go hH ?_;cases d1:isD st' wP
  ·have et:cp st' wP=(false,st'):=by grind [cp]
   have ef:fU An wP 8 f st' l=(l,st'):=ahy;rw[et,bF hH];rw[ef]at hfin;simp only[go_sem,r3];exact .mk (h' :=upd G id (some (PO (gy st).2))) (ay l) hy.weak (by rw[eM,←hfin];exact fD hy.1 hH) ⟨aea,rfl⟩
  ·have et:cp st' wP=(true,bh st'):=by grind [cp]
   obtain⟨g,rfl⟩:∃g,f=g+1:=⟨f - 1,aea⟩;simp only[fU,d1,if_true]at hfin;have h2:=fk ha.1 (dK d1);have ho1:=gK vq h2.1;have ho2:=gK mS ho1.1;have ho3:=nH ho2.1;have h3:Ah (bh st') (An (bh st')).2:=Lr h2.1;have hdec:decide ((8:Int)<((l.length+1:Nat):Int))=decide (8<l.length+1):=by
    grind
   have h4:=lE (decide (8<l.length+1)) h3.1;have hnp:(bh st').pos=st'.pos+1:=rfl;have hp3:=h3.2.2;have hp4:=h4.2.2;have eX:(An (bh st'))=(⟨(aY (bh st') vq).1,(aY (aY (bh st') vq).2 mS).1,(cm (aY (aY (bh st') vq).2 mS).2).1⟩,(cm (aY (aY (bh st') vq).2 mS).2).2):=rfl;obtain⟨x,st2,e2⟩:∃x st2,An (bh st')=(x,st2):=⟨_,_,rfl⟩;rw[et];simp only[go_sem];intro i4 hi4;have n4:=aI hi4;have hH4:H i4=none:=aeK;have c4:∀(f:Heap) (x y:Option Blk),upd (upd f id x) i4 y=upd (upd f i4 y) id x:=fun f x y=>cy f x y n4.symm
   simp only[go_sem,r0,c4];refine(oJ _ vq .full aed h2.1).run ?_;simp only[go_sem,r0,c4,ak,n4];refine(oJ _ mS .full aed ho1.1).run ?_;simp only[go_sem,r0,c4,ak,n4];refine(uk _ ho2.1).run ?_;simp only[go_sem,r3,c4,ak,n4];rw[e2]at hfin h3 h4 hp3 hp4;simp only at hfin h3 h4 hp3 hp4;have ex1:x=(An (bh st')).1:=by rw[e2]
   have ex2:st2=(cm (aY (aY (bh st') vq).2 mS).2).2:=by
    grind
   rw[←ex2];refine((hy.sub (Sub.aj (k:=_) hH4)).put hB (by rw[ag _ _ n4.symm];exact hH) _).app (zs:=[bt x]) aed aed (fun k hk=>by rw[ex1]at hk;exact hk) (by grind [WE,IJ]) (by rw[WE];exact IJ [x]) (by grind [Y1]) fun y' H2 hy' hk2=>?_
   exact aip
theorem tq{U:TypeId→TI}{e:TypeId}{B B' H:Heap}{y:AV}{xs:List AV}(hs:Sub B B')(ha:Acc U e B' H y xs):Acc U e B H y xs:=by
 obtain⟨h1,rfl|⟨k,i1,rfl,i2⟩⟩:=ha
 ·exact⟨hs.trans h1,.inl rfl⟩
 ·refine⟨hs.trans h1,.inr ⟨k,?_,rfl,i2⟩⟩
  cases hk:B k with
  |none=>rfl
  |some b=>rw[hs _ _ hk]at i1;omega
theorem xX{U:TypeId→TI}{e:TypeId}{B H:Heap}{y:AV}{xs:List AV}(ha:Acc U e B H y xs){i:Nat}(hi:H i=none)(b:Option Blk):Acc U e (upd B i b) (upd H i b) y xs:=by
 obtain⟨h1,rfl|⟨k,i1,rfl,i2⟩⟩:=ha
 ·exact⟨h1.both _ _,.inl rfl⟩
 ·have hne:k≠i:=fun hh=>by subst hh;rw[hi]at i2;cases i2
  exact⟨h1.both _ _,.inr ⟨k,aeK,rfl,aeK⟩⟩
theorem oH{U:TypeId→TI}{e:TypeId}{G K:Heap}{id:Nat}{st:PS}{y:AV}{xs:List AV}(ha:Acc U e (upd G id none) (upd K id (some (PO st))) y xs)(st' :PS):Acc U e (upd G id none) (upd K id (some (PO st'))) y xs:=by
 have:=ha.put (id:=id) (ah ..) (cs:=_) (t:=_) (ah ..) (some (PO st'));rw[eu]at this;exact aeR
def XC(f:FuncId)(args:List AV)(st:PS)(l:List aR)(mk:AV→AV)(st' :PS)(l' :List aR):Prop:=
 ∀(G K:Heap) (id:Nat) (y:AV),Acc U 172 (upd G id none) (upd K id (some (PO st))) y (l.map dL)→ai Tryz.prog f (.ptr id 0::y::args) (upd K id (some (PO st))) fun r h' =>∃y',r=mk y'∧h' id=some (PO st')∧Acc U 172 (upd G id none) h' y' (l'.map dL)
theorem XC.run{f:FuncId}{args:List AV}{st st' :PS}{l l' :List aR}{mk:AV→AV}(hc:XC f args st l mk st' l'){G K:Heap}{id:Nat}{y:AV}{Q:AV→Heap→Prop}(ha:Acc U 172 (upd G id none) (upd K id (some (PO st))) y (l.map dL))
  (k:∀y' K',Acc U 172 (upd G id none) (upd K' id (some (PO st'))) y' (l'.map dL)→Q (mk y') (upd K' id (some (PO st')))):ai Tryz.prog f (.ptr id 0::y::args) (upd K id (some (PO st))) Q:=
 (hc G K id y ha).mono fun r h' ⟨y',e1,e2,e3⟩=>by
  subst e1;have:=k y' h' (by grind [bF])
  rwa [bF e2]at this
def EH(ex:ExF)(f:Nat):Prop:=∀st l,WfP st→st.ts.length≤f+st.pos→l.length≤2*st.pos+1→XC 266 [] st l (fun y=> .tup [y,.v (.bool (ex st l).1.2)]) (ex st l).2 (ex st l).1.1
theorem I0(st:PS)(ws:List Txt):0≤(aY st ws).1∧(aY st ws).1≤ws.length:=by
 unfold aY;cases ei:vg (aK st).s ws with
 |none=>simp
 |some i=>
  have:=Cm ei;simp only;split<;>simp<;>omega
theorem Bk{ex:ExF}(ho:Fm ex){f:Nat}(he:EH ex f)(st:PS)(l:List aR)(b:Bool)(hw:WfP st)(hf:st.ts.length≤f+st.pos)(hl:l.length≤2*st.pos+1):XC 234 [.b b] st l (fun y=>y) (iH ex st l b).2 (iH ex st l b).1:=fun G K id y ha=>by
 refine ad8 Tryz.func234 25 [.tmp 6] fun hwf=>?_
 simp only[go_sem];refine(mE st hw).run ?_;simp only[go_sem,fH];refine(he st l hw hf hl).run ha fun y' K' ha' =>?_
 cases db:((ex st l).1.2==b)
 ·have e1:(ex st l).1.2≠b:=by grind
  have en:iH ex st l b=((ex st l).1.1,bH (ex st l).2 5 (aK st).pos):=by grind [iH]
  simp only[go_sem,db,Bool.not_false];refine(rH _ 5 _).run ?_;simp only[go_sem];exact .mk (h' :=upd K' id (some (PO (bH (ex st l).2 5 (aK st).pos)))) y' (.refl _) (.refl _) ⟨y',rfl,aid,by grind [oH]⟩
 ·have e1:(ex st l).1.2=b:=by grind
  have en:iH ex st l b=((ex st l).1.1,(ex st l).2):=by grind [iH]
  simp only[go_sem,db,Bool.not_true];exact .mk (h' :=upd K' id (some (PO (ex st l).2))) y' (.refl _) (.refl _) ⟨y',rfl,aid,aea⟩
theorem F2{ex:ExF}(ho:Fm ex){f:Nat}(he:EH ex f)(st:PS)(l:List aR)(hw:WfP st)(hf:st.ts.length≤f+st.pos)(hl:l.length+1≤2*st.pos):XC 289 [] st l (fun y=> .tup [y,dL (qN ex st l).1.2]) (qN ex st l).2 (qN ex st l).1.1:=fun G K id y ha=>by
 have h1:=gK mb hw;have hrg:=I0 st mb;have hfl:mb.length=11:=rfl;have w2:IntKind.i64.wrap (2+(aY st mb).1)=2+(aY st mb).1:=aek;refine ad8 Tryz.func289 36 [.tmp 4,.cell 5 172] fun hwf=>?_
 simp only[go_sem];intro i5 hi5;have n5:=aI hi5;have hK5:K i5=none:=aeK;have c5:∀(f:Heap) (x y:Option Blk),upd (upd f id x) i5 y=upd (upd f i5 y) id x:=fun f x y=>cy f x y n5.symm
 simp only[go_sem,c5];refine(oJ _ mb .full aed hw).run ?_;simp only[go_sem,w2];intro i6 hi6;have n6:=aI hi6;have c6:∀(f:Heap) (x y:Option Blk),upd (upd f id x) i6 y=upd (upd f i6 y) id x:=fun f x y=>cy f x y n6.symm
 have hi6' :=hi6;rw[ag _ _ n6]at hi6';have n65:=aI hi6';have hK6:K i6=none:=aeK;simp only[go_sem,c6,ak,n6];refine(Eo _ _).pthen ?_;simp only[go_sem];have h5f:=ha;obtain⟨bs,ebs⟩:∃bs,opers (2+(aY st mb).1)=bs:=⟨_,rfl⟩;obtain⟨M,eM⟩:∃M,jG ex bs (aY st mb).2 l=M:=⟨_,rfl⟩;have hb2:bs.length≤2:=by grind [Ep]
 have hMr:qN ex st l=((M.1,⟨2+(aY st mb).1,⟨0,0,[]⟩,⟨0,[],false⟩⟩),dZ M.2 [41]):=by grind [qN]
 obtain⟨st1,es1⟩:∃st1,(aY st mb).2=st1:=⟨_,rfl⟩;have hac0:=xX (xX (oH ha st1) (by rw[ag _ _ n5];omega) (some (.obj [.i 0,.i 0,.i 0,.s [],.i 0,.s [],.b false] 172))) (by rw[ag _ _ n65,ag _ _ n6];omega) (some (.obj [.i (2+(aY st mb).1),.i 0,.i 0,.s [],.i 0,.s [],.b false] 172))
 simp only[c5,c6]at hac0;obtain⟨G',eG⟩:∃G',G' =upd (upd G i5 (some (.obj [.i 0,.i 0,.i 0,.s [],.i 0,.s [],.b false] 172))) i6 (some (.obj [.i (2+(aY st mb).1),.i 0,.i 0,.s [],.i 0,.s [],.b false] 172)):=⟨_,rfl⟩;have g5:upd G' id none i5=some (.obj [.i 0,.i 0,.i 0,.s [],.i 0,.s [],.b false] 172):=by simp_all [ag,Ne.symm,ah]
 have g6:upd G' id none i6=some (.obj [.i (2+(aY st mb).1),.i 0,.i 0,.s [],.i 0,.s [],.b false] 172):=by simp_all [ag,ah]
 rw[←eG]at hac0;have gi5:upd G id none i5=none:=by
  cases hk:upd G id none i5 with
  |none=>rfl
  |some b=>rw[ha.1 _ _ hk]at hi5;omega
 have hsG:Sub (upd G id none) (upd G' id none):=fun k b hk=>by
  have hs1:=ha.1 k b hk;have hk5:k≠i5:=fun e=>aea
  have hk6:k≠i6:=fun e=>by
   grind [ag]
  by_cases hkid:k=id
  ·subst hkid;rw[ah]at hk;cases hk
  ·rw[ag _ _ hkid]at hk⊢
   rw[eG,ag _ _ hk6,ag _ _ hk5];exact hk
 simp only[es1,ebs]at h1 eM⊢;refine .intro (fun m ρ H=>∃(i:Nat) (st' :PS) (l' :List aR) (y' :AV) (K' :Heap),H=upd K' id (some (PO st'))∧Acc U 172 (upd G' id none) (upd K' id (some (PO st'))) y' (l'.map dL)∧Ah st1 st'∧i≤bs.length∧jG ex (bs.drop i) st' l' =M∧l'.length+1≤2*st'.pos+i∧m=bs.length - i∧lk ρ 0=some (.ptr id 0)∧lk ρ 1=some y'∧lk ρ 5=some (.ptr i5 0)∧lk ρ 6=some (.ptr i6 0)∧lk ρ 16=some (.sl (bs.map jY) .no)∧lk ρ 17=some (.i bs.length)∧lk ρ 18=some (.i i)) bs.length ?_ ?_
 ·refine⟨0,st1,l,y,_,rfl,hac0,.refl h1.1,ad9,aea,by have:=h1.2.2;omega,rfl,?_,?_,?_,?_,?_,?_,?_⟩<;>simp only[go_sem]<;>(try rfl)<;>simp
 ·rintro m ρ H ⟨i,st',l',y',K',rfl,hac,hah,hi,hfin,hll,rfl,r0,r1,r5,r6,r16,r17,r18⟩
  simp only[go_sem,r17,r18];have k6:upd K' id (some (PO st')) i6=some (.obj [.i (2+(aY st mb).1),.i 0,.i 0,.s [],.i 0,.s [],.b false] 172):=hac.1 _ _ g6;have k5:upd K' id (some (PO st')) i5=some (.obj [.i 0,.i 0,.i 0,.s [],.i 0,.s [],.b false] 172):=hac.1 _ _ g5;rw[ag _ _ n6]at k6;rw[ag _ _ n5]at k5;refine .intro (fun e=>?_) (fun e=>?_)
  ·have hlt:i<bs.length:=ad6 e
   simp only[go_sem,r16,r18];refine .at i aea aen ?_;cases db:(st'.bad !=0)
   ·have e1:st'.bad=0:=by grind
    rw[List.drop_eq_getElem_cons hlt]at hfin;simp only[jG,e1,if_true]at hfin;simp only[go_sem,r0,r1,ad0,jY,PO,db];have hpl:=hah.2.2;refine(Bk ho he st' l' bs[i] hah.1 (by rw[hah.2.1,h1.2.1];have:=h1.2.2;omega) ad9).run hac fun y2 K2 hac2=>?_
    obtain⟨q1,q2⟩:=zl ho st' l' bs[i] hah.1;have w1:IntKind.i64.wrap ((i:Int)+1)=((i+1:Nat):Int):=aek;simp only[go_sem,r18,w1];refine⟨_,?_,i+1,(iH ex st' l' bs[i]).2,(iH ex st' l' bs[i]).1,y2,K2,rfl,hac2,hah.trans q1,hlt,hfin,ad9,rfl,?_⟩
    ·omega
    refine⟨?_,?_,?_,?_,?_,?_,?_⟩
    all_goals simp only[go_sem,r0,r5,r6,r16,r17]
   ·have e1:st'.bad≠0:=by grind
    have hfin2:(l',st')=M:=by
     grind [List.drop_eq_getElem_cons,jG]
    clear hfin;have hfin:=hfin2;simp only[go_sem,r0,ad0,jY,PO,db];refine(lf _ [41] hah.1).run ?_;simp only[go_sem,r1,r5,r6,ak,n5,n6,k5,k6];refine⟨.of aec,?_⟩;exact .mk (.tup [y',dL ⟨2+(aY st mb).1,⟨0,0,[]⟩,⟨0,[],false⟩⟩]) (.refl _) (.refl _) ⟨y',aeo,by rw[hMr,←hfin];exact(ag _ _ (Ne.symm n5)).trans (ah ..),afE⟩
  ·have hge:i=bs.length:=by grind
   subst hge;rw[List.drop_length]at hfin;simp only[jG]at hfin;simp only[go_sem,r0];refine(lf _ [41] hah.1).run ?_;simp only[go_sem,r1,r5,r6,ak,n5,n6,k5,k6];refine⟨.of aec,?_⟩;exact .mk (.tup [y',dL ⟨2+(aY st mb).1,⟨0,0,[]⟩,⟨0,[],false⟩⟩]) (.refl _) (.refl _) ⟨y',aeo,by rw[hMr,←hfin];simp_all [ag,Ne.symm,trans,ah],afE⟩
theorem tc:(U 172).sz=7:=aeo
theorem AB:(U 172).bytes=72:=aeo
theorem lB(l:List aR):Sized 7 (l.map dL):=fun z hz=>by
 obtain⟨c,_,rfl⟩:=List.mem_map.1 hz;rfl
theorem Sv(f:Nat)(ih:EH (eS f) f):EH (eS (f+1)) (f+1):=fun st l hw hf hl G K id y ha=>by
 refine ad8 Tryz.func266 52 [.tmp 4,.tmp 5] fun hwf=>?_
 simp only[go_sem];intro i6 hi6;have n6:=aI hi6;have hK6:K i6=none:=by rw[ag _ _ n6]at hi6;exact hi6
 have c6:∀(f:Heap) (x y:Option Blk),upd (upd f id x) i6 y=upd (upd f i6 y) id x:=fun f x y=>cy f x y n6.symm
 have gi6:upd G id none i6=none:=by
  cases hk:upd G id none i6 with
  |none=>rfl
  |some b=>rw[ha.1 _ _ hk]at hi6;cases hi6
 have hac:=xX ha hi6 (some (.obj [.i 0,.i 0,.i 0,.s [],.i 0,.s [],.b false] 172));simp only[go_sem,c6];refine(mE st hw).run ?_;simp only[go_sem,fH];intro i7 hi7;have n7:=aI hi7;have hi7' :=hi7;rw[ag _ _ n7]at hi7';have n76:=aI hi7';have m76:¬i7=i6:=n76;have m67:¬i6=i7:=fun e=>n76 e.symm
 have hK7:K i7=none:=by rw[ag _ _ n76]at hi7';exact hi7'
 have c7:∀(f:Heap) (x y:Option Blk),upd (upd f id x) i7 y=upd (upd f i7 y) id x:=fun f x y=>cy f x y n7.symm
 have e6:upd (upd G id none) i6 (some (.obj [.i 0,.i 0,.i 0,.s [],.i 0,.s [],.b false] 172))=upd (upd G i6 (some (.obj [.i 0,.i 0,.i 0,.s [],.i 0,.s [],.b false] 172))) id none:=c6 G none _;have hac7:∀k,Acc U 172 (upd (upd G i6 (some (.obj [.i 0,.i 0,.i 0,.s [],.i 0,.s [],.b false] 172))) id none) (upd (upd (upd K i6 (some (.obj [.i 0,.i 0,.i 0,.s [],.i 0,.s [],.b false] 172))) i7 k) id (some (PO st))) y (l.map dL):=fun k=>by
  have:=hac.sub (Sub.aj (k:=k) (by rw[c6];exact hi7))
  rw[e6,c6 K,c7]at this;exact aeR
 have hsG:Sub (upd G id none) (upd (upd G i6 (some (.obj [.i 0,.i 0,.i 0,.s [],.i 0,.s [],.b false] 172))) id none):=by
  rw[←e6];exact Sub.aj gi6
 have g6:upd (upd G i6 (some (.obj [.i 0,.i 0,.i 0,.s [],.i 0,.s [],.b false] 172))) id none i6=some (.obj [.i 0,.i 0,.i 0,.s [],.i 0,.s [],.b false] 172):=by rw[←e6,ah]
 simp only[go_sem,c7,ak,n7];refine(kD st [40] hw).run ?_;have hacX:∀tk NB st',Acc U 172 (upd G id none) (upd (upd (upd (upd K i6 (some (.obj [.i 0,.i 0,.i 0,.s [],.i 0,.s [],.b false] 172))) i7 tk) i6 NB) id (some (PO st'))) y (l.map dL):=fun tk NB st' =>by
  have:=(oH (tq hsG (hac7 tk)) st').put gi6 ((ag _ _ n6).trans ((ag _ _ m67).trans (ah ..))) NB;rw[c6]at this;exact aeR
 obtain⟨⟨⟨lh,n⟩,sth⟩,eh⟩:∃x,jr (eS f) st l=x:=⟨_,rfl⟩;obtain⟨hha,hhl⟩:=DK (qK f) st l hw;rw[eh]at hha hhl;simp only at hha hhl;have hwp:=hha.1.2.2;have hwq:=hha.1.1;have hpl:=hha.2.2;have hdec:decide ((32:Int)<((lh.length+1:Nat):Int))=decide (32<lh.length+1):=by
  by_cases h:32<lh.length+1
  ·simp only[h,decide_true];exact decide_eq_true ad9
  ·simp only[h,decide_false];exact decide_eq_false ad9
 cases d0:isD st [40]
 ·have et:cp st [40]=(false,st):=by simp[cp,d0]
  rw[et];cases d1:((aK st).kind==1)
  ·have en:jr (eS f) st l=((l,⟨1,(aD st).1,⟨0,[],false⟩⟩),(aD st).2):=by
    have:(aK st).kind≠1:=ag9;simp[jr,d0,this]
   simp only[go_sem,ak,n7,d1];exact aio
  ·have k1:(aK st).kind=1:=by simpa using d1
   cases d2:((aK st).s== [116,114,117,101])
   ·have k2:(aK st).s≠xg:=by unfold xg;simpa using d2
    cases d3:((aK st).s== [102,97,108,115,101])
    ·have k3:(aK st).s≠qL:=by unfold qL;simpa using d3
     have en:jr (eS f) st l=((l,⟨2,⟨0,0,[]⟩,(ga st).1⟩),(ga st).2):=by simp[jr,d0,k1,k2,k3]
     simp only[go_sem,ak,n7,d1,d2,d3,Bool.not_false];refine(Lz st hw).run ?_;rw[en]at eh;injection eh with eh1 eh2
     injection eh1 with eh3 eh4
     subst eh2;subst eh3;subst eh4;simp only[go_sem,c6,ak,n6,m67,C3];refine(hacX _ _ _).app (zs:=[dL (⟨2,⟨0,0,[]⟩,(ga st).1⟩:aR)]) ahZ ahY (fun k hk=>hk) ahh (by rw[tc];exact lB [(⟨2,⟨0,0,[]⟩,(ga st).1⟩:aR)]) agZ fun y3 H3 hy3 hk3=>?_
     have hH3:H3 id=some (PO (ga st).2):=hk3 _ _ _ (ah ..);have hb3:H3 i6=some (.obj [.v (.int .i64 (⟨2,⟨0,0,[]⟩,(ga st).1⟩:aR).op),.v (.int .i64 (⟨2,⟨0,0,[]⟩,(ga st).1⟩:aR).val.kind),.v (.int .i64 (⟨2,⟨0,0,[]⟩,(ga st).1⟩:aR).val.n),.s (⟨2,⟨0,0,[]⟩,(ga st).1⟩:aR).val.s,.v (.int .i64 (⟨2,⟨0,0,[]⟩,(ga st).1⟩:aR).attr.cat),.s (⟨2,⟨0,0,[]⟩,(ga st).1⟩:aR).attr.name,.v (.bool (⟨2,⟨0,0,[]⟩,(ga st).1⟩:aR).attr.must)] 172):=hk3 _ _ _ ((ag _ _ n6).trans (ah ..));simp only[go_sem,hy3.len,ad3,adZ,List.length_cons,List.length_nil,Nat.zero_add,hdec];refine(cP (ga st).2 _ hha.1).go hH3 ?_;simp only[go_sem,ak,n6,hb3];refine⟨.of aec,?_⟩;have efin:eS (f+1) st l=((l++ [(⟨2,⟨0,0,[]⟩,(ga st).1⟩:aR)],(⟨2,⟨0,0,[]⟩,(ga st).1⟩:aR).op==2),bE (ga st).2 (decide (32<l.length+1))):=ah4;exact .mk (.tup [y3,.b ((⟨2,⟨0,0,[]⟩,(ga st).1⟩:aR).op==2)]) (.refl _) (.refl _) ⟨y3,by rw[efin],agC,aeX⟩
    ·have k3:(aK st).s=qL:=by unfold qL;simpa using d3
     have en:jr (eS f) st l=((l,⟨1,(aD st).1,⟨0,[],false⟩⟩),(aD st).2):=by simp[jr,d0,k1,k3]
     simp only[go_sem,ak,n7,d1,d2,d3,Bool.not_false,Bool.not_true];exact aio
   ·have k2:(aK st).s=xg:=by unfold xg;simpa using d2
    have en:jr (eS f) st l=((l,⟨1,(aD st).1,⟨0,[],false⟩⟩),(aD st).2):=by simp[jr,d0,k1,k2]
    simp only[go_sem,ak,n7,d1,d2,Bool.not_true];exact aio
 ·have et:cp st [40]=(true,bh st):=by simp[cp,d0]
  have h1:=fk hw (dK d0);have hnp:(bh st).pos=st.pos+1:=rfl;have hnt:(bh st).ts=st.ts:=rfl;rw[et];simp only[go_sem];have ef:qN (eS f) (bh st) l=((lh,n),sth):=by rw[←eh];simp[jr,d0]
  have hfx:=F2 (qK f) ih (bh st) l h1.1 (by rw[hnt];omega) ad9
  simp only[ef]at hfx;refine hfx.run (oH (hac7 _) _) fun y2 K2 hac2=>?_
  have k6:=hac2.1 _ _ g6;rw[ag _ _ n6]at k6;simp only[go_sem,c6,ak,n6,k6,dL];have hac3:=(tq hsG hac2).put gi6 ((ag _ _ n6).trans k6) (some (.obj [.i n.op,.i n.val.kind,.i n.val.n,.s n.val.s,.i n.attr.cat,.s n.attr.name,.b n.attr.must] 172));rw[c6]at hac3;refine(hac3).app (zs:=[dL n]) ahZ ahY (fun k hk=>hk) ahh (by rw[tc];exact lB [n]) agZ fun y3 H3 hy3 hk3=>?_
  have hH3:H3 id=some (PO sth):=hk3 _ _ _ (ah ..);have hb3:H3 i6=some (.obj [.i n.op,.i n.val.kind,.i n.val.n,.s n.val.s,.i n.attr.cat,.s n.attr.name,.b n.attr.must] 172):=hk3 _ _ _ ((ag _ _ n6).trans (ah ..));simp only[go_sem,hy3.len,ad3,adZ,List.length_cons,List.length_nil,Nat.zero_add,hdec];refine(cP sth _ hha.1).go hH3 ?_;simp only[go_sem,ak,n6,hb3];refine⟨.of aec,?_⟩;have efin:eS (f+1) st l=((lh++ [n],n.op==2),bE sth (decide (32<lh.length+1))):=by simp only[eS,eh]
  exact .mk (.tup [y3,.b (n.op==2)]) (.refl _) (.refl _) ⟨y3,by rw[efin],agC,aeX⟩
theorem L7:∀f,EH (eS f) f
 |0=>fun st l hw hf _=>absurd hw.1 ad9
 |f+1=>Sv f (L7 f)
theorem FY{P:Program}{f:FuncId}{args:List AV}{h:Heap}{Q Q' :AV→Heap→Prop}(hf:ai P f args h Q)(hq:∀x h1,Q x h1→∃y h2,Weak x y∧Sub h2 h1∧Q' y h2):ai P f args h Q' :=
 fun c vs h1 h2 h3 h4=>(hf c vs h1 h2 h3 h4).mono fun u w' ⟨c',x,h',g1,g2,g3,g4,g5,g6⟩=>by
  obtain⟨y,h'',k1,k2,k3⟩:=hq x h' g6;exact⟨c',y,h'',g1,g2,g3,g4.weak k1,k2.trans g5,k3⟩
def flat:AV→AV
 |.sl xs _=> .sl xs .no
 |x=>x
theorem gu(xs:List AV):Weak (.agg xs) (.agg (xs.map flat)):=.agg _ _ aeg fun i h1 h2=>by
 rw[ad0];cases xs[i]<;>first|exact .refl _|exact .sl _ _
theorem Kg(st:PS)(hw:WfP st):PC 234 [.sl [] .full,.b false] st (fE (iH (eS st.ts.length) st [] false).1) (iH (eS st.ts.length) st [] false).2:=.of fun G id=>by
 have hx:=Bk (qK st.ts.length) (L7 st.ts.length) st [] false hw ad9 aeg;refine FY (hx G G id (.sl [] .full) (.full (base_start G id _))) fun r h1 ⟨y',e1,e2,e3⟩=>⟨_,upd G id (some (PO (iH (eS st.ts.length) st [] false).2)),?_,fD e3.1 e2,rfl,rfl⟩
 subst e1;exact e3.weak
theorem Nu(deny:Bool)(st:PS)(hw:WfP st):PC 197 [.b deny] st (aC (qg deny st).1) (qg deny st).2:=.of fun G id=>by
 have h1:=nH hw;have h2:=B2 h1.1;have h3:=Hx h2.1;have h4:=B0 h3.1;have ht:=Rn _ h1.1;simp only[aV]at ht;refine ad8 Tryz.func197 23 [.cell 4 167] fun hwf=>?_
 simp only[go_sem];intro i4 hi4;have n4:=aI hi4;have hG4:G i4=none:=aeK;have c4:∀(f:Heap) (x y:Option Blk),upd (upd f id x) i4 y=upd (upd f i4 y) id x:=fun f x y=>cy f x y n4.symm
 simp only[go_sem,c4];refine(uk st hw).run ?_;simp only[go_sem];refine ht.run ?_;simp only[go_sem];intro i5 hi5;have n5:=aI hi5;have hi5' :=hi5;rw[ag _ _ n5]at hi5';have n54:=aI hi5';have m54:¬i5=i4:=n54;have m45:¬i4=i5:=n54.symm;have hG5:G i5=none:=aeK;have c5:∀(f:Heap) (x y:Option Blk),upd (upd f id x) i5 y=upd (upd f i5 y) id x:=fun f x y=>cy f x y n5.symm
 have c45:∀(f:Heap) (x y:Option Blk),upd (upd f i5 x) i4 y=upd (upd f i4 y) i5 x:=fun f x y=>cy f x y n54
 simp only[go_sem,c5,ak,n5];refine(kD _ ifT h2.1).run ?_;cases d0:isD (gW (cm st).2).2 ifT
 ·have et:cp (gW (cm st).2).2 ifT=(false,(gW (cm st).2).2):=by grind [cp]
  have ec:qH (gW (cm st).2).2=([],(gW (cm st).2).2):=by grind [qH]
  have er:qg deny st=(⟨(cm st).1,deny,(gW (cm st).2).1,[],(gy (gW (cm st).2).2).1⟩,dZ (gy (gW (cm st).2).2).2 [59]):=by grind [qg]
  rw[ec]at h4;have ho:=tG _ h2.1;simp only[ay]at ho;rw[et];simp only[go_sem];refine ho.run ?_;simp only[go_sem,c5,ak,n5];refine(lf _ [59] h4.1).run ?_;simp only[go_sem,c4,c45,ak,n4,n5,m45];exact .mk (h' :=upd G id (some (PO (dZ (gy (gW (cm st).2).2).2 [59])))) (aC ⟨(cm st).1,deny,(gW (cm st).2).1,[],(gy (gW (cm st).2).2).1⟩) (gu _) (Sub.both aeA _ _) ⟨by rw[er],by rw[er]⟩
 ·have et:cp (gW (cm st).2).2 ifT=(true,bh (gW (cm st).2).2):=by grind [cp]
  obtain⟨⟨cn,stc⟩,ec⟩:∃x,qH (gW (cm st).2).2=x:=⟨_,rfl⟩;have er:qg deny st=(⟨(cm st).1,deny,(gW (cm st).2).1,cn,(gy stc).1⟩,dZ (gy stc).2 [59]):=by grind [qg]
  have hcnd:=Kg (bh (gW (cm st).2).2) (fk h2.1 (dK d0)).1;have ec2:iH (eS (bh (gW (cm st).2).2).ts.length) (bh (gW (cm st).2).2) [] false=(cn,stc):=by rw[←ec];simp only[qH,d0,if_true];rfl
  rw[ec2]at hcnd;simp only[fE]at hcnd;rw[ec]at h3 h4;have ho:=tG _ h3.1;simp only[ay]at ho;rw[et];simp only[go_sem];refine hcnd.run ?_;simp only[go_sem,c5,ak,n5];refine ho.run ?_;simp only[go_sem,c5,ak,n5];refine(lf _ [59] h4.1).run ?_;simp only[go_sem,c4,c45,ak,n4,n5,m45];exact .mk (h' :=upd G id (some (PO (dZ (gy stc).2 [59])))) (aC ⟨(cm st).1,deny,(gW (cm st).2).1,cn,(gy stc).1⟩) (gu _) (Sub.both aeA _ _) ⟨by rw[er],by rw[er]⟩
theorem Qr:(U 167).sz=5:=aeo
theorem WC:(U 167).bytes=96:=aeo
theorem xO(l:List cR):Sized 5 (l.map aC):=fun z hz=>by
 obtain⟨c,_,rfl⟩:=List.mem_map.1 hz;rfl
theorem Tc(st:PS)(hw:WfP st)(hr:st.rules≤64):PC 147 [] st (.sl ((kr 17 st []).1.map aC) .no) (kr 17 st []).2:=.of fun G id=>by
 obtain⟨M,eM⟩:∃M,kr 17 st []=M:=⟨_,rfl⟩;rw[eM];refine ad8 Tryz.func147 51 [.tmp 2] fun hwf=>?_
 simp only[go_sem];have hB:upd G id none id=none:=ah ..;refine .intro (fun m ρ H=>∃(f:Nat) (st' :PS) (l:List cR) (y:AV),H id=some (PO st')∧Acc U 167 (upd G id none) H y (l.map aC)∧Ah st st'∧st'.rules≤64∧kr f st' l=M∧f+l.length=17∧l.length≤16∧m=f∧lk ρ 0=some (.ptr id 0)∧lk ρ 3=some y) 17 ?_ ?_
 ·refine⟨17,st,[],.sl ([].map aC) .full,ah ..,.full (base_start G id _),.refl hw,hr,eM,aeg,aeg,rfl,?_,?_⟩<;>simp only[go_sem]<;>rfl
 ·rintro m ρ H ⟨f,st',l,y,hH,hy,ha,hru,hfin,hf,hll,rfl,r0,r3⟩
  have hlen:=ha.1.2.2;have hpos:=ha.1.1;obtain⟨g,rfl⟩:∃g,m=g+1:=⟨m - 1,ad9⟩;simp only[go_sem,r0];refine(tT st' pP ha.1).go hH ?_;rw[bF hH];have fin:isD st' pP=false→isD st' jo=false→(l,st')=M:=fun d1 d2=>by
   grind [kr]
  have rest:isD st' pP=true∨isD st' jo=true→True:=fun _=>trivial
  cases d1:isD st' pP
  ·simp only[go_sem,r0]
   refine(tT st' jo ha.1).go hH ?_;rw[bF hH];cases d2:isD st' jo
   ·simp only[go_sem,r3]
    have e:=fin d1 d2;exact .mk (h' :=upd G id (some (PO M.2))) (.sl (M.1.map aC) .no) afd (by rw[←e];exact fD hy.1 hH) ⟨rfl,rfl⟩
   ·exact ain
  ·exact ain
theorem Qq:(U 49).sz=7:=aeo
theorem WA:(U 49).bytes=128:=aeo
theorem xN(l:List bD):Sized 7 (l.map aO):=fun z hz=>by
 obtain⟨c,_,rfl⟩:=List.mem_map.1 hz;cases c;rfl
theorem SH(pol:PoF)(d:Nat)(hd5:d≤5)(hp:∀st,WfP st→st.rules≤64→d≤4→PC 87 [.i d] st (aO (pol st).1) (pol st).2)(hpa:∀st,WfP st→Ah st (pol st).2)(hpr:∀st,oe st (pol st).2)
  (st:PS) (hw:WfP st) (hr:st.rules≤64):PC 146 [.i d] st (.sl ((j7 pol (decide ((4:Int)<(d:Int))) 17 st []).1.map aO) .no) (j7 pol (decide ((4:Int)<(d:Int))) 17 st []).2:=.of fun G id=>by
 obtain⟨M,eM⟩:∃M,j7 pol (decide ((4:Int)<(d:Int))) 17 st []=M:=⟨_,rfl⟩;rw[eM];refine ad8 Tryz.func146 33 [.tmp 4] fun hwf=>?_
 simp only[go_sem];have hB:upd G id none id=none:=ah ..;refine .intro (fun m ρ H=>∃(f:Nat) (st' :PS) (l:List bD) (y:AV),H id=some (PO st')∧Acc U 49 (upd G id none) H y (l.map aO)∧Ah st st'∧st'.rules≤64∧j7 pol (decide ((4:Int)<(d:Int))) f st' l=M∧f+l.length=17∧l.length≤16∧m=f∧lk ρ 0=some (.ptr id 0)∧lk ρ 1=some (.i d)∧lk ρ 5=some y) 17 ?_ ?_
 ·refine⟨17,st,[],.sl ([].map aO) .full,ah ..,.full (base_start G id _),.refl hw,hr,eM,aeg,aeg,rfl,?_,?_,?_⟩<;>simp only[go_sem]<;>rfl
 ·rintro m ρ H ⟨f,st',l,y,hH,hy,ha,hru,hfin,hf,hll,rfl,r0,r1,r5⟩
  have hlen:=ha.1.2.2;have hpos:=ha.1.1;obtain⟨g,rfl⟩:∃g,m=g+1:=⟨m - 1,ad9⟩;simp only[go_sem,r0];refine(tT st' pQ ha.1).go hH ?_;rw[bF hH];have fin:isD st' pQ=false→isD st' GO=false→(l,st')=M:=fun d1 d2=>by
   grind [j7]
  cases d1:isD st' pQ
  ·simp only[go_sem,r0]
   refine(tT st' GO ha.1).go hH ?_;rw[bF hH];cases d2:isD st' GO
   ·simp only[go_sem,r5]
    have e:=fin d1 d2;exact .mk (h' :=upd G id (some (PO M.2))) (.sl (M.1.map aO) .no) afd (by rw[←e];exact fD hy.1 hH) ⟨rfl,rfl⟩
   ·have hd:isD st' pQ=true∨isD st' GO=true:=by grind
    have eb:=(mX hd).1;have ek:=(mX hd).2;have db:(st'.bad !=0)=false:=aea;have gP:=hH;unfold PO at gP;have lim:l.length=16∨decide ((4:Int)<(d:Int))=true→(l,bE st' true)=M:=fun h=>by
     rw[←hfin];simp only[j7,if_pos hd,if_pos h]
    have hdl:bE st' true=bH st' 6 (aK st').pos:=rfl;have hlb:((bE st' true).bad !=0)=true:=by grind [bH]
    cases dA:((l.length:Int)==16)
    ·cases dB:decide ((4:Int)<(d:Int))
     ·have nA:l.length≠16:=fun e=>by grind
      have hno:¬(l.length=16∨decide ((4:Int)<(d:Int))=true):=fun h=>h.elim nA (fun e=>aea)
      simp only[j7,if_pos hd,if_neg hno]at hfin;rw[dB]at hfin;have hd4:d≤4:=aea;simp only[go_sem,r0,r1,r5,hy.len,adZ,dA,dB];refine(cP st' false ha.1).go hH ?_;rw[show bE st' false=st' from rfl,bF hH]
      have h3:=hpa st' ha.1;have hrp:=hp st' ha.1 hru hd4;have hr3:=vA (hpr st') hru;obtain⟨x,st2,e2⟩:∃x st2,pol st' =(x,st2):=⟨_,_,rfl⟩;rw[e2]at hfin hrp h3 hr3;obtain⟨pid,pset,palg,ptgt,prules,pkids,pobls⟩:=x;simp only[aO]at hrp hfin h3 hr3;simp only[go_sem,r0,r1,r5,gP,db];refine hrp.go hH ?_;simp only[go_sem];refine(hy.put hB hH _).app (zs:=[aO ⟨pid,pset,palg,ptgt,prules,pkids,pobls⟩]) aed aed (fun k hk=>hk) (by grind [Qq,xN]) agu (by grind [WA]) fun y' H2 hy' hk2=>?_
      have hH2:H2 id=some (PO st2):=hk2 _ _ _ (ah ..);simp only[go_sem];refine⟨_,?_,g,st2,l++ [⟨pid,pset,palg,ptgt,prules,pkids,pobls⟩],y',hH2,aea,ha.trans h3,hr3,hfin,aea,aea,rfl,?_,?_,?_⟩
      ·omega
      all_goals simp only[go_sem,r0,r1]
     ·have e:=lim (.inr dB)
      simp only[go_sem,r0,r1,r5,hy.len,adZ,dA,dB];refine(cP st' true ha.1).go hH ?_;have g3:upd H id (some (PO (bE st' true))) id=some (PO (bE st' true)):=ah ..;unfold PO at g3;simp only[go_sem,r0,r5,g3,hlb,PO];exact .mk (h' :=upd G id (some (PO M.2))) (.sl (M.1.map aO) .no) afd aeJ ⟨rfl,rfl⟩
    ·have nA:l.length=16:=by grind
     have e:=lim (.inl nA);simp only[go_sem,r0,r5,hy.len,adZ,dA];refine(cP st' true ha.1).go hH ?_;have g3:upd H id (some (PO (bE st' true))) id=some (PO (bE st' true)):=ah ..;unfold PO at g3;simp only[go_sem,r0,r5,g3,hlb,PO];exact .mk (h' :=upd G id (some (PO M.2))) (.sl (M.1.map aO) .no) afd aeJ ⟨rfl,rfl⟩
  ·have hd:isD st' pQ=true∨isD st' GO=true:=by grind
   have eb:=(mX hd).1;have ek:=(mX hd).2;have db:(st'.bad !=0)=false:=aea;have gP:=hH;unfold PO at gP;have lim:l.length=16∨decide ((4:Int)<(d:Int))=true→(l,bE st' true)=M:=fun h=>by
    rw[←hfin];simp only[j7,if_pos hd,if_pos h]
   have hdl:bE st' true=bH st' 6 (aK st').pos:=rfl;have hlb:((bE st' true).bad !=0)=true:=by grind [bH]
   cases dA:((l.length:Int)==16)
   ·cases dB:decide ((4:Int)<(d:Int))
    ·have nA:l.length≠16:=fun e=>by grind
     have hno:¬(l.length=16∨decide ((4:Int)<(d:Int))=true):=fun h=>h.elim nA (fun e=>aea)
     simp only[j7,if_pos hd,if_neg hno]at hfin;rw[dB]at hfin;have hd4:d≤4:=aea;simp only[go_sem,r0,r1,r5,hy.len,adZ,dA,dB];refine(cP st' false ha.1).go hH ?_;rw[show bE st' false=st' from rfl,bF hH]
     have h3:=hpa st' ha.1;have hrp:=hp st' ha.1 hru hd4;have hr3:=vA (hpr st') hru;obtain⟨x,st2,e2⟩:∃x st2,pol st' =(x,st2):=⟨_,_,rfl⟩;rw[e2]at hfin hrp h3 hr3;obtain⟨pid,pset,palg,ptgt,prules,pkids,pobls⟩:=x;simp only[aO]at hrp hfin h3 hr3;simp only[go_sem,r0,r1,r5,gP,db];refine hrp.go hH ?_;simp only[go_sem];refine(hy.put hB hH _).app (zs:=[aO ⟨pid,pset,palg,ptgt,prules,pkids,pobls⟩]) aed aed (fun k hk=>hk) (by grind [Qq,xN]) agu (by grind [WA]) fun y' H2 hy' hk2=>?_
     have hH2:H2 id=some (PO st2):=hk2 _ _ _ (ah ..);simp only[go_sem];refine⟨_,?_,g,st2,l++ [⟨pid,pset,palg,ptgt,prules,pkids,pobls⟩],y',hH2,aea,ha.trans h3,hr3,hfin,aea,aea,rfl,?_,?_,?_⟩
     ·omega
     all_goals simp only[go_sem,r0,r1]
    ·have e:=lim (.inr dB)
     simp only[go_sem,r0,r1,r5,hy.len,adZ,dA,dB];refine(cP st' true ha.1).go hH ?_;have g3:upd H id (some (PO (bE st' true))) id=some (PO (bE st' true)):=ah ..;unfold PO at g3;simp only[go_sem,r0,r5,g3,hlb,PO];exact .mk (h' :=upd G id (some (PO M.2))) (.sl (M.1.map aO) .no) afd aeJ ⟨rfl,rfl⟩
   ·have nA:l.length=16:=by grind
    have e:=lim (.inl nA);simp only[go_sem,r0,r5,hy.len,adZ,dA];refine(cP st' true ha.1).go hH ?_;have g3:upd H id (some (PO (bE st' true))) id=some (PO (bE st' true)):=ah ..;unfold PO at g3;simp only[go_sem,r0,r5,g3,hlb,PO];exact .mk (h' :=upd G id (some (PO M.2))) (.sl (M.1.map aO) .no) afd aeJ ⟨rfl,rfl⟩
theorem Ez(r:Nat)(d:Nat)(hrd:r+d=4)(hp:∀st,WfP st→st.rules≤64→d+1≤4→PC 87 [.i (d+1:Nat)] st (aO (gM r st).1) (gM r st).2)(st:PS)(hw:WfP st)(hr:st.rules≤64):
  PC 87 [.i d] st (aO (gM (r+1) st).1) (gM (r+1) st).2:=.of fun G id=>by
 have h1:=gK mZ hw;have h2:=nH h1.1;have h3:=gK yb h2.1;have h4:=B2 h3.1;have h5:Ah _ (cY st).2:=jz [123] h4.1;have ht:=Rn _ h3.1;simp only[aV]at ht;have hrh:=vA (EG st).big hr;have hset:(cY st).1.1=((aY st mZ).1==2):=rfl;have w1:IntKind.i64.wrap ((d:Int)+1)=((d+1:Nat):Int):=aek;have hdp:(r==0)=decide ((4:Int)<((d+1:Nat):Int)):=by
  grind
 have hk:=SH (gM r) (d+1) ad9 hp (fun _ h=>xY r _ h) (CE r) _ h5.1 hrh
 have hs:=Tc _ h5.1 hrh;refine ad8 Tryz.func87 39 [.cell 4 49] fun hwf=>?_
 simp only[go_sem];intro i4 hi4;have n4:=aI hi4;have hG4:G i4=none:=aeK;have c4:∀(f:Heap) (x y:Option Blk),upd (upd f id x) i4 y=upd (upd f i4 y) id x:=fun f x y=>cy f x y n4.symm
 simp only[go_sem,c4];intro i5 hi5;have n5:=aI hi5;have hi5' :=hi5;rw[ag _ _ n5]at hi5';have n54:=aI hi5';have m54:¬i5=i4:=n54;have m45:¬i4=i5:=n54.symm;have hG5:G i5=none:=aeK;have c5:∀(f:Heap) (x y:Option Blk),upd (upd f id x) i5 y=upd (upd f i5 y) id x:=fun f x y=>cy f x y n5.symm
 have c45:∀(f:Heap) (x y:Option Blk),upd (upd f i5 x) i4 y=upd (upd f i4 y) i5 x:=fun f x y=>cy f x y n54
 simp only[go_sem,c5];refine(oJ st mZ .full aed hw).run ?_;simp only[go_sem,c5,ak,n5];refine(uk _ h1.1).run ?_;simp only[go_sem,c5,ak,n5];refine(oJ _ yb .full aed h2.1).run ?_;simp only[go_sem,c5,ak,n5];refine ht.run ?_;simp only[go_sem,c5,ak,n5];refine(lf _ [123] h4.1).run ?_;cases ds:((aY st mZ).1==2)
 ·rw[ds]at hset
  simp only[go_sem,ak,n5];have eb:qb (gM r) (r==0) (cY st).1.1 (cY st).2=(((kr 17 (cY st).2 []).1,[]),(kr 17 (cY st).2 []).2):=by grind [qb]
  have hb:=BZ (fun _ h=>xY r _ h) (r==0) (cY st).1.1 h5.1
  obtain⟨⟨rl,stb⟩,er⟩:∃x,kr 17 (cY st).2 []=x:=⟨_,rfl⟩;rw[er]at eb hs;rw[eb]at hb;have ho:=tG _ (jz [125] hb.1).1;simp only[ay]at ho hs;refine hs.run ?_;simp only[go_sem,c5,ak,n5];refine(lf _ [125] hb.1).run ?_;simp only[go_sem];refine ho.run ?_;simp only[go_sem,c4,c5,c45,ak,n4,n5,m45];have efin:gM (r+1) st=(.mk (cY st).1.2.1 false (cY st).1.2.2.1 (cY st).1.2.2.2 rl [] (gy (dZ stb [125])).1,(gy (dZ stb [125])).2):=by grind [gM]
  exact .mk (h' :=upd G id (some (PO (gy (dZ stb [125])).2))) (aO (.mk (cY st).1.2.1 false (cY st).1.2.2.1 (cY st).1.2.2.2 rl [] (gy (dZ stb [125])).1)) (gu _) (Sub.both aeA _ _) ⟨aea,aea⟩
 ·rw[ds]at hset
  simp only[go_sem,ak,n5,w1];have eb:qb (gM r) (r==0) (cY st).1.1 (cY st).2=(([],(j7 (gM r) (r==0) 17 (cY st).2 []).1),(j7 (gM r) (r==0) 17 (cY st).2 []).2):=by grind [qb]
  have hb:=BZ (fun _ h=>xY r _ h) (r==0) (cY st).1.1 h5.1
  rw[←hdp]at hk;obtain⟨⟨kl,stb⟩,er⟩:∃x,j7 (gM r) (r==0) 17 (cY st).2 []=x:=⟨_,rfl⟩;rw[er]at eb hk;rw[eb]at hb;have ho:=tG _ (jz [125] hb.1).1;simp only[ay]at ho hk;refine hk.run ?_;simp only[go_sem,c5,ak,n5];refine(lf _ [125] hb.1).run ?_;simp only[go_sem];refine ho.run ?_;simp only[go_sem,c4,c5,c45,ak,n4,n5,m45];have efin:gM (r+1) st=(.mk (cY st).1.2.1 true (cY st).1.2.2.1 (cY st).1.2.2.2 [] kl (gy (dZ stb [125])).1,(gy (dZ stb [125])).2):=by grind [gM]
  exact .mk (h' :=upd G id (some (PO (gy (dZ stb [125])).2))) (aO (.mk (cY st).1.2.1 true (cY st).1.2.2.1 (cY st).1.2.2.2 [] kl (gy (dZ stb [125])).1)) (by simp only[aO,bf];exact gu _) (Sub.both aeA _ _) ⟨aea,aea⟩
theorem Ey:∀(r d:Nat),r+d=4→∀st,WfP st→st.rules≤64→PC 87 [.i d] st (aO (gM (r+1) st).1) (gM (r+1) st).2
 |0,d,hrd=>fun st hw hr=>Ez 0 d hrd ad9 st hw hr
 |r+1,d,hrd=>fun st hw hr=>Ez (r+1) d hrd (fun st hw hr _=>Ey r (d+1) ad9 st hw hr) st hw hr
def Keeps(S:List Nat)(h h' :Heap):Prop:=∀j k,j∉S→h j=some k→h' j=some k
theorem Keeps.trans{S:List Nat}{a b c:Heap}(x:Keeps S a b)(y:Keeps S b c):Keeps S a c:=fun j k hj e=>y j k hj (x j k hj e)
theorem Keeps.of{S:List Nat}{a b:Heap}(x:Ab.Sub a b):Keeps S a b:=fun j k _ e=>x j k e
theorem Keeps.upd{S:List Nat}{a:Heap}{i:Nat}{b:Option Blk}(hi:i∈S):Keeps S a (Ab.upd a i b):=fun j k hj e=>by
 grind [ag]
def iu(h:Heap)(idw mid:Nat)(m:eO):Prop:=h idw=some (.obj [.mp mid,.i m.rules] 247)∧h mid=some (.mp (As m.met))∧(∀l∈m.met,l.length≤16)∧m.rules≤64
theorem iu.ne{h:Heap}{idw mid:Nat}{m:eO}(hw:iu h idw mid m):idw≠mid:=fun e=>by
 have h1:=hw.1;have h2:=hw.2.1
 rw[e,h2]at h1;cases h1
theorem iu.keep{h h' :Heap}{idw mid:Nat}{m:eO}(hw:iu h idw mid m)(hs:Ab.Sub h h'):iu h' idw mid m:=⟨hs _ _ hw.1,hs _ _ hw.2.1,hw.2.2⟩
theorem YZ:(U 355).sz=0:=aeo
theorem Gw{s:Txt}(h:bn s=true):s.length≤16:=by
 grind [bn]
theorem zg{m:eO}{s:Txt}(h:s∈m.met∨bn s=false):jv m s=none:=by
 unfold jv
 grind
theorem Fg(idw mid:Nat)(m:eO)(s:Txt)(h:Heap)(hw:iu h idw mid m):ai Tryz.prog 235 [.ptr idw 0,.s s] h fun r h' =>match jv m s with
  |none=>r= .b false∧Ab.Sub h h'
  |some m' =>r= .b true∧Keeps [idw,mid] h h'∧iu h' idw mid m' :=by
 refine ad8 Tryz.func235 28 [.tmp 4] fun hwf=>?_
 obtain⟨w1,w2,w3,w4⟩:=hw;have hlen:s.length≤maxLen:=by
  have:=hwf (.s s) aeg;simp only[wfA,wf1,lim]at this;unfold maxLen;omega
 have hkeys:AK .str (As m.met):=J3 fun l hl=>by grind [maxLen]
 simp only[go_sem,w1,w2];refine⟨hlen,.inr aeo,hkeys,?_⟩;rw[J7 _ _ YZ];simp only[go_sem];intro idv hidv;simp only[go_sem];cases d1:decide (s∈m.met)
 case true=>
  have hm:=zg (.inl (ad1 d1));simp only[go_sem];rw[hm];exact .mk _ (.refl _) (.aj hidv) ⟨rfl,.refl _⟩
 have e1:=ad2 d1;simp only[go_sem];refine(pK _ _).pthen ?_;cases d2:bn s
 ·have hm:=zg (m:=m) (.inr d2)
  simp only[go_sem];rw[hm];exact .mk _ (.refl _) (.aj hidv) ⟨rfl,.refl _⟩
 have hm:jv m s=some ⟨m.met++ [s],m.rules⟩:=by grind [jv]
 have w1' :upd h idv (some (.obj [] 355)) idw=some (.obj [.mp mid,.i m.rules] 247):=aeK;have w2' :upd h idv (some (.obj [] 355)) mid=some (.mp (As m.met)):=aeK;simp only[go_sem,w1',w2'];refine⟨hlen,hkeys,?_⟩;rw[NH e1];rw[hm];refine .same (.refl _) ⟨rfl,(Keeps.of (.aj hidv)).trans (.upd aeg),?_,?_,?_,w4⟩
 ·grind [ag]
 ·rw[ah]
 grind [List.mem_singleton,Gw]
theorem Oc(idw mid:Nat)(m:eO)(r:cR)(h:Heap)(hw:iu h idw mid m):ai Tryz.prog 199 [.ptr idw 0,aC r] h fun x h' =>x= .v (.int .i64 (gA m r).err)∧Keeps [idw,mid] h h'∧∀m',gA m r= .ok m'→iu h' idw mid m' :=by
 refine ad8 Tryz.func199 39 [.tmp 4] fun hwf=>?_
 simp only[go_sem,aC,aV,fE,ay];intro id hid;have n1:idw≠id:=fun e=>by have:=hw.1;rw[e,hid]at this;cases this
 have n2:mid≠id:=fun e=>by have:=hw.2.1;rw[e,hid]at this;cases this
 have hwb:=hw.keep (Sub.aj (k:=some (.obj [.s r.id,.b r.deny,.sl (r.tgt.map cX) .no,.sl (r.cond.map dL) .no,.sl (r.obls.map bt) .no] 167)) hid);have hk0:Keeps [idw,mid] h (upd h id (some (.obj [.s r.id,.b r.deny,.sl (r.tgt.map cX) .no,.sl (r.cond.map dL) .no,.sl (r.obls.map bt) .no] 167))):=.of (.aj hid);simp only[go_sem];obtain⟨hb,ehb⟩:∃hb,upd h id (some (.obj [.s r.id,.b r.deny,.sl (r.tgt.map cX) .no,.sl (r.cond.map dL) .no,.sl (r.obls.map bt) .no] 167))=hb:=⟨_,rfl⟩;have hbid:hb id=some (.obj [.s r.id,.b r.deny,.sl (r.tgt.map cX) .no,.sl (r.cond.map dL) .no,.sl (r.obls.map bt) .no] 167):=ahA;rw[ehb]at hwb hk0⊢;refine(Fg idw mid m r.id hb hwb).mono fun x h2 hx=>?_
 cases hm:jv m r.id with
 |none=>
  rw[hm]at hx;obtain⟨rfl,hs⟩:=hx;have hr:gA m r= .bad 1:=by grind [gA]
  simp only[go_sem];exact .same (.refl _) ⟨aie,hk0.trans (.of hs),fun m' h' =>aea⟩
 |some m1=>
  rw[hm]at hx;obtain⟨rfl,hk,hw2⟩:=hx;have g2:=hw2.1;have hle:=hw2.2.2.2;have hid2:h2 id=some (.obj [.s r.id,.b r.deny,.sl (r.tgt.map cX) .no,.sl (r.cond.map dL) .no,.sl (r.obls.map bt) .no] 167):=hk id _ aea hbid;have w1:IntKind.i64.wrap ((m1.rules:Int)+1)=((m1.rules+1:Nat):Int):=aek;have hk3:Keeps [idw,mid] h (upd h2 idw (some (.obj [.mp mid,.i ((m1.rules+1:Nat):Int)] 247))):=(hk0.trans hk).trans (.upd aeg);have hid3:upd h2 idw (some (.obj [.mp mid,.i ((m1.rules+1:Nat):Int)] 247)) id=some (.obj [.s r.id,.b r.deny,.sl (r.tgt.map cX) .no,.sl (r.cond.map dL) .no,.sl (r.obls.map bt) .no] 167):=by
   grind [ag]
  cases d1:decide (64<((m1.rules+1:Nat):Int))
  case true=>
   have e1:m1.rules+1>64:=aea;have hr:gA m r= .bad 6:=by grind [gA]
   simp only[go_sem,g2,w1,d1];exact ajf
  have e1:¬m1.rules+1>64:=aea;have hr:gA m r=need (lU r.tgt) (need (kI r.cond) (need (iG r.obls) (.ok ⟨m1.met,m1.rules+1⟩))):=by grind [gA]
  simp only[go_sem,g2,w1,d1,hid3];refine(vH r.tgt _).pthen ?_;cases d2:(lU r.tgt !=0)
  case true=>
   have e2:lU r.tgt≠0:=aea;have hr:gA m r= .bad (lU r.tgt):=by grind [need]
   simp only[go_sem,d2];exact ajf
  have e2:lU r.tgt=0:=aea;rw[need,if_pos e2]at hr;simp only[go_sem,d2,hid3];refine(HL r.cond _).pthen ?_;cases d3:(kI r.cond !=0)
  case true=>
   have e3:kI r.cond≠0:=aea;have hr:gA m r= .bad (kI r.cond):=by grind [need]
   simp only[go_sem,d3];exact ajf
  have e3:kI r.cond=0:=aea;rw[need,if_pos e3]at hr;simp only[go_sem,d3,hid3];refine(Cw r.obls _).pthen ?_;simp only[go_sem]
  by_cases e4:iG r.obls=0
  ·rw[need,if_pos e4]at hr
   refine .same (.refl _) ⟨by rw[hr,e4];rfl,hk3,fun m' h' =>?_⟩
   rw[hr]at h';cases h';refine⟨ah ..,?_,hw2.2.2.1,aea⟩;rw[ag _ _ hw2.ne.symm];exact hw2.2.1
  ·rw[need,if_neg e4]at hr
   exact ajf
theorem yL{m:eO}{id:Txt}{set:Bool}{alg:Int}{tgt:gj}{nr nk:Nat}{obls:List cD}(h:jv m id=none):fq m id set alg tgt nr nk obls= .bad 1:=by
 grind [fq]
theorem Oa(idw mid:Nat)(m:eO)(id:Txt)(set:Bool)(alg:Int)(tgt:gj)(rules:List cR)(kids:List bD)(obls:List cD)(h:Heap)(hw:iu h idw mid m):
  ai Tryz.prog 198 [.ptr idw 0,aO (.mk id set alg tgt rules kids obls)] h fun x h' =>x= .v (.int .i64 (fq m id set alg tgt rules.length kids.length obls).err)∧Keeps [idw,mid] h h'∧∀m',fq m id set alg tgt rules.length kids.length obls= .ok m'→iu h' idw mid m' :=by
 refine ad8 Tryz.func198 68 [.tmp 4] fun hwf=>?_
 simp only[go_sem,aO,aV,ay];intro ip hip;have n1:idw≠ip:=fun e=>by have:=hw.1;rw[e,hip]at this;cases this
 have n2:mid≠ip:=fun e=>by have:=hw.2.1;rw[e,hip]at this;cases this
 have hwb:=hw.keep (Sub.aj (k:=some (.obj [.s id,.b set,.i alg,.sl (tgt.map cX) .no,.sl (rules.map aC) .no,.sl (fK kids) .no,.sl (obls.map bt) .no] 49)) hip);have hk0:Keeps [idw,mid] h (upd h ip (some (.obj [.s id,.b set,.i alg,.sl (tgt.map cX) .no,.sl (rules.map aC) .no,.sl (fK kids) .no,.sl (obls.map bt) .no] 49))):=.of (.aj hip);simp only[go_sem];obtain⟨hb,ehb⟩:∃hb,upd h ip (some (.obj [.s id,.b set,.i alg,.sl (tgt.map cX) .no,.sl (rules.map aC) .no,.sl (fK kids) .no,.sl (obls.map bt) .no] 49))=hb:=⟨_,rfl⟩;have hbip:hb ip=some (.obj [.s id,.b set,.i alg,.sl (tgt.map cX) .no,.sl (rules.map aC) .no,.sl (fK kids) .no,.sl (obls.map bt) .no] 49):=ahA;rw[ehb]at hwb hk0⊢;refine(Fg idw mid m id hb hwb).mono fun x h2 hx=>?_
 cases hm:jv m id with
 |none=>
  rw[hm]at hx;obtain⟨rfl,hs⟩:=hx;simp only[go_sem];exact .same (.refl _) ⟨by rw[yL hm];rfl,hk0.trans (.of hs),fun m' h' =>by rw[yL hm]at h';cases h'⟩
 |some m1=>
  rw[hm]at hx;obtain⟨rfl,hk,hw2⟩:=hx;have hip2:h2 ip=some (.obj [.s id,.b set,.i alg,.sl (tgt.map cX) .no,.sl (rules.map aC) .no,.sl (fK kids) .no,.sl (obls.map bt) .no] 49):=hk ip _ (by simp[n1.symm,n2.symm]) hbip
  have hkk:=hk0.trans hk;have bad:∀e,fq m id set alg tgt rules.length kids.length obls= .bad e→(.i e:AV)= .v (.int .i64 (fq m id set alg tgt rules.length kids.length obls).err)∧Keeps [idw,mid] h h2∧∀m',fq m id set alg tgt rules.length kids.length obls= .ok m'→iu h2 idw mid m' :=
   fun e he=>⟨by rw[he];rfl,hkk,fun m' h' =>by rw[he]at h';cases h'⟩
  cases d1:decide (alg<1)
  case true=>
   have e1:=ad1 d1;simp only[go_sem,d1,hip2];exact .same (.refl _) (bad 1 (by simp[fq,hm,e1]))
  cases d2:decide (6<alg)
  case true=>
   have e2:=ad1 d2;simp only[go_sem,d1,d2,hip2];exact .same (.refl _) (bad 1 (by simp[fq,hm,e2]))
  have e1:¬(alg<1∨alg>6):=by have:=ad2 d1;have:=ad2 d2;omega
  have tail:∀(z:Unit),¬(set=true∧rules.length>0∨set=false∧(kids.length>0∨alg=4))→fq m id set alg tgt rules.length kids.length obls=need (lU tgt) (need (iG obls) (if rules.length>16∨kids.length>16 then .bad 6 else .ok m1)):=fun _ hh=>by
   simp only[fq,hm];rw[if_neg e1,if_neg hh]
  cases set
  ·cases d4:decide (0<(kids.length:Int))
   case true=>
    have f4:0<kids.length:=by have:=ad1 d4;omega
    simp -implicitDefEqProofs only[go_sem,d1,d2,hip2,bf,adZ,d4];exact .same (.refl _) (bad 1 (by simp[fq,hm,e1,f4]))
   have g4:¬0<kids.length:=by have:=ad2 d4;omega
   cases d5:(alg==4)
   case true=>
    have f5:alg=4:=by simpa using d5
    simp -implicitDefEqProofs only[go_sem,d1,d2,hip2,bf,adZ,d4,d5];exact .same (.refl _) (bad 1 (by simp[fq,hm,f5]))
   have g5:alg≠4:=by simpa using d5
   simp -implicitDefEqProofs only[go_sem,d1,d2,hip2,bf,adZ,d4,d5];have e3:=tail () (by simp[g4,g5])
   refine(vH tgt _).pthen ?_;cases t1:(lU tgt !=0)
   case true=>
    exact ajx
   have f1:lU tgt=0:=by simpa using t1
   simp only[go_sem,t1,hip2];refine(Cw obls _).pthen ?_;cases t2:(iG obls !=0)
   case true=>
    exact ajt
   have f2:iG obls=0:=by simpa using t2
   cases t3:decide (16<(rules.length:Int))
   case true=>
    exact aji
   have f3:¬16<rules.length:=by have:=ad2 t3;omega
   cases t4:decide (16<(kids.length:Int))
   case true=>
    exact ajg
   have f4:¬16<kids.length:=by have:=ad2 t4;omega
   simp only[go_sem,t2,hip2,adZ,t3,bf,t4];have e4:fq m id false alg tgt rules.length kids.length obls= .ok m1:=by rw[e3];simp[need,f1,f2,f3,f4]
   exact ajL
  ·cases d3:decide (0<(rules.length:Int))
   case true=>
    have f3:0<rules.length:=by have:=ad1 d3;omega
    simp -implicitDefEqProofs only[go_sem,d1,d2,hip2,adZ,d3];exact .same (.refl _) (bad 1 (by simp[fq,hm,e1,f3]))
   have g3:¬0<rules.length:=by have:=ad2 d3;omega
   simp -implicitDefEqProofs only[go_sem,d1,d2,hip2,adZ,d3];have e3:=tail () (by simp[g3])
   refine(vH tgt _).pthen ?_;cases t1:(lU tgt !=0)
   case true=>
    exact ajx
   have f1:lU tgt=0:=by simpa using t1
   simp only[go_sem,t1,hip2];refine(Cw obls _).pthen ?_;cases t2:(iG obls !=0)
   case true=>
    exact ajt
   have f2:iG obls=0:=by simpa using t2
   cases t3:decide (16<(rules.length:Int))
   case true=>
    exact aji
   have f3:¬16<rules.length:=by have:=ad2 t3;omega
   cases t4:decide (16<(kids.length:Int))
   case true=>
    exact ajg
   have f4:¬16<kids.length:=by have:=ad2 t4;omega
   simp only[go_sem,t2,hip2,adZ,t3,bf,t4];have e4:fq m id true alg tgt rules.length kids.length obls= .ok m1:=by rw[e3];simp[need,f1,f2,f3,f4]
   exact ajL
theorem Nf(k:bD):(aO k).cells.length=7:=by
 cases k;rfl
theorem vt{m:eO}{d:Nat}{p:bD}(h:4<d):kU m d p= .bad 6:=by
 cases p;grind [kU]
theorem vu{m:eO}{d:Nat}{id:Txt}{set:Bool}{alg:Int}{tgt:gj}{rules:List cR}{kids:List bD}{obls:List cD}{e:Int}(h:¬4<d)
  (hh:fq m id set alg tgt rules.length kids.length obls= .bad e):kU m d (.mk id set alg tgt rules kids obls)= .bad e:=by
 grind [kU]
theorem zw{m m1:eO}{d:Nat}{id:Txt}{set:Bool}{alg:Int}{tgt:gj}{rules:List cR}{kids:List bD}{obls:List cD}{e:Int}(h:¬4<d)
  (hh:fq m id set alg tgt rules.length kids.length obls= .ok m1) (hr:fG m1 rules= .bad e):kU m d (.mk id set alg tgt rules kids obls)= .bad e:=by
 grind [kU]
theorem Bp{m m1 m2:eO}{d:Nat}{id:Txt}{set:Bool}{alg:Int}{tgt:gj}{rules:List cR}{kids:List bD}{obls:List cD}(h:¬4<d)
  (hh:fq m id set alg tgt rules.length kids.length obls= .ok m1) (hr:fG m1 rules= .ok m2):kU m d (.mk id set alg tgt rules kids obls)=jb m2 (d+1) kids:=by
 grind [kU]
theorem um:∀(n d:Nat) (m:eO) (p:bD) (e:Int),d+n=5→kU m d p= .bad e→e≠0
 |0,d,m,p,e,hd,h=>by grind [vt]
 |n+1,d,m,.mk id set alg tgt rules kids obls,e,hd,h=>by
  by_cases h4:4<d
  ·omega
  cases hh:fq m id set alg tgt rules.length kids.length obls with
  |bad e' =>grind [vu,A5]
  |ok m1=>
   cases hr:fG m1 rules with
   |bad e' =>
    rw[zw h4 hh hr]at h;cases h
    clear hh hd
    induction rules generalizing m1 with
    |nil=>cases hr
    |cons r l ih=>
     grind [fG,gA,BB]
   |ok m2=>
    rw[Bp h4 hh hr]at h;have ih:=fun m p e=>um n (d+1) m p e ad9
    clear hh hr
    induction kids generalizing m2 with
    |nil=>cases h
    |cons k l ihk=>
     simp only[jb]at h;cases hx:kU m2 (d+1) k with
     |bad x=>rw[hx]at h;cases h;exact ih _ _ _ hx
     |ok m3=>rw[hx]at h;exact ihk m3 h
theorem Ik{e:Int}{w:Went}{m:eO}(h:need e w= .ok m):e=0∧w= .ok m:=by
 grind [need]
theorem Mh{m m1:eO}{id:Txt}{set:Bool}{alg:Int}{tgt:gj}{nr nk:Nat}{obls:List cD}(h:fq m id set alg tgt nr nk obls= .ok m1):
  jv m id=some m1∧1≤alg∧alg≤6∧(set=true→nr=0)∧(set=false→nk=0∧alg≠4)∧lU tgt=0∧iG obls=0∧nr≤16∧nk≤16:=by
 unfold fq at h;split at h
 ·cases h
 split at h
 ·cases h
 split at h
 ·cases h
 obtain⟨h3,h⟩:=Ik h;obtain⟨h4,h⟩:=Ik h
 grind
theorem IV:∀(n d:Nat),d+n=5→∀(idw mid:Nat) (m:eO) (p:bD) (h:Heap),iu h idw mid m→
  ai Tryz.prog 149 [.ptr idw 0,aO p,.i d] h fun x h' =>x= .v (.int .i64 (kU m d p).err)∧Keeps [idw,mid] h h'∧∀m',kU m d p= .ok m'→iu h' idw mid m'
 |n,d,hd,idw,mid,m,.mk id set alg tgt rules kids obls,h,hw=>by
  refine ad8 Tryz.func149 52 [.tmp 6] fun hwf=>?_
  simp only[go_sem,aO,aV,ay];intro ip hip;have n1:idw≠ip:=fun e=>by have:=hw.1;rw[e,hip]at this;cases this
  have n2:mid≠ip:=fun e=>by have:=hw.2.1;rw[e,hip]at this;cases this
  have hwb:=hw.keep (Sub.aj (k:=some (.obj [.s id,.b set,.i alg,.sl (tgt.map cX) .no,.sl (rules.map aC) .no,.sl (fK kids) .no,.sl (obls.map bt) .no] 49)) hip);have hk0:Keeps [idw,mid] h (upd h ip (some (.obj [.s id,.b set,.i alg,.sl (tgt.map cX) .no,.sl (rules.map aC) .no,.sl (fK kids) .no,.sl (obls.map bt) .no] 49))):=.of (.aj hip);obtain⟨hb,ehb⟩:∃hb,upd h ip (some (.obj [.s id,.b set,.i alg,.sl (tgt.map cX) .no,.sl (rules.map aC) .no,.sl (fK kids) .no,.sl (obls.map bt) .no] 49))=hb:=⟨_,rfl⟩;have hbip:hb ip=some (.obj [.s id,.b set,.i alg,.sl (tgt.map cX) .no,.sl (rules.map aC) .no,.sl (fK kids) .no,.sl (obls.map bt) .no] 49):=ahA;rw[ehb]at hwb hk0⊢;cases d0:decide (4<(d:Int))
  case true=>
   have e0:4<d:=aea;simp only[go_sem,d0];exact .same (.refl _) ⟨by rw[vt e0];rfl,hk0,fun m' h' =>by grind [vt]⟩
  have e0:¬4<d:=aea;simp only[go_sem,d0,hbip];have hhead:=Oa idw mid m id set alg tgt rules kids obls hb hwb;simp only[aO,aV,ay]at hhead;refine hhead.mono fun x h2 ⟨ex,hk,hw2⟩=>?_
  subst ex;have hk2:=hk0.trans hk;cases hh:fq m id set alg tgt rules.length kids.length obls with
  |bad e=>
   have hne:=A5 hh;have t1:(e !=0)=true:=aea;simp only[go_sem,Went.err,t1];exact .same (.refl _) ⟨by rw[vu e0 hh];rfl,hk2,fun m' h' =>by grind [vu]⟩
  |ok m1=>
   have hw2:=hw2 _ hh;have hle:=(Mh hh).2.2.2.2.2.2.2;have hip2:=hk ip _ aea hbip;simp only[go_sem,Went.err,hip2,adZ];refine .intro (fun k ρ h' =>∃(i:Nat) (mi:eO),i≤rules.length∧k=rules.length - i∧fG m1 (rules.take i)= .ok mi∧Keeps [idw,mid] h h'∧iu h' idw mid mi∧
    h' ip=some (.obj [.s id,.b set,.i alg,.sl (tgt.map cX) .no,.sl (rules.map aC) .no,.sl (fK kids) .no,.sl (obls.map bt) .no] 49)∧
    lk ρ 0=some (.ptr idw 0)∧lk ρ 2=some (.i d)∧lk ρ 4=some (.ptr ip 0)∧lk ρ 23=some (.sl (rules.map aC) .no)∧lk ρ 24=some (.i rules.length)∧lk ρ 25=some (.i i)) rules.length ?_ ?_
   ·refine⟨0,m1,ad9,rfl,rfl,hk2,hw2,hip2,?_,?_,?_,?_,?_,?_⟩<;>simp only[go_sem]
   ·rintro k ρ h' ⟨i,mi,hi,rfl,hri,hki,hwi,hipi,r0,r2,r4,r23,r24,r25⟩
    simp only[go_sem,r24,r25];refine .intro (fun e=>?_) (fun e=>?_)
    ·have hlt:i<rules.length:=ad6 e
     have w1:IntKind.i64.wrap ((i:Int)+1)=((i+1:Nat):Int):=aek;simp only[go_sem,r23,r25];refine .at i aea aen ?_;simp only[go_sem,ad0,aC];intro ir hir;have hrl:=Oc idw mid mi rules[i] _ (hwi.keep (Sub.aj (k:=some (.obj [.s rules[i].id,.b rules[i].deny,aV rules[i].tgt,fE rules[i].cond,ay rules[i].obls] 167)) hir));simp only[aC]at hrl;simp only[go_sem,r0];refine hrl.mono fun x h3 ⟨ex,hk3,hw3⟩=>?_
     subst ex;have hk4:=(hki.trans (.of (Sub.aj hir))).trans hk3;have hip3:=hk3 ip _ aea ((Sub.aj hir) _ _ hipi);cases hx:gA mi rules[i]with
     |bad x=>
      have t1:(x !=0)=true:=by grind [BB]
      simp only[go_sem,Went.err,t1];have hp:=zw (d:=d) (kids:=kids) e0 hh (EP hlt hri hx);exact .same (.refl _) ⟨by rw[hp];rfl,hk4,fun m' h' =>aea⟩
     |ok m3=>
      simp only[go_sem,r25,Went.err,w1];refine⟨_,?_,i+1,m3,ad9,rfl,by grind [wW],hk4,hw3 _ hx,hip3,?_,?_,?_,?_,?_,?_⟩
      ·omega
      all_goals simp only[go_sem,r0,r2,r4,r23,r24]
    ·have hge:i=rules.length:=by grind
     subst hge;rw[List.take_length]at hri;have hpk:=Bp (d:=d) (kids:=kids) e0 hh hri;simp only[go_sem,r4,hipi,bf,adZ];refine .intro (fun k ρ h' =>∃(i:Nat) (mj:eO),i≤kids.length∧k=kids.length - i∧jb mi (d+1) (kids.take i)= .ok mj∧Keeps [idw,mid] h h'∧iu h' idw mid mj∧
      lk ρ 0=some (.ptr idw 0)∧lk ρ 2=some (.i d)∧lk ρ 37=some (.sl (kids.map aO) .no)∧lk ρ 38=some (.i kids.length)∧lk ρ 39=some (.i i)) kids.length ?_ ?_
     ·refine⟨0,mi,ad9,rfl,rfl,hki,hwi,?_,?_,?_,?_,?_⟩<;>simp only[go_sem,r0,r2]
     ·rintro k ρ h' ⟨i,mj,hi,rfl,hkj,hki,hwi,r0,r2,r37,r38,r39⟩
      simp only[go_sem,r38,r39];refine .intro (fun e=>?_) (fun e=>?_)
      ·have hlt:i<kids.length:=ad6 e
       have w1:IntKind.i64.wrap ((i:Int)+1)=((i+1:Nat):Int):=aek;have w2:IntKind.i64.wrap ((d:Int)+1)=((d+1:Nat):Int):=aek;obtain⟨n',rfl⟩:∃n',n=n' +1:=⟨n - 1,ad9⟩;have hrec:=IV n' (d+1) ad9 idw mid mj kids[i];cases hki' :kids[i]with
       |mk kid kset kalg ktgt krules kkids kobls=>
       rw[hki']at hrec;simp only[aO,aV,ay]at hrec;simp only[go_sem,r37,r39];refine .at i aea (by grind [Nf]) ?_
       simp only[go_sem,ad0,hki',aO,aV,ay];intro ir hir;simp only[go_sem,r0,r2,w2];refine(hrec _ (hwi.keep (Sub.aj hir))).mono fun x h3 ⟨ex,hk3,hw3⟩=>?_
       subst ex;have hk4:=(hki.trans (.of (Sub.aj hir))).trans hk3;cases hx:kU mj (d+1) (.mk kid kset kalg ktgt krules kkids kobls)with
       |bad x=>
        have t1:(x !=0)=true:=by simpa using um n' (d+1) _ _ _ ad9 hx
        simp only[go_sem,Went.err,t1];have hp:=Gj hlt hkj (by rw[hki'];exact hx)
        exact .same (.refl _) ⟨by rw[hpk,hp];rfl,hk4,fun m' h' =>aea⟩
       |ok m3=>
        simp only[go_sem,r39,Went.err,w1];refine⟨_,?_,i+1,m3,ad9,rfl,by grind [yS],hk4,hw3 _ hx,?_,?_,?_,?_,?_⟩
        ·omega
        all_goals simp only[go_sem,r0,r2,r37,r38]
      ·have hge:i=kids.length:=by grind
       subst hge;rw[List.take_length]at hkj;simp only[go_sem];exact .same (.refl _) ⟨by rw[hpk,hkj];rfl,hki,fun m' h' =>aea⟩
theorem Gx{h:Heap}{i j:Nat}{b:Blk}(e:upd h i (some b) j=none):j≠i:=fun hh=>by
 subst hh;rw[ah]at e;cases e
theorem uw(p:bD)(h:Heap):ai Tryz.prog 90 [aO p] h fun r h' =>r= .i (gH p)∧h' =h:=by
 cases p with
 |mk id set alg tgt rules kids obls=>
 refine ad8 Tryz.func90 10 [.tmp 2] fun hwf=>?_
 simp only[go_sem,aO,aV,ay];intro ip hip;simp only[go_sem];intro im him;simp only[go_sem];intro iw hiw;have n1:=Gx him;have n2:=Gx hiw;have hiw1:=hiw;rw[ag _ _ n2]at hiw1;have n3:=Gx hiw1;have s1:Ab.Sub h (upd (upd (upd h ip (some (.obj [.s id,.b set,.i alg,.sl (tgt.map cX) .no,.sl (rules.map aC) .no,.sl (fK kids) .no,.sl (obls.map bt) .no] 49))) im (some (.mp []))) iw (some (.obj [.mp im,.i 0] 247))):=
  ((Sub.aj hip).trans (.aj him)).trans (.aj hiw)
 obtain⟨h3,e3⟩:∃h3,upd (upd (upd h ip (some (.obj [.s id,.b set,.i alg,.sl (tgt.map cX) .no,.sl (rules.map aC) .no,.sl (fK kids) .no,.sl (obls.map bt) .no] 49))) im (some (.mp []))) iw (some (.obj [.mp im,.i 0] 247))=h3:=⟨_,rfl⟩;have g1:h3 ip=some (.obj [.s id,.b set,.i alg,.sl (tgt.map cX) .no,.sl (rules.map aC) .no,.sl (fK kids) .no,.sl (obls.map bt) .no] 49):=by
  rw[←e3,ag _ _ n3.symm,ag _ _ n1.symm,ah]
 have g2:iu h3 iw im ⟨[],0⟩:=by
  refine⟨by rw[←e3,ah];rfl,by rw[←e3,ag _ _ n2.symm,ah];rfl,fun l hl=>aea,aed⟩
 have hi0:h im=none:=aeK;have hw0:h iw=none:=aeK;simp only[go_sem];rw[e3]at s1⊢;simp only[go_sem,g1];have hp:=IV 4 1 rfl iw im ⟨[],0⟩ (.mk id set alg tgt rules kids obls) h3 g2;refine hp.mono fun x h4 ⟨ex,hk,_⟩=>?_
 subst ex;simp only[go_sem];refine .mk _ (.refl _) (fun j k hj=>?_) ⟨rfl,rfl⟩
 refine hk j k ?_ (s1 _ _ hj)
 grind
def kj(x:bD×Int×Int):AV:=.tup [aO x.1,.i x.2.1,.i x.2.2]
theorem jK(a b c:AV)(h:Weak a b)(d:AV):Weak (.tup [a,c,d]) (.tup [b,c,d]):=.tup _ _ rfl fun i h1 h2=>by
 rcases i with _|_|_|i
 ·exact ahV
 ·exact afu
 ·exact afu
 grind
theorem zo(s:Txt)(h:Heap)(he:iQ h):ai Tryz.prog 43 [.s s] h fun r h' =>r=kj (aQ s)∧h' =h:=by
 refine ad8 Tryz.func43 61 [.cell 2 49,.tmp 3,.tmp 4] fun hwf=>?_
 simp only[go_sem];intro i2 hi2;simp only[go_sem];refine(yc s _ (he.sub (.aj hi2))).pthen ?_;cases el:pI s with
 |bad e a=>
  have e1:=tW el;have d1:(e !=0)=true:=by
   grind
  have efin:aQ s=(oX,e,a):=by grind [aQ]
  simp only[go_sem,Gn,d1];rw[efin];exact .mk (h' :=h) (kj (oX,e,a)) (jK _ _ _ (gu _) _) (.aj hi2) ⟨rfl,rfl⟩
 |ok ts=>
  have efin:aQ s=zn s ts:=by grind [aQ]
  have hw:=K0 el 0 0 0;have hpol:=Ey 3 1 rfl ⟨ts,0,0,0,0⟩ hw (Nat.zero_le _);have hap:=xY 4 ⟨ts,0,0,0,0⟩ hw;obtain⟨⟨⟨pid,pset,palg,ptgt,prules,pkids,pobls⟩,st1⟩,ep⟩:∃x,gM 4 ⟨ts,0,0,0,0⟩=x:=⟨_,rfl⟩;rw[show 3+1=4 from rfl,ep]at hpol
  rw[ep]at hap;simp only[aO]at hpol hap;simp only[zn,ep]at efin;simp only[go_sem,Gn];intro i8 hi8;have n8:=aI hi8;have m82:¬i8=i2:=n8;have m28:¬i2=i8:=fun e=>n8 e.symm
  have hh8:h i8=none:=aeK;simp only[go_sem];refine hpol.go (ah ..) ?_;rw[eu];simp only[go_sem];intro i9 hi9;have n9:=aI hi9;have hi9' :=hi9;rw[ag _ _ n9]at hi9';have n92:=aI hi9';have m92:¬i9=i2:=n92;have m29:¬i2=i9:=fun e=>n92 e.symm
  have m98:¬i9=i8:=n9;have m89:¬i8=i9:=fun e=>n9 e.symm
  have hh9:h i9=none:=aeK;have c9:∀(f:Heap) (x y:Option Blk),upd (upd f i8 x) i9 y=upd (upd f i9 y) i8 x:=fun f x y=>cy f x y n9.symm
  simp only[go_sem,c9,ak,m98];refine(mE st1 hap.1).run ?_;have subs:∀x y z,Sub h (upd (upd (upd h i2 x) i9 y) i8 z):=fun x y z=>((Sub.aj hi2).put hh9 _).put hh8 _
  cases d1:((aK st1).kind !=7)
  ·have k1:(aK st1).kind=7:=by grind
   have e2:(if(aK st1).kind=7 then st1 else bp st1)=st1:=if_pos k1
   simp only[go_sem,fH,d1];cases db:((st1).bad==0)
   ·have eb:(st1).bad≠0:=by grind
    simp only[go_sem,PO,db];have eend:qn s (.mk pid pset palg ptgt prules pkids pobls,st1)=st1:=by
     simp_all [qn,if_neg]
    have hbb:(st1).bad≠0:=eb;have dn:((st1).bad !=0)=true:=aea;simp only[go_sem,dn];refine .calls (hm1 i8 (PO (st1))) [0,1,2,3,4,5,6,7,8,9,10,11] (.hm1 (ah ..)) aec rfl ?_;simp only[go_sem,ak,m28,m29,PO,gp];refine⟨.hm1 ((ag _ _ n8).trans (ah ..)),?_⟩;have efin2:aQ s=(oX,(st1).bad,(st1).place):=aea;rw[efin2];exact .mk (h' :=h) (kj (oX,(st1).bad,(st1).place)) (jK _ _ _ (gu _) _) (Sub.put (subs _ _ _) hi2 _) ⟨rfl,rfl⟩
   ·have eb:(st1).bad=0:=by grind
    simp only[go_sem,ak,m98,PO,db];refine(uw (.mk pid pset palg ptgt prules pkids pobls) _).pthen ?_;cases dr:(gH (.mk pid pset palg ptgt prules pkids pobls) !=0)
    ·have er:gH (.mk pid pset palg ptgt prules pkids pobls)=0:=by grind
     have dn:((st1).bad !=0)=false:=aea;simp only[go_sem,ak,m28,m29,m98,dr,dn];have eend:qn s (.mk pid pset palg ptgt prules pkids pobls,st1)=st1:=by
      simp_all [qn,if_neg]
     exact ajW
    ·have er:gH (.mk pid pset palg ptgt prules pkids pobls)≠0:=by grind
     simp only[go_sem,dr];refine(rH (st1) 5 s.length).run ?_;have eend:qn s (.mk pid pset palg ptgt prules pkids pobls,st1)=bH (st1) 5 s.length:=by
      simp_all [qn,if_pos]
     have hwb:bH (st1) 5 s.length= {(st1)with bad:=5,place:=s.length}:=by rw[bH,if_pos eb]
     have hbb:(bH (st1) 5 s.length).bad≠0:=aea;have dn:((bH (st1) 5 s.length).bad !=0)=true:=aea;simp only[go_sem,PO,dn];refine .calls (hm1 i8 (PO (bH (st1) 5 s.length))) [0,1,2,3,4,5,6,7,8,9,10,11] (.hm1 (ah ..)) aec rfl ?_;simp only[go_sem,ak,m28,m29,PO,gp];refine⟨.hm1 ((ag _ _ n8).trans (ah ..)),?_⟩;have efin2:aQ s=(oX,(bH (st1) 5 s.length).bad,(bH (st1) 5 s.length).place):=aea;rw[efin2];exact .mk (h' :=h) (kj (oX,(bH (st1) 5 s.length).bad,(bH (st1) 5 s.length).place)) (jK _ _ _ (gu _) _) (Sub.put (subs _ _ _) hi2 _) ⟨rfl,rfl⟩
  ·have k1:(aK st1).kind≠7:=by grind
   have e2:(if(aK st1).kind=7 then st1 else bp st1)=bp st1:=if_neg k1
   simp only[go_sem,fH,d1];refine(lS st1 hap.1).run ?_;simp only[go_sem];cases db:((bp st1).bad==0)
   ·have eb:(bp st1).bad≠0:=by grind
    simp only[go_sem,PO,db];have eend:qn s (.mk pid pset palg ptgt prules pkids pobls,st1)=bp st1:=by
     simp_all [qn,if_neg]
    have hbb:(bp st1).bad≠0:=eb;have dn:((bp st1).bad !=0)=true:=aea;simp only[go_sem,dn];refine .calls (hm1 i8 (PO (bp st1))) [0,1,2,3,4,5,6,7,8,9,10,11] (.hm1 (ah ..)) aec rfl ?_;simp only[go_sem,ak,m28,m29,PO,gp];refine⟨.hm1 ((ag _ _ n8).trans (ah ..)),?_⟩;have efin2:aQ s=(oX,(bp st1).bad,(bp st1).place):=aea;rw[efin2];exact .mk (h' :=h) (kj (oX,(bp st1).bad,(bp st1).place)) (jK _ _ _ (gu _) _) (Sub.put (subs _ _ _) hi2 _) ⟨rfl,rfl⟩
   ·have eb:(bp st1).bad=0:=by grind
    simp only[go_sem,ak,m98,PO,db];refine(uw (.mk pid pset palg ptgt prules pkids pobls) _).pthen ?_;cases dr:(gH (.mk pid pset palg ptgt prules pkids pobls) !=0)
    ·have er:gH (.mk pid pset palg ptgt prules pkids pobls)=0:=by grind
     have dn:((bp st1).bad !=0)=false:=aea;simp only[go_sem,ak,m28,m29,m98,dr,dn];have eend:qn s (.mk pid pset palg ptgt prules pkids pobls,st1)=bp st1:=by
      simp_all [qn,if_neg]
     exact ajW
    ·have er:gH (.mk pid pset palg ptgt prules pkids pobls)≠0:=by grind
     simp only[go_sem,dr];refine(rH (bp st1) 5 s.length).run ?_;have eend:qn s (.mk pid pset palg ptgt prules pkids pobls,st1)=bH (bp st1) 5 s.length:=by
      simp_all [qn,if_pos]
     have hwb:bH (bp st1) 5 s.length= {(bp st1)with bad:=5,place:=s.length}:=by rw[bH,if_pos eb]
     have hbb:(bH (bp st1) 5 s.length).bad≠0:=aea;have dn:((bH (bp st1) 5 s.length).bad !=0)=true:=aea;simp only[go_sem,PO,dn];refine .calls (hm1 i8 (PO (bH (bp st1) 5 s.length))) [0,1,2,3,4,5,6,7,8,9,10,11] (.hm1 (ah ..)) aec rfl ?_;simp only[go_sem,ak,m28,m29,PO,gp];refine⟨.hm1 ((ag _ _ n8).trans (ah ..)),?_⟩;have efin2:aQ s=(oX,(bH (bp st1) 5 s.length).bad,(bH (bp st1) 5 s.length).place):=aea;rw[efin2];exact .mk (h' :=h) (kj (oX,(bH (bp st1) 5 s.length).bad,(bH (bp st1) 5 s.length).place)) (jK _ _ _ (gu _) _) (Sub.put (subs _ _ _) hi2 _) ⟨rfl,rfl⟩
end Go.Proofs.YtbbadggejjgihaaGreatDoor
namespace Go.Ab
open Go
theorem OwE.keepb{tb:TypeId}{h0 h h' :Heap}{sz:Nat}{y:AV}{xs:List AV}(hw:OwE tb h0 h sz y xs)(hk:∀id,h0 id=Option.none→h id≠Option.none→h' id=h id):OwE tb h0 h' sz y xs:=
 hw.keep fun id e=>hk id (hw.nid e).1 (hw.nid e).2.1
end Go.Ab
namespace Go.Proofs.YtbbadggejjgihaaGreatDoor
open Go Go.Ab Go.Bf
theorem fC.keepb{h0 h h' :Heap}{ys:List AV}{x:AV}{c:aM}(hm:fC h0 h ys x c)(hk:∀id,h0 id=none→h id≠none→h' id=h id):fC h0 h' ys x c:=by
 obtain⟨f,l,e,a,b,c,d⟩:=hm;exact⟨f,l,e,a.keepb hk,b.keepb hk,c,d⟩
theorem mz.keepb{h0 h h' :Heap}{ys:List AV}{y:AV}{cs:List aM}{i0:Nat}(ho:mz h0 h ys y cs i0)(hk:∀id,h0 id=none→h id≠none→h' id=h id):mz h0 h' ys y cs i0:=by
 obtain⟨xs,a,b,c,d⟩:=ho;exact⟨xs,a.keepb hk,b,c,fun h1 h2=>(d h1 h2).keepb hk⟩
theorem tj.keepb{h0 h h' :Heap}{x:AV}{s:an}{i0:Nat}(ho:tj h0 h x s i0)(hk:∀id,h0 id=none→h id≠none→h' id=h id):tj h0 h' x s i0:=by
 obtain⟨y1,y2,y3,y4,e,a,b,c,d,r⟩:=ho;exact⟨y1,y2,y3,y4,e,a.keepb hk,b.keepb hk,c.keepb hk,d.keepb hk,r⟩
theorem mz.keepx{h0 h h' :Heap}{ys:List AV}{y z:AV}{cs:List aM}{i0:Nat}(ho:mz h0 h ys y cs i0)(hz:z∈ys)(hy:apart y z)(hk:∀id,h0 id=none→h id≠none→nid z≠some id→h' id=h id):mz h0 h' ys y cs i0:=by
 obtain⟨xs,a,b,c,d⟩:=ho;refine⟨xs,a.keep fun id e=>hk id (a.nid e).1 (a.nid e).2.1 (hy id e),b,c,fun h1 h2=>?_⟩
 obtain⟨f,l,e,of,ol,hap,hys⟩:=d h1 h2;exact⟨f,l,e,of.keep fun id e=>hk id (of.nid e).1 (of.nid e).2.1 ((hys z hz).1 id e),ol.keep fun id e=>hk id (ol.nid e).1 (ol.nid e).2.1 ((hys z hz).2 id e),hap,hys⟩
theorem fC.frz{g h0 h:Heap}{ys:List AV}{x:AV}{c:aM}(hm:fC h0 h ys x c)(hg:Ab.Sub g h0):Frz g h x (ct c):=by
 obtain⟨f,l,rfl,a,b,_⟩:=hm;refine .agg _ _ rfl fun j h1 h2=>?_
 rcases j with _|_|_|_|_|j
 ·exact aet
 ·exact aet
 ·exact aet
 ·exact(a.less hg).frz (bl (fun _=>rfl) _)
 ·exact(b.less hg).frz (bl (fun _=>rfl) _)
 ·simp at h1;omega
theorem JH{g h0 h:Heap}{y:AV}{xs:List AV}{cs:List aM}(hw:OwE 133 h0 h 5 y xs)(hg:Ab.Sub g h0)(hn:xs.length=cs.length)(hx:∀j (h1:j<xs.length) (h2:j<cs.length),Frz g h xs[j] (ct cs[j])):Frz g h y (gm cs):=by
 rcases hw with⟨rfl,rfl⟩|⟨id,h1,hw⟩
 ·have:cs= []:=by grind
  subst this;exact .sl [] [] .full rfl ad9 aeg
 ·have hsz:∀i (h1:i<xs.length),xs[i].cells.length=5:=fun i h1=>hw.rd.1 _ aeg
  refine hw.frz (hg.none h1) aea (fun i h1 h2=>by rw[hsz i h1,ad0];rfl) fun i h1 h2 j h3 h4=>?_
  have h2' :i<cs.length:=ad9;have hf:=hx i h1 h2';have key:∀x y:AV,Frz g h x y→bA y=true→cK y=true→∀j (h3:j<x.cells.length) (h4:j<y.cells.length),Frz g h x.cells[j] y.cells[j]:=by
   intro x y hf ha hp j h3 h4;cases hf with
   |keep x hx=>exact .pure (nU hp _ (ad4 h4))
   |agg xs ys hn hr=>exact hr j h3 h4
   |_=>cases ha
  have e:(cs.map ct)[i]'h2=ct cs[i]:=aeg;simp only[e]at h4⊢;exact key _ _ hf rfl (by simp only[ct,nL,cK,gz,gF,sO,Bool.and_true,Bool.true_and,Bool.and_eq_true];exact⟨bl (fun _=>rfl) _,bl (fun _=>rfl) _⟩) j h3 h4
theorem mz.frz{g h0 h:Heap}{ys:List AV}{y:AV}{cs:List aM}{i0:Nat}(ho:mz h0 h ys y cs i0)(hg:Ab.Sub g h0):Frz g h y (gm cs):=by
 obtain⟨xs,a,b,c,d⟩:=ho;refine JH a hg b fun j h1 h2=>?_
 by_cases e:j=i0
 ·subst e;exact(d h1 h2).frz hg
 grind [DC]
theorem Ng{g h:Heap}(p:bD):∀x∈gb p,Frz g h x x:=fun x hx=>by
 refine .pure (nU (x:=aO p) (EA p) x ?_);rw[PM];exact hx
theorem DD{g h:Heap}{xs:List AV}(hx:∀x∈xs,Frz g h x x):∀i (h1:i<xs.length) (h2:i<xs.length),Frz g h xs[i] xs[i]:=fun i h1 _=>hx _ (ad4 h1)
theorem HS{g h:Heap}{ps bs cs ds:List AV}(n1:ps.length=bs.length)(n2:cs.length=ds.length)(h1:∀i (a:i<ps.length) (b:i<bs.length),Frz g h ps[i] bs[i])(h2:∀i (a:i<cs.length) (b:i<ds.length),Frz g h cs[i] ds[i]):
  ∀i (a:i<(ps++cs).length) (b:i<(bs++ds).length),Frz g h (ps++cs)[i] (bs++ds)[i]:=fun i a b=>by
 by_cases e:i<ps.length
 ·rw[List.getElem_append_left e,List.getElem_append_left ad9];exact h1 i e ad9
 ·rw[List.getElem_append_right ad9,List.getElem_append_right ad9]
  simp only[ad3]at a b;have:=h2 (i - ps.length) ad9 ad9;simp only[n1]at this⊢;exact aeR
theorem u9{g h:Heap}{s:an}{y1 y2 y3 y4:AV}(a:Frz g h y1 (gm s.cases))(b:Frz g h y2 (kN s.reviews))(c:Frz g h y3 (lO s.notices))(d:Frz g h y4 (eJ s.roles)):
  Frz g h (.agg ([.i s.tick,y1,y2,y3,y4]++gb s.policy++ [.i s.version])) (cI s):=by
 refine .agg _ _ aeg (HS aeg rfl (HS rfl rfl (fun i h1 h2=>?_) (DD (Ng _))) (DD fun x hx=>by rw[List.mem_singleton.1 hx];exact .pure rfl))
 rcases i with _|_|_|_|_|i
 ·exact aet
 ·exact a
 ·exact b
 ·exact c
 ·exact d
 ·simp at h1;omega
theorem mz.rd{h0 h:Heap}{ys:List AV}{y:AV}{cs:List aM}{i0:Nat}(ho:mz h0 h ys y cs i0):Ac h y cs:=by
 obtain⟨xs,a,b,c,d⟩:=ho;refine⟨xs,a.rd,b,fun j h1 h2=>?_⟩
 by_cases e:j=i0
 ·subst e
  obtain⟨f,l,e,a,b,_⟩:=d h1 h2;exact⟨f,l,e,a.rd,b.rd⟩
 grind [rdC]
theorem tj.rd{h0 h:Heap}{x:AV}{s:an}{i0:Nat}(ho:tj h0 h x s i0):RdS h x s:=by
 obtain⟨y1,y2,y3,y4,rfl,a,b,c,d,r⟩:=ho;exact⟨y1,y2,y3,y4,rfl,a.rd,b.rd,c.rd,d.rd⟩
end Go.Proofs.YtbbadggejjgihaaGreatDoor
namespace Go.Ab
open Go
theorem OwE.bL{tb:TypeId}{h0 h1 h:Heap}{sz:Nat}{y:AV}{xs:List AV}(hw:OwE tb h1 h sz y xs)(hs:∀i,h1 i=Option.none→h0 i=Option.none):OwE tb h0 h sz y xs:=by
 rcases hw with hw|⟨id,e,hw⟩
 ·exact ah6
 ·exact .inr ⟨id,hs _ e,hw⟩
end Go.Ab
namespace Go.Proofs.YtbbadggejjgihaaGreatDoor
open Go Go.Ab Go.Bf
theorem fC.bL{g h0 h:Heap}{ys:List AV}{x:AV}{c:aM}(hm:fC h0 h ys x c)(hg:∀i,h0 i=none→g i=none):fC g h ys x c:=by
 obtain⟨f,l,e,a,b,c⟩:=hm;exact⟨f,l,e,a.bL hg,b.bL hg,c⟩
theorem mz.bL{g h0 h:Heap}{ys:List AV}{y:AV}{cs:List aM}{i0:Nat}(ho:mz h0 h ys y cs i0)(hg:∀i,h0 i=none→g i=none):mz g h ys y cs i0:=by
 obtain⟨xs,a,b,c,d⟩:=ho;exact⟨xs,a.bL hg,b,c,fun h1 h2=>(d h1 h2).bL hg⟩
theorem tj.bL{g h0 h:Heap}{x:AV}{s:an}{i0:Nat}(ho:tj h0 h x s i0)(hg:∀i,h0 i=none→g i=none):tj g h x s i0:=by
 obtain⟨y1,y2,y3,y4,e,a,b,c,d,r⟩:=ho;exact⟨y1,y2,y3,y4,e,a.bL hg,b.bL hg,c.bL hg,d.bL hg,r⟩
theorem pO{g K:Heap}{S:an}{j:Nat}{y1 y2 y3 y4:AV}{tk ver palg:Int}{pid:Txt}{pset:Bool}{ptgt:gj}{prules:List cR}{pkids:List bD}{pobls:List cD}(h1:S.tick=tk)(h2:S.policy= .mk pid pset palg ptgt prules pkids pobls)(h3:S.version=ver)
  (a:mz g K [y1,y2,y3,y4] y1 S.cases j) (b:OwE 99 g K 7 y2 (S.reviews.map iZ)) (c:OwE 102 g K 3 y3 (S.notices.map nw)) (d:OwE 105 g K 2 y4 (S.roles.map eV)) (ap:apart y1 y2∧apart y1 y3∧apart y1 y4∧apart y2 y3∧apart y2 y4∧apart y3 y4):
  tj g K (.agg [.i tk,y1,y2,y3,y4,.s pid,.b pset,.i palg,aV ptgt,.sl (prules.map aC) .no,.sl (pkids.map aO) .no,ay pobls,.i ver]) S j:=by
 refine⟨y1,y2,y3,y4,?_,a,b,c,d,ap⟩;rw[h1,h2,h3,show gb (.mk pid pset palg ptgt prules pkids pobls)= [.s pid,.b pset,.i palg,aV ptgt,.sl (prules.map aC) .no,.sl (pkids.map aO) .no,ay pobls] by simp[gb,bf]]
 rfl
theorem mz.move{h0 h h' :Heap}{ys ys' :List AV}{y z:AV}{cs:List aM}{i0:Nat}(ho:mz h0 h ys y cs i0)(hz:z∈ys)(hy:apart y z)(hk:∀id,h0 id=none→h id≠none→nid z≠some id→h' id=h id)
  (hr:∀y'∈ys',∀k,nid y' =some k→h k=none∨∃w∈ys,nid w=some k):mz h0 h' ys' y cs i0:=by
 obtain⟨xs,a,b,c,d⟩:=ho;refine⟨xs,a.keep fun id e=>hk id (a.nid e).1 (a.nid e).2.1 (hy id e),b,c,fun h1 h2=>?_⟩
 obtain⟨f,l,e,of,ol,hap,hys⟩:=d h1 h2;refine⟨f,l,e,of.keep fun id e=>hk id (of.nid e).1 (of.nid e).2.1 ((hys z hz).1 id e),ol.keep fun id e=>hk id (ol.nid e).1 (ol.nid e).2.1 ((hys z hz).2 id e),hap,fun w hw=>⟨fun k e1 e2=>?_,fun k e1 e2=>?_⟩⟩
 ·rcases hr w hw k e2 with hn|⟨v,hv,e3⟩
  ·exact(of.nid e1).2.1 hn
  ·exact(hys v hv).1 k e1 e3
 ·rcases hr w hw k e2 with hn|⟨v,hv,e3⟩
  ·exact(ol.nid e1).2.1 hn
  ·exact(hys v hv).2 k e1 e3
theorem PL{g K:Heap}{r X:AV}{A B:List aM}{C:aM}{ys:List AV}{j:Nat}(hj:A.length=j)(hw:OwE 133 g K 5 r (A.map ct++([X]++B.map ct)))(hX:fC g K ys X C):mz g K ys r (A++ [C]++B) j:=by
 refine⟨_,hw,aeg,fun k h1 h2 hk=>?_,fun h1 h2=>?_⟩
 ·grind
 grind
theorem Cz{g K:Heap}{z:AV}{xs:List AV}{cs:List aM}{j:Nat}{X:AV}{F:aM→aM}{ys:List AV}(hw:OwE 133 g K 5 z (xs.set j X))(hn:xs.length=cs.length)(hlo:∀k (h1:k<xs.length) (h2:k<cs.length),k≠j→xs[k]=ct cs[k])(hX:∀h:j<cs.length,fC g K ys X (F cs[j])):mz g K ys z (cs.modify j F) j:=by
 refine⟨_,hw,aea,fun k h1 h2 e=>?_,fun h1 h2=>?_⟩
 ·grind
 grind
theorem tL{xs:List AV}{j:Nat}(hj:j<xs.length)(x:AV):au (xs.set j x)=au (xs.take j)++(x.cells++au (xs.drop (j+1))):=by
 simp_all [List.set_eq_take_append_cons_drop,if_pos,mI,au]
theorem Cf{xs:List AV}{j:Nat}(hj:j<xs.length):au xs=au (xs.take j)++(xs[j].cells++au (xs.drop (j+1))):=by
 grind [tL,List.set_getElem_self]
theorem zC{s:an}{o:OpD}(h:bI s o=0)(hk:o.kind=3∨o.kind=4):bZ s.cases o.case=true:=by
 grind [bZ,bI,bT]
theorem L0{g:Heap}{x:AV}{s:an}(hb:RdS g x s)(o:OpD)(hf:Few s)(hp:mF 1 s.policy)(hr:i64 o.review)(ht:i64 s.tick)(hver:0≤s.version∧s.version≤1000000)(he:iQ g):
  ai Tryz.prog 56 [x,opA o] g fun r h' =>Ab.Sub g h'∧∃j,tj g h' r (cS aQ s o) j∧(bI s o=0→j=findD s.cases o.case):=by
 obtain⟨i0,ei0⟩:∃i0,(if o.kind=1 then s.cases.length else findD s.cases o.case)=i0:=⟨_,rfl⟩
 have hown:=fun(G:Heap) (hG:Ab.Sub g G)=>S4 (hb.sub hG) i0 hf hp
 have hrdy:=fun(G:Heap) (hG:Ab.Sub g G)=>EM (hb.sub hG) o hf hr ht
 obtain⟨y1,y2,y3,y4,rfl,hb'⟩:=hb;cases hpp:s.policy with
 |mk pid pset palg ptgt prules pkids pobls=>
 have hcC:gb (.mk pid pset palg ptgt prules pkids pobls)= [.s pid,.v (.bool pset),.v (.int .i64 palg),aV ptgt,.sl (prules.map aC) .no,.sl (pkids.map aO) .no,ay pobls]:=ahd;rw[hpp,hcC]at hown hrdy;simp only[opA,opC,List.cons_append,List.nil_append]at hown hrdy;refine ad8 Tryz.func56 138 [.cell 4 51] fun hwf=>?_
 simp only[go_sem,hcC,opA,opC,List.cons_append,List.nil_append];intro i2 h2;simp only[go_sem];intro i3 h3;have n32:=aI h3;have h3' :=aB h3;simp only[go_sem];intro i4 h4;have n43:=aI h4;have h4a:=aB h4;have n42:=aI h4a;have h4' :=aB h4a;simp only[go_sem,ak,n32.symm,n42.symm];obtain⟨H,eH⟩:∃H,upd (upd (upd g i2 (some (.obj [.v (.int .i64 s.tick),y1,y2,y3,y4,.s pid,.v (.bool pset),.v (.int .i64 palg),aV ptgt,.sl (prules.map aC) .no,.sl (pkids.map aO) .no,ay pobls,.v (.int .i64 s.version)] 51))) i3 (some (.obj (opC o) 34))) i4 (some (.obj [.v (.int .i64 0),.sl [] .full,.sl [] .full,.sl [] .full,.sl [] .full,.s [],.v (.bool false),.v (.int .i64 0),.sl [] .full,.sl [] .full,.sl [] .full,.sl [] .full,.v (.int .i64 0)] 51))=H:=⟨_,rfl⟩;have hH:Ab.Sub g H:=by rw[←eH];exact(((Sub.refl g).put h2 _).put h3' _).put h4' _
 have g2:H i2=some (.obj [.v (.int .i64 s.tick),y1,y2,y3,y4,.s pid,.v (.bool pset),.v (.int .i64 palg),aV ptgt,.sl (prules.map aC) .no,.sl (pkids.map aO) .no,ay pobls,.v (.int .i64 s.version)] 51):=by rw[←eH,ag _ _ n42.symm,ag _ _ n32.symm,ah]
 have g3:H i3=some (.obj (opC o) 34):=by rw[←eH,ag _ _ n43.symm,ah]
 have g4:H i4=some (.obj [.v (.int .i64 0),.sl [] .full,.sl [] .full,.sl [] .full,.sl [] .full,.s [],.v (.bool false),.v (.int .i64 0),.sl [] .full,.sl [] .full,.sl [] .full,.sl [] .full,.v (.int .i64 0)] 51):=afC;simp only[opC]at eH g3;rw[eH];clear eH;refine(hown H hH).mono fun r H1 ⟨hS,s1⟩=>?_
 obtain⟨z1,z2,z3,z4,er,hS1⟩:=id hS;subst er;rw[hpp,hcC]at hS⊢;obtain⟨hC,w2,w3,w4,a12,a13,a14,a23,a24,a34⟩:=hS1;obtain⟨xs,w1,hnx,hlo,hmy⟩:=id hC;simp only[go_sem,List.cons_append,List.nil_append];intro i5 h5;simp only[go_sem];have q2:=s1 _ _ g2;have q3:=s1 _ _ g3;have q4:=s1 _ _ g4;have n52:i2≠i5:=fun e=>by rw[←e,q2]at h5;cases h5
 have n53:i3≠i5:=fun e=>by rw[←e,q3]at h5;cases h5
 have n54:i4≠i5:=fun e=>by rw[←e,q4]at h5;cases h5
 obtain⟨K,eK⟩:∃K,upd H1 i5 (some (.obj [.v (.int .i64 s.tick),z1,z2,z3,z4,.s pid,.v (.bool pset),.v (.int .i64 palg),aV ptgt,.sl (prules.map aC) .no,.sl (pkids.map aO) .no,ay pobls,.v (.int .i64 s.version)] 51))=K:=⟨_,rfl⟩;have sK:Ab.Sub H1 K:=by rw[←eK];exact .aj h5
 have k5:K i5=some (.obj [.v (.int .i64 s.tick),z1,z2,z3,z4,.s pid,.v (.bool pset),.v (.int .i64 palg),aV ptgt,.sl (prules.map aC) .no,.sl (pkids.map aO) .no,ay pobls,.v (.int .i64 s.version)] 51):=by rw[←eK,ah]
 rw[eK];have hz5:∀k,H k=none→H1 k≠none→k≠i5:=fun k _ hk e=>hk (by rw[e];exact h5)
 have k2:=sK _ _ q2;have k3:=sK _ _ q3;have k4:=sK _ _ q4;clear eK;have sg:Ab.Sub g K:=hH.trans (s1.trans sK);simp only[go_sem,k2,k3];refine(hrdy K sg).pthen ?_;have g5:g i5=none:=(hH.trans s1).none h5;have kK:∀k,H1 k≠none→K k=H1 k:=fun k hk=>by
  cases e:H1 k with
  |none=>exact(hk e).elim
  |some b=>exact sK _ _ e
 have hz4:∀k,H k=none→k≠i4:=fun k hk e=>by rw[e,g4]at hk;cases hk
 by_cases p0:bI s o=0
 ·have d0:(bI s o !=0)=false:=by simp[p0]
  simp only[go_sem,d0];simp only[go_sem,k5,k3];have hSK:tj H K (.agg ([.v (.int .i64 s.tick),z1,z2,z3,z4]++gb s.policy++ [.v (.int .i64 s.version)])) s i0:=by
   rw[hpp,hcC];exact hS.keepb fun k _ hk=>kK k hk
  have hfi:=Ce hSK.rd o.case hf.cases;rw[hpp,hcC]at hfi;simp only[List.cons_append,List.nil_append]at hfi;refine hfi.pthen ?_;simp only[go_sem,k3];have hform:cU o=true:=by
   cases e:cU o
   ·simp[bI,e]at p0
   ·rfl
  have hdone:cS aQ s o=doD aQ s o:=by simp[cS,p0]
  rw[hdone]
  by_cases p1:o.kind=1
  ·have k1:(o.kind==1)=true:=by simp[p1]
   simp only[go_sem,k1];simp only[go_sem,k3];intro i8 h8;have n82:i2≠i8:=fun e=>by rw[←e,k2]at h8;cases h8
   have n83:i3≠i8:=fun e=>by rw[←e,k3]at h8;cases h8
   have n84:i4≠i8:=fun e=>by rw[←e,k4]at h8;cases h8
   have n85:i5≠i8:=fun e=>by rw[←e,k5]at h8;cases h8
   simp only[go_sem];obtain⟨K2,eK2⟩:∃K2,upd K i8 (some (.obj [.s o.case,.s o.subj,.s [111,112,101,110],.sl [] .full,.sl [] .full] 133))=K2:=⟨_,rfl⟩;have sK2:Ab.Sub K K2:=by rw[←eK2];exact .aj h8
   have e8:K2 i8=some (.obj [.s o.case,.s o.subj,.s [111,112,101,110],.sl [] .full,.sl [] .full] 133):=by rw[←eK2,ah]
   rw[eK2];clear eK2;have m3:=sK2 _ _ k3;have m4:=sK2 _ _ k4;have m5:=sK2 _ _ k5;simp only[go_sem,m3,m5];have hha:=sH (h0:=H) (s:=s) z1 z2 z3 z4 (k:=i8) (o:=0) (A:=[]) (B:=[]) (t:=133) (c:=⟨o.case,o.subj,jR,[],[]⟩) (f:=.sl [] .full) (l:=.sl [] .full) rfl e8 aed (.inl ⟨rfl,rfl⟩) (s1.trans (sK.trans sK2)) (Nat.zero_le _) o.subj [110,101,119];rw[hpp,hcC]at hha;simp only[List.cons_append,List.nil_append]at hha;refine hha.mono fun r K3 ⟨l',ol,e8',fr3,ap3⟩=>?_
   have kK3:∀k,K2 k≠none→k≠i8→K3 k=K2 k:=fun k hk hk8=>fr3 k hk hk8 (by simp[nid])
   have m3' :K3 i3=_:=(kK3 i3 (by rw[m3];simp) n83).trans m3
   have m4' :K3 i4=_:=(kK3 i4 (by rw[m4];simp) n84).trans m4
   have m5' :K3 i5=_:=(kK3 i5 (by rw[m5];simp) n85).trans m5
   simp only[cg,List.append_nil]at e8';simp only[go_sem];simp only[go_sem,m5',e8'];have kk2:∀k,H1 k≠none→K2 k=H1 k:=fun k hk=>by
    have:=kK k hk;cases e:K k with
    |none=>rw[e]at this;exact(hk this.symm).elim
    |some b=>rw[sK2 _ _ e,←e,this]
   have k8:∀k,H1 k≠none→k≠i8:=fun k hk e=>hk (by have:=kK k hk;rw[e,h8]at this;rw[e];exact this.symm)
   have kk3:∀k,H1 k≠none→K3 k=H1 k:=fun k hk=>(kK3 k (by rw[kk2 k hk];exact hk) (k8 k hk)).trans (kk2 k hk)
   have sH3:Ab.Sub H1 K3:=fun k b hk=>by rw[kk3 k (by rw[hk];simp)];exact hk
   have hfl:findD s.cases o.case≤s.cases.length:=List.findIdx_le_length;have hfc:=hf.cases;refine(Ge z1 xs (.agg [.s o.case,.s o.subj,.s jR,.sl [] .full,l']) (findD s.cases o.case) H K3 (w1.keepb fun k _ hk=>kk3 k hk) (s1.trans sH3) ad9 ad9 rfl (by simp[Ab.fit])).mono fun r K4 ⟨ow5,fr4,ap4⟩=>?_
   have m4'' :K4 i4=_:=(fr4 i4 (by rw[m4'];simp) (fun e=>by have:=(w1.nid e).1;rw[g4]at this;cases this)).trans m4'
   have m5'' :K4 i5=_:=(fr4 i5 (by rw[m5'];simp) (fun e=>(w1.nid e).2.1 h5)).trans m5'
   simp only[go_sem,m5'',ow5.rd.fit,ow5.rd.cells];simp only[go_sem,ak,n54,m4''];have hi0:i0=s.cases.length:=by rw[←ei0,if_pos p1]
   have hxs:xs=s.cases.map ct:=List.ext_getElem (by simpa using hnx) fun j a b=>by rw[hlo j a ad9 ad9,ad0]
   have kk4:∀k,H1 k≠none→nid z1≠some k→K4 k=H1 k:=fun k hk hz=>(fr4 k (by rw[kk3 k hk];exact hk) hz).trans (kk3 k hk)
   obtain⟨K5,eK5⟩:∃K5,upd (upd K4 i5 (some (.obj [.v (.int .i64 s.tick),r,z2,z3,z4,.s pid,.v (.bool pset),.v (.int .i64 palg),aV ptgt,.sl (prules.map aC) .no,.sl (pkids.map aO) .no,ay pobls,.v (.int .i64 s.version)] 51))) i4 (some (.obj [.v (.int .i64 s.tick),r,z2,z3,z4,.s pid,.v (.bool pset),.v (.int .i64 palg),aV ptgt,.sl (prules.map aC) .no,.sl (pkids.map aO) .no,ay pobls,.v (.int .i64 s.version)] 51))=K5:=⟨_,rfl⟩;rw[eK5];have o5:∀k,k≠i4→k≠i5→K5 k=K4 k:=fun k a b=>by rw[←eK5,ag _ _ a,ag _ _ b]
   have kk5:∀k,H k=none→H1 k≠none→nid z1≠some k→K5 k=H1 k:=fun k a b c=>(o5 k (hz4 k a) (hz5 k a b)).trans (kk4 k b c)
   have ow:OwE 133 H K5 5 r (List.take (findD s.cases o.case) xs++([.agg [.s o.case,.s o.subj,.s jR,.sl [] .full,l']]++List.drop (findD s.cases o.case) xs)):=ow5.keep fun id e=>o5 id (hz4 id (ow5.nid e).1) fun e5=>by
    subst e5;rcases ap4 _ e with h|h
    ·rw[m5']at h;cases h
    ·exact(w1.nid h).2.1 h5
   have ol5:OwE 163 H K5 3 l' _:=ol.keep fun id e=>by
    have h2n:K2 id=none:=(ap3 id e).resolve_right (by simp[nid])
    have hz:nid z1≠some id:=fun e1=>by
     have:=kk2 id (w1.nid e1).2.1;rw[h2n]at this;exact(w1.nid e1).2.1 this.symm
    rw[o5 id (hz4 id (ol.nid e).1) (fun e5=>by rw[e5,m5]at h2n;cases h2n),fr4 id (ol.nid e).2.1 hz]
   have hmc:fC H K5 [] (.agg [.s o.case,.s o.subj,.s jR,.sl [] .full,l']) (jD s ⟨o.case,o.subj,jR,[],[]⟩ o.subj [110,101,119]):=⟨.sl [] .full,l',rfl,.inl ⟨rfl,rfl⟩,ol5,(fun i e=>aey),fun y hy=>by cases hy⟩
   have sg4:Ab.Sub g K4:=fun k b hk=>by
    have h1:=hH _ _ hk;have h2:=s1 _ _ h1;rw[kk4 k (by rw[h2];simp) (fun e=>by have:=(w1.nid e).1;rw[h1]at this;cases this)]
    exact aih
   have sg5:Ab.Sub g K5:=by rw[←eK5];exact(sg4.put g5 _).put h4' _
   have hdo:doD aQ s o= {s with cases:=s.cases.take (findD s.cases o.case)++ [jD s ⟨o.case,o.subj,jR,[],[]⟩ o.subj [110,101,119]]++s.cases.drop (findD s.cases o.case)}:=by simp[doD,p1]
   refine .mk _ (.refl _) (.refl _) ⟨sg5,_,?_,fun _=>rfl⟩
   rw[hdo];have apr:∀k,nid r=some k→H1 k=none∨nid z1=some k:=fun k e=>(ap4 k e).imp (fun h=>sH3.none h) id
   have hro:∀ {w:AV},apart z1 w→(∀k,nid w=some k→H1 k≠none)→apart r w:=fun ha hw k e1 e2=>(apr k e1).elim (fun h=>hw k e2 h) (fun h=>ha k h e2)
   have hl0:∀k,nid l' =some k→H1 k=none:=fun k e=>(sK.trans sK2).none ((ap3 k e).resolve_right (by simp[nid]))
   have hlr:apart l' r:=fun k e1 e2=>(ap4 k e2).elim (fun h=>(ol.nid e1).2.1 h) (fun h=>(w1.nid h).2.1 (hl0 k e1))
   rw[hxs,←List.map_take,←List.map_drop]at ow;refine pO rfl hpp rfl (PL af8 (ow.bL (fun _ e=>hH.none e)) ⟨.sl [] .full,l',rfl,.inl ⟨rfl,rfl⟩,ol5.bL (fun _ e=>hH.none e),(fun i e=>aey),fun y hy=>⟨(fun i e=>aey),?_⟩⟩) ((w2.keep fun id e=>kk5 id (w2.nid e).1 (w2.nid e).2.1 fun e1=>a12 id e1 e).bL fun _ e=>hH.none e) ((w3.keep fun id e=>kk5 id (w3.nid e).1 (w3.nid e).2.1 fun e1=>a13 id e1 e).bL fun _ e=>hH.none e) ((w4.keep fun id e=>kk5 id (w4.nid e).1 (w4.nid e).2.1 fun e1=>a14 id e1 e).bL fun _ e=>hH.none e) ⟨hro a12 fun k e=>(w2.nid e).2.1,hro a13 fun k e=>(w3.nid e).2.1,hro a14 fun k e=>(w4.nid e).2.1,a23,a24,a34⟩
   simp only[List.mem_cons,List.not_mem_nil,or_false]at hy;rcases hy with rfl|rfl|rfl|rfl
   ·exact hlr
   ·exact fun k e1 e2=>(w2.nid e2).2.1 (hl0 k e1)
   ·exact fun k e1 e2=>(w3.nid e2).2.1 (hl0 k e1)
   ·exact fun k e1 e2=>(w4.nid e2).2.1 (hl0 k e1)
  have k1:(o.kind==1)=false:=by simp[p1]
  have hi0:i0=findD s.cases o.case:=by rw[←ei0,if_neg p1]
  simp only[go_sem,k1]
  by_cases p3:o.kind=3
  ·have k3' :(o.kind==3)=true:=by simp[p3]
   simp only[go_sem,k3'];have hth:=zC p0 (.inl p3);have hlt:=jS hth;obtain⟨j,ej⟩:∃j,findD s.cases o.case=j:=⟨_,rfl⟩;have hj:j<s.cases.length:=by rw[←ej];exact hlt
   have hjx:j<xs.length:=ad9;rw[ej]at hi0;subst hi0;obtain⟨f,l,ex,of,ol,hap,hys⟩:=hmy hjx hj;obtain⟨id1,hg1,o1⟩:=w1.ow ag2;have o1' :=o1;obtain⟨cap,rest,ey,hid,hrl,hcap,hsz⟩:=o1';have lA:i0*5=(au (xs.take i0)).length:=afe;have hidK:K id1=some (.obj (au (xs.take i0)++(cg s.cases[i0] f l++(au (xs.drop (i0+1))++rest))) 133):=by
    rw[sK _ _ hid,Cf hjx,ex];simp[cg,AV.cells]
   have n14:id1≠i4:=hz4 id1 hg1;have n13:id1≠i3:=fun e=>by rw[e,g3]at hg1;cases hg1
   have n15:id1≠i5:=fun e=>o1.none (by rw[e];exact h5)
   have nf4:∀k,nid f=some k→k≠i3∧k≠i4∧k≠i5∧k≠id1:=fun k e=>⟨(fun e' =>agW),hz4 k (of.nid e).1,hz5 k (of.nid e).1 (of.nid e).2.1,fun e' =>(hys z1 aeg).1 k e ahC⟩
   have nl4:∀k,nid l=some k→k≠i3∧k≠i4∧k≠i5∧k≠id1:=fun k e=>⟨(fun e' =>agX),hz4 k (ol.nid e).1,hz5 k (ol.nid e).1 (ol.nid e).2.1,fun e' =>(hys z1 aeg).2 k e ahC⟩
   have hff:=hf.fields _ (ad4 hj);have hfl:=hf.log _ (ad4 hj);rw[ej];refine .calls (pick K [i3,i5]) [0,1,2,3,4,5,6,7,8] bR aec rfl ?_;simp only[go_sem,bC (show i5∈ [i3,i5] by simp),k3,k5]
   refine(o1.sub sK).idx (U:=U) (e:=133) i0 rfl hjx nX aed ?_;simp only[go_sem,bC (show i3∈ [i3,i5] by simp),k3,k5]
   refine(show ai Tryz.prog 118 [.ptr id1 (i0*5),.s o.field,.agg [.v (.int .i64 o.val.kind),.v (.int .i64 o.val.n),.s o.val.s]] K _ from Ob lA hidK aed (of.sub sK) (s1.trans sK) hff o.field o.val).mono fun r K3 ⟨f',of',e1',fr3,ap3⟩=>?_
   have kk3:∀k,H1 k≠none→k≠id1→nid f≠some k→K3 k=H1 k:=fun k a b c=>(fr3 k (by rw[kK k a];exact a) b c).trans (kK k a)
   have m3:K3 i3=_:=(fr3 i3 (by rw[k3];simp) n13.symm fun e=>(nf4 _ e).1 rfl).trans k3
   have m4:K3 i4=_:=(fr3 i4 (by rw[k4];simp) n14.symm fun e=>(nf4 _ e).2.1 rfl).trans k4
   have m5:K3 i5=_:=(fr3 i5 (by rw[k5];simp) n15.symm fun e=>(nf4 _ e).2.2.1 rfl).trans k5
   refine⟨iY fun k hk=>?_,?_⟩
   ·simp only[List.mem_cons,List.not_mem_nil,or_false]at hk
    rcases hk with rfl|rfl
    ·rw[m3,k3]
    ·rw[m5,k5]
   simp only[go_sem];have sH3:Ab.Sub H K3:=fun k b hk=>aeS
   have ol3:OwE 163 H K3 3 l (s.cases[i0].log.map iU):=ol.keep fun k e=>kk3 k (ol.nid e).2.1 (nl4 k e).2.2.2 (fun e1=>hap k e1 e)
   have hX5:∀y1 y2:AV,Sized 5 (xs.set i0 (.agg (cg s.cases[i0] y1 y2))):=fun y1 y2 z hz=>by
    exact ai1
   have mkO:∀ {G:Heap} {y1 y2:AV},G id1=some (.obj (au (xs.take i0)++(cg s.cases[i0] y1 y2++(au (xs.drop (i0+1))++rest))) 133)→Ow 133 G 5 id1 z1 (xs.set i0 (.agg (cg s.cases[i0] y1 y2))):=fun {G y1 y2} hG=>⟨cap,rest,agr,by rw[hG,tL hjx];simp[AV.cells],ahi,agl,hX5 _ _⟩
   have hjs:∀x:AV,i0<(xs.set i0 x).length:=fun x=>by rw[List.length_set];exact hjx
   refine .calls (pick K3 [i3,i5]) [0,1,2,3,4,5,6,7] bR aec rfl ?_;simp only[go_sem,bC (show i5∈ [i3,i5] by simp),m3,m5]
   refine(mkO e1').idx (U:=U) (e:=133) i0 rfl (hjs _) nX aed ?_;simp only[go_sem,bC (show i3∈ [i3,i5] by simp),m3,m5]
   have hha:=sH (h0:=H) (h:=K3) (s:=s) z1 z2 z3 z4 (k:=id1) (c:=s.cases[i0]) (f:=f') (l:=l) lA e1' aed ol3 sH3 hfl o.subj [119,114,105,116,101];rw[hpp,hcC]at hha;simp only[List.cons_append,List.nil_append]at hha;refine hha.mono fun r K4 ⟨l',ol',e1'',fr4,ap4⟩=>?_
   have m3' :K4 i3=_:=(fr4 i3 (by rw[m3];simp) n13.symm fun e=>(nl4 _ e).1 rfl).trans m3
   have m4' :K4 i4=_:=(fr4 i4 (by rw[m4];simp) n14.symm fun e=>(nl4 _ e).2.1 rfl).trans m4
   have m5' :K4 i5=_:=(fr4 i5 (by rw[m5];simp) n15.symm fun e=>(nl4 _ e).2.2.1 rfl).trans m5
   refine⟨iY fun k hk=>?_,?_⟩
   ·simp only[List.mem_cons,List.not_mem_nil,or_false]at hk
    rcases hk with rfl|rfl
    ·rw[m3',m3]
    ·rw[m5',m5]
   simp only[go_sem];simp only[go_sem,m5',m4'];obtain⟨K5,eK5⟩:∃K5,upd K4 i4 (some (.obj [.v (.int .i64 s.tick),z1,z2,z3,z4,.s pid,.v (.bool pset),.v (.int .i64 palg),aV ptgt,.sl (prules.map aC) .no,.sl (pkids.map aO) .no,ay pobls,.v (.int .i64 s.version)] 51))=K5:=⟨_,rfl⟩;rw[eK5];have o5:∀k,k≠i4→K5 k=K4 k:=fun k a=>by rw[←eK5,ag _ _ a]
   have kk5:∀k,H k=none→H1 k≠none→k≠id1→nid f≠some k→nid l≠some k→K5 k=H1 k:=fun k a b c d e=>by
    exact aj4
   have of5:OwE 160 H K5 4 f' _:=of'.keep fun id e=>by
    exact aiG
   have ol5:OwE 163 H K5 3 l' _:=ol'.keep fun id e=>o5 id (hz4 id (ol'.nid e).1)
   have sg4:Ab.Sub g K4:=fun k b hk=>by
    exact aja
   have sg5:Ab.Sub g K5:=by rw[←eK5];exact sg4.put h4' _
   have n1' :nid z1=some id1:=o1.nid;have hdo:doD aQ s o= {s with cases:=s.cases.modify i0 fun c=>jD s {c with fields:=eN c.fields o.field o.val} o.subj [119,114,105,116,101]}:=by simp[doD,p3,ej]
   refine .mk _ (.refl _) (.refl _) ⟨sg5,_,?_,fun _=>rfl⟩
   rw[hdo];have thr:∀w∈ [z1,z2,z3,z4],∀k,nid w=some k→H1 k≠none:=fun w hw k e=>by
    exact ai7
   refine pO rfl hpp rfl ?_ ((w2.keep fun id e=>kk5 id (w2.nid e).1 (w2.nid e).2.1 (fun e1=>a12 id1 n1' agT) (fun e1=>(hys z2 aeg).1 id e1 e) (fun e1=>(hys z2 aeg).2 id e1 e)).bL fun _ e=>hH.none e) ((w3.keep fun id e=>kk5 id (w3.nid e).1 (w3.nid e).2.1 (fun e1=>a13 id1 n1' agT) (fun e1=>(hys z3 aeg).1 id e1 e) (fun e1=>(hys z3 aeg).2 id e1 e)).bL fun _ e=>hH.none e) ((w4.keep fun id e=>kk5 id (w4.nid e).1 (w4.nid e).2.1 (fun e1=>a14 id1 n1' agT) (fun e1=>(hys z4 aeg).1 id e1 e) (fun e1=>(hys z4 aeg).2 id e1 e)).bL fun _ e=>hH.none e) ⟨a12,a13,a14,a23,a24,a34⟩
   refine Cz (X:=.agg (cg s.cases[i0] f' l')) ((show OwE 133 H K5 5 z1 _ from .inr ⟨id1,hg1,mkO ((o5 id1 n14).trans e1'')⟩).bL (fun _ e=>hH.none e)) hnx (fun k h1 h2 hk=>hlo k h1 h2 hk) fun hh=>⟨f',l',rfl,of5.bL (fun _ e=>hH.none e),ol5.bL (fun _ e=>hH.none e),fun k e1 e2=>?_,fun w hw=>⟨fun k e1 e2=>?_,fun k e1 e2=>?_⟩⟩
   ·rcases ap4 k e2 with h|h
    ·exact(of'.nid e1).2.1 h
    ·rcases ap3 k e1 with h' |h'
     ·exact(ol.nid h).2.1 (sK.none h')
     ·exact hap k h' h
   ·rcases ap3 k e1 with h|h
    ·exact thr w hw k e2 (sK.none h)
    ·exact(hys w hw).1 k h e2
   ·rcases ap4 k e1 with h|h
    ·by_cases h1:k=id1
     ·subst h1;rw[e1']at h;cases h
     ·have:=kk3 k (thr w hw k e2) h1 (fun e=>(hys w hw).1 k e e2)
      rw[h]at this;exact thr w hw k e2 this.symm
    ·exact(hys w hw).2 k h e2
  have k3' :(o.kind==3)=false:=by simp[p3]
  simp only[go_sem,k3']
  by_cases p4:o.kind=4
  ·have k4' :(o.kind==4)=true:=by simp[p4]
   simp only[go_sem,k4'];have hth:=zC p0 (.inr p4);have hlt:=jS hth;obtain⟨j,ej⟩:∃j,findD s.cases o.case=j:=⟨_,rfl⟩;have hj:j<s.cases.length:=by rw[←ej];exact hlt
   have hjx:j<xs.length:=ad9;rw[ej]at hi0;subst hi0;obtain⟨f,l,ex,of,ol,hap,hys⟩:=hmy hjx hj;obtain⟨id1,hg1,o1⟩:=w1.ow ag2;have o1' :=o1;obtain⟨cap,rest,ey,hid,hrl,hcap,hsz⟩:=o1';have lA:i0*5=(au (xs.take i0)).length:=afe;have hidK:K id1=some (.obj (au (xs.take i0)++(cg s.cases[i0] f l++(au (xs.drop (i0+1))++rest))) 133):=by
    rw[sK _ _ hid,Cf hjx,ex];simp[cg,AV.cells]
   have n14:id1≠i4:=hz4 id1 hg1;have n13:id1≠i3:=fun e=>by rw[e,g3]at hg1;cases hg1
   have n15:id1≠i5:=fun e=>o1.none (by rw[e];exact h5)
   have nf4:∀k,nid f=some k→k≠i3∧k≠i4∧k≠i5∧k≠id1:=fun k e=>⟨(fun e' =>agW),hz4 k (of.nid e).1,hz5 k (of.nid e).1 (of.nid e).2.1,fun e' =>(hys z1 aeg).1 k e ahC⟩
   have nl4:∀k,nid l=some k→k≠i3∧k≠i4∧k≠i5∧k≠id1:=fun k e=>⟨(fun e' =>agX),hz4 k (ol.nid e).1,hz5 k (ol.nid e).1 (ol.nid e).2.1,fun e' =>(hys z1 aeg).2 k e ahC⟩
   have hff:=hf.fields _ (ad4 hj);have hfl:=hf.log _ (ad4 hj);rw[ej];simp only[go_sem,k5,k3];refine(o1.sub sK).idx (U:=U) (e:=133) i0 rfl hjx nX aed ?_;simp only[go_sem,hidK];have e2:List.take (i0*5+2) (au (xs.take i0)++(cg s.cases[i0] f l++(au (xs.drop (i0+1))++rest)))++ [.s o.to]++List.drop (i0*5+2+1) (au (xs.take i0)++(cg s.cases[i0] f l++(au (xs.drop (i0+1))++rest)))=au (xs.take i0)++(cg {s.cases[i0]with state:=o.to} f l++(au (xs.drop (i0+1))++rest)):=by
    have:=pJ (A:=au (xs.take i0)++ [.s s.cases[i0].id,.s s.cases[i0].owner]) (B:=[.s s.cases[i0].state]) (C:=f::l::(au (xs.drop (i0+1))++rest)) (X:=[.s o.to]) (k:=i0*5+2) (m:=1) (by rw[lA];simp) rfl rfl
    exact aj0
   rw[e2];obtain⟨K3,eK3⟩:∃K3,upd K id1 (some (.obj (au (xs.take i0)++(cg {s.cases[i0]with state:=o.to} f l++(au (xs.drop (i0+1))++rest))) 133))=K3:=⟨_,rfl⟩
   rw[eK3];refine⟨by simp only[ad3,←lA,cg,List.length_cons,List.length_nil];omega,?_⟩
   have e1' :K3 id1=some (.obj (au (xs.take i0)++(cg {s.cases[i0]with state:=o.to} f l++(au (xs.drop (i0+1))++rest))) 133):=by rw[←eK3,ah]
   have fr3:∀k,K k≠none→k≠id1→nid f≠some k→K3 k=K k:=fun k _ hk _=>by rw[←eK3,ag _ _ hk]
   have ap3:∀k,nid f=some k→K k=none∨nid f=some k:=fun k hk=> .inr hk
   have kk3:∀k,H1 k≠none→k≠id1→nid f≠some k→K3 k=H1 k:=fun k a b c=>(fr3 k (by rw[kK k a];exact a) b c).trans (kK k a)
   have m3:K3 i3=_:=(fr3 i3 (by rw[k3];simp) n13.symm fun e=>(nf4 _ e).1 rfl).trans k3
   have m4:K3 i4=_:=(fr3 i4 (by rw[k4];simp) n14.symm fun e=>(nf4 _ e).2.1 rfl).trans k4
   have m5:K3 i5=_:=(fr3 i5 (by rw[k5];simp) n15.symm fun e=>(nf4 _ e).2.2.1 rfl).trans k5
   obtain⟨f',of',ef'⟩:∃f',OwE 160 H K3 4 f' (s.cases[i0].fields.map bN)∧f=f' :=⟨f,of.keep fun k e=>by rw[←eK3,ag _ _ (nf4 k e).2.2.2,kK k (of.nid e).2.1],rfl⟩
   rw[ef']at e1';replace ap3:∀k,nid f' =some k→K k=none∨nid f=some k:=by rw[←ef'];exact ap3
   have sH3:Ab.Sub H K3:=fun k b hk=>aeS
   have ol3:OwE 163 H K3 3 l (s.cases[i0].log.map iU):=ol.keep fun k e=>kk3 k (ol.nid e).2.1 (nl4 k e).2.2.2 (fun e1=>hap k e1 e)
   have hX5:∀y1 y2:AV,Sized 5 (xs.set i0 (.agg (cg ({s.cases[i0]with state:=o.to}:aM) y1 y2))):=fun y1 y2 z hz=>by
    exact ai1
   have mkO:∀ {G:Heap} {y1 y2:AV},G id1=some (.obj (au (xs.take i0)++(cg ({s.cases[i0]with state:=o.to}:aM) y1 y2++(au (xs.drop (i0+1))++rest))) 133)→Ow 133 G 5 id1 z1 (xs.set i0 (.agg (cg ({s.cases[i0]with state:=o.to}:aM) y1 y2))):=fun {G y1 y2} hG=>⟨cap,rest,agr,by rw[hG,tL hjx];simp[AV.cells],ahi,agl,hX5 _ _⟩
   have hjs:∀x:AV,i0<(xs.set i0 x).length:=fun x=>by rw[List.length_set];exact hjx
   refine .calls (pick K3 [i3,i5]) [0,1,2,3,4,5,6,7,8,9] bR aec rfl ?_;simp only[go_sem,bC (show i5∈ [i3,i5] by simp),m3,m5]
   refine(mkO e1').idx (U:=U) (e:=133) i0 rfl (hjs _) nX aed ?_;simp only[go_sem,bC (show i3∈ [i3,i5] by simp),m3,m5]
   have hha:=sH (h0:=H) (h:=K3) (s:=s) z1 z2 z3 z4 (k:=id1) (c:=({s.cases[i0]with state:=o.to}:aM)) (f:=f') (l:=l) lA e1' aed ol3 sH3 hfl o.subj o.to
   rw[hpp,hcC]at hha;simp only[List.cons_append,List.nil_append]at hha;refine hha.mono fun r K4 ⟨l',ol',e1'',fr4,ap4⟩=>?_
   have m3' :K4 i3=_:=(fr4 i3 (by rw[m3];simp) n13.symm fun e=>(nl4 _ e).1 rfl).trans m3
   have m4' :K4 i4=_:=(fr4 i4 (by rw[m4];simp) n14.symm fun e=>(nl4 _ e).2.1 rfl).trans m4
   have m5' :K4 i5=_:=(fr4 i5 (by rw[m5];simp) n15.symm fun e=>(nl4 _ e).2.2.1 rfl).trans m5
   refine⟨iY fun k hk=>?_,?_⟩
   ·simp only[List.mem_cons,List.not_mem_nil,or_false]at hk
    rcases hk with rfl|rfl
    ·rw[m3',m3]
    ·rw[m5',m5]
   simp only[go_sem];simp only[go_sem,m5',m4'];obtain⟨K5,eK5⟩:∃K5,upd K4 i4 (some (.obj [.v (.int .i64 s.tick),z1,z2,z3,z4,.s pid,.v (.bool pset),.v (.int .i64 palg),aV ptgt,.sl (prules.map aC) .no,.sl (pkids.map aO) .no,ay pobls,.v (.int .i64 s.version)] 51))=K5:=⟨_,rfl⟩;rw[eK5];have o5:∀k,k≠i4→K5 k=K4 k:=fun k a=>by rw[←eK5,ag _ _ a]
   have kk5:∀k,H k=none→H1 k≠none→k≠id1→nid f≠some k→nid l≠some k→K5 k=H1 k:=fun k a b c d e=>by
    exact aj4
   have of5:OwE 160 H K5 4 f' _:=of'.keep fun id e=>by
    exact aiG
   have ol5:OwE 163 H K5 3 l' _:=ol'.keep fun id e=>o5 id (hz4 id (ol'.nid e).1)
   have sg4:Ab.Sub g K4:=fun k b hk=>by
    exact aja
   have sg5:Ab.Sub g K5:=by rw[←eK5];exact sg4.put h4' _
   have n1' :nid z1=some id1:=o1.nid;have hdo:doD aQ s o= {s with cases:=s.cases.modify i0 fun c=>jD s {c with state:=o.to} o.subj o.to}:=by simp[doD,p4,ej]
   refine .mk _ (.refl _) (.refl _) ⟨sg5,_,?_,fun _=>rfl⟩
   rw[hdo];have thr:∀w∈ [z1,z2,z3,z4],∀k,nid w=some k→H1 k≠none:=fun w hw k e=>by
    exact ai7
   refine pO rfl hpp rfl ?_ ((w2.keep fun id e=>kk5 id (w2.nid e).1 (w2.nid e).2.1 (fun e1=>a12 id1 n1' agT) (fun e1=>(hys z2 aeg).1 id e1 e) (fun e1=>(hys z2 aeg).2 id e1 e)).bL fun _ e=>hH.none e) ((w3.keep fun id e=>kk5 id (w3.nid e).1 (w3.nid e).2.1 (fun e1=>a13 id1 n1' agT) (fun e1=>(hys z3 aeg).1 id e1 e) (fun e1=>(hys z3 aeg).2 id e1 e)).bL fun _ e=>hH.none e) ((w4.keep fun id e=>kk5 id (w4.nid e).1 (w4.nid e).2.1 (fun e1=>a14 id1 n1' agT) (fun e1=>(hys z4 aeg).1 id e1 e) (fun e1=>(hys z4 aeg).2 id e1 e)).bL fun _ e=>hH.none e) ⟨a12,a13,a14,a23,a24,a34⟩
   refine Cz (X:=.agg (cg ({s.cases[i0]with state:=o.to}:aM) f' l')) ((show OwE 133 H K5 5 z1 _ from .inr ⟨id1,hg1,mkO ((o5 id1 n14).trans e1'')⟩).bL (fun _ e=>hH.none e)) hnx (fun k h1 h2 hk=>hlo k h1 h2 hk) fun hh=>⟨f',l',rfl,of5.bL (fun _ e=>hH.none e),ol5.bL (fun _ e=>hH.none e),fun k e1 e2=>?_,fun w hw=>⟨fun k e1 e2=>?_,fun k e1 e2=>?_⟩⟩
   ·rcases ap4 k e2 with h|h
    ·exact(of'.nid e1).2.1 h
    ·rcases ap3 k e1 with h' |h'
     ·exact(ol.nid h).2.1 (sK.none h')
     ·exact hap k h' h
   ·rcases ap3 k e1 with h|h
    ·exact thr w hw k e2 (sK.none h)
    ·exact(hys w hw).1 k h e2
   ·rcases ap4 k e1 with h|h
    ·by_cases h1:k=id1
     ·subst h1;rw[e1']at h;cases h
     ·have:=kk3 k (thr w hw k e2) h1 (fun e=>(hys w hw).1 k e e2)
      rw[h]at this;exact thr w hw k e2 this.symm
    ·exact(hys w hw).2 k h e2
  have k4' :(o.kind==4)=false:=by simp[p4]
  simp only[go_sem,k4'];have kkK:∀k,H k=none→H1 k≠none→K k=H1 k:=fun k _ b=>kK k b
  by_cases p5:o.kind=5
  ·have k5' :(o.kind==5)=true:=by simp[p5]
   simp only[go_sem,k5'];have hrv:0<o.review:=by
    simp only[cU,dU,Bool.and_eq_true]at hform;simpa[okD,p5]using hform.2.1.2
   obtain⟨n,en⟩:∃n:Nat,o.review=((n:Nat):Int)+1:=⟨(o.review - 1).toNat,ad9⟩;have w5:IntKind.i64.wrap (o.review - 1)=((n:Nat):Int):=by rw[aZ _ (by have:=hr.2;omega)];omega
   have hn5:n<s.reviews.length:=by
    have:fu s o=0:=by simpa[bI,hform,p5]using p0
    unfold fu at this;have e1:wV s.reviews o.review=s.reviews[n]? :=by unfold wV;rw[if_pos ad9,show(o.review - 1).toNat=n by omega]
    rw[e1]at this
    by_cases hlt:n<s.reviews.length
    ·exact hlt
    ·rw[List.getElem?_eq_none ad9]at this;cases this
   have hnm:n<(s.reviews.map iZ).length:=by simpa using hn5
   obtain⟨id2,hg2,o2⟩:=w2.ow (by intro e;rw[e]at hnm;cases hnm)
   have o2' :=o2;obtain⟨cap,rest,ey,hid,hrl,hcap,hsz⟩:=o2';have n24:id2≠i4:=hz4 id2 hg2;have n25:id2≠i5:=hz5 id2 hg2 o2.none;have hidK:=sK _ _ hid;simp only[go_sem,k5,k3,w5];refine(o2.sub sK).idx (U:=U) (e:=99) n rfl hnm aej aed ?_;simp only[go_sem,hidK];have e2:List.take (n*7+6) (au (s.reviews.map iZ)++rest)++ [.v (.bool false)]++List.drop (n*7+6+1) (au (s.reviews.map iZ)++rest)=au ((s.reviews.modify n fun r=> {r with isOpen:=false}).map iZ)++rest:=by
    refine(ko hsz n hnm 6 [.v (.bool false)] (adY rfl)).trans ?_
    congr 2
    refine List.ext_getElem aeg fun j h1 h2=>?_
    by_cases e:j=n
    ·subst e;simp[iZ,AV.cells,Ab.over]
    ·rw[List.getElem_set_ne (Ne.symm e)];simp[Ne.symm e]
   rw[e2];refine⟨by rw[ad3,aX hsz];omega,?_⟩
   have k5b:∀b,upd K id2 b i5=_:=fun b=>(ag _ _ n25.symm).trans k5
   have k4b:∀b,upd K id2 b i4=_:=fun b=>(ag _ _ n24.symm).trans k4
   simp only[go_sem,k5b,k4b];have hdo:doD aQ s o= {s with reviews:=s.reviews.modify n fun r=> {r with isOpen:=false}}:=by simp[doD,p5,en]
   have kz:∀a b k,H k=none→H1 k≠none→nid z2≠some k→upd (upd K id2 a) i4 b k=H1 k:=fun a b k c d e=>by rw[ag _ _ (hz4 k c),ag _ _ (fun e' =>e (by rw[e'];exact o2.nid)),kK k d]
   refine .mk _ (.refl _) (.refl _) ⟨(Sub.put (i:=id2) sg (hH.none hg2) _).put h4' _,_,?_,fun _=>hi0⟩
   rw[hdo];exact pO rfl hpp rfl ((hC.keepx (z:=z2) aeg a12 (kz _ _)).bL (fun _ e=>hH.none e)) (.inr ⟨id2,hH.none hg2,cap,rest,by rw[ey];simp,by rw[ag _ _ n24,ah],by rw[hrl];simp,by simpa using hcap,bx (f:=iZ) (n:=7) (fun _=>rfl) _⟩) ((w3.keep fun id e=>kz _ _ id (w3.nid e).1 (w3.nid e).2.1 fun e1=>a23 id e1 e).bL fun _ e=>hH.none e) ((w4.keep fun id e=>kz _ _ id (w4.nid e).1 (w4.nid e).2.1 fun e1=>a24 id e1 e).bL fun _ e=>hH.none e) ⟨a12,a13,a14,a23,a24,a34⟩
  have k5' :(o.kind==5)=false:=by simp[p5]
  simp only[go_sem,k5']
  by_cases p6:o.kind=6
  ·have k6' :(o.kind==6)=true:=by simp[p6]
   simp only[go_sem,k6'];simp only[go_sem,k5,k3];have hha6:=Gb hSK.rd o.case o.field (Nat.le_trans hf.roles aed);rw[hpp,hcC]at hha6;simp only[List.cons_append,List.nil_append]at hha6;refine hha6.pthen ?_;cases dha:yK s.roles ⟨o.case,o.field⟩
   ·simp only[go_sem]
    simp only[go_sem,k5,k3];have hap1:Rd K 2 (.sl [eV ⟨o.case,o.field⟩] .full) [eV ⟨o.case,o.field⟩]:=.sl aeP .full;have hfr:=hf.roles;refine OwE.app (U:=U) (tb:=105) (w4.sub sK) (s1.trans sK) hap1 aej aed aee aej aeg aeI fun id4 y' K3 g4' hor hw ho2=>?_
    have hor' :K id4=none∨nid z4=some id4:=by
     exact aiU
    have n44:i4≠id4:=fun e=>by rw[←e,g4]at g4';cases g4'
    have n45:i5≠id4:=fun e=>by
     rcases hor' with hor|hor
     ·rw[←e,k5]at hor;cases hor
     ·exact(w4.nid hor).2.1 (by rw[←e];exact h5)
    have m4:K3 i4=_:=(ho2 i4 n44).trans k4;have m5:K3 i5=_:=(ho2 i5 n45).trans k5;simp only[go_sem,m5,hw.rd.fit,hw.rd.cells];simp only[go_sem,ak,n54,m4];have hdo:doD aQ s o= {s with roles:=s.roles++ [⟨o.case,o.field⟩]}:=by simp[doD,p6,dha]
    have gid4:g id4=none:=hH.none g4';have kz:∀a b k,H k=none→H1 k≠none→nid z4≠some k→upd (upd K3 i5 a) i4 b k=H1 k:=fun a b k c d e=>by
     have:k≠id4:=fun e' =>by
      rcases hor' with hor|hor
      ·have:=kK k d;rw[e',hor]at this;exact d (by rw[e'];exact this.symm)
      ·exact e (by rw[e'];exact hor)
     rw[ag _ _ (hz4 k c),ag _ _ (hz5 k c d),ho2 k this,kK k d]
    have sg3:Ab.Sub g K3:=fun k b hk=>by rw[ho2 k (fun e=>by rw[e,gid4]at hk;cases hk)];exact sg _ _ hk
    refine .mk _ (.refl _) (.refl _) ⟨(sg3.put g5 _).put h4' _,_,?_,fun _=>hi0⟩
    rw[hdo];have hw' :OwE 105 g K3 2 y' ((s.roles++ [(⟨o.case,o.field⟩:ij)]).map eV):=by rw[List.map_append];exact .inr ⟨id4,gid4,hw⟩
    have hry:∀k,nid y' =some k→H1 k=none∨nid z4=some k:=fun k e=>by
     have:id4=k:=by have:=hw.nid;rw[e]at this;exact(Option.some.inj this).symm
     subst this;exact hor'.imp (fun h=>sK.none h) id
    have har:∀ {w:AV},apart w z4→(∀k,nid w=some k→H1 k≠none)→apart w y' :=fun ha hh k e1 e2=>(hry k e2).elim (fun h=>hh k e1 h) (fun h=>ha k e1 h)
    refine pO rfl hpp rfl ((hC.move (z:=z4) aeg a14 (kz _ _) fun w hw k e=>?_).bL (fun _ e=>hH.none e)) ((w2.keep fun id e=>kz _ _ id (w2.nid e).1 (w2.nid e).2.1 fun e1=>a24 id e e1).bL fun _ e=>hH.none e) ((w3.keep fun id e=>kz _ _ id (w3.nid e).1 (w3.nid e).2.1 fun e1=>a34 id e e1).bL fun _ e=>hH.none e) (hw'.keep fun id e=>?_) ⟨a12,a13,har a14 fun k e=>(w1.nid e).2.1,a23,har a24 fun k e=>(w2.nid e).2.1,har a34 fun k e=>(w3.nid e).2.1⟩
    ·simp only[List.mem_cons,List.not_mem_nil,or_false]at hw
     rcases hw with rfl|rfl|rfl|rfl
     ·exact .inr ⟨w,aeg,e⟩
     ·exact .inr ⟨w,aeg,e⟩
     ·exact .inr ⟨w,aeg,e⟩
     ·exact(hry k e).imp id fun h=>⟨z4,aeg,h⟩
    ·have:id=id4:=by have:=hw.nid;rw[e]at this;exact Option.some.inj this
     rw[this,ag _ _ n44.symm,ag _ _ n45.symm]
   ·simp only[go_sem]
    simp only[go_sem,k5,k4];have hdo:doD aQ s o=s:=by simp[doD,p6,dha]
    rw[hdo];refine .mk _ (.refl _) (.refl _) ⟨sg.put h4' _,_,(hS.keepb fun k hk hk1=>?_).bL fun _ e=>hH.none e,fun _=>hi0⟩
    rw[ag _ _ (hz4 k hk),kK k hk1]
  have k6' :(o.kind==6)=false:=by simp[p6]
  simp only[go_sem,k6']
  by_cases p7:o.kind=7
  ·have k7' :(o.kind==7)=true:=by simp[p7]
   simp only[go_sem,k7'];simp only[go_sem,k3];refine(zo o.text _ (he.sub sg)).pthen ?_;obtain⟨⟨pp,e,a⟩,epp⟩:∃x,aQ o.text=x:=⟨_,rfl⟩;obtain⟨qid,qset,qalg,qtgt,qrules,qkids,qobls⟩:=pp;rw[epp];simp only[go_sem,kj,aO,bf];intro i9 h9;have n95:i5≠i9:=fun e=>by rw[←e,k5]at h9;cases h9
   have n94:i4≠i9:=fun e=>by rw[←e,k4]at h9;cases h9
   simp only[go_sem];have g9:g i9=none:=sg.none h9;have sg9:∀b,Ab.Sub g (upd K i9 b):=fun b=>sg.put g9 b
   have hz9:∀k,H1 k≠none→k≠i9:=fun k hk e=>hk (by have:=kK k hk;rw[e,h9]at this;rw[e];exact this.symm)
   by_cases pe:e=0
   ·have de:(e==0)=true:=by simp[pe]
    have wv:IntKind.i64.wrap (s.version+1)=s.version+1:=aZ _ ad9;simp only[go_sem,de];simp only[go_sem,ak,n95,n94,n54,k5,k4,wv];have hdo:doD aQ s o= {s with policy:=.mk qid qset qalg qtgt qrules qkids qobls,version:=s.version+1}:=by simp[doD,p7,epp,pe]
    have kz:∀a b c k,H k=none→H1 k≠none→upd (upd (upd K i9 a) i5 b) i4 c k=H1 k:=fun a b c k d e=>by rw[ag _ _ (hz4 k d),ag _ _ (hz5 k d e),ag _ _ (hz9 k e),kK k e]
    refine .mk _ (.refl _) (.refl _) ⟨((sg9 _).put g5 _).put h4' _,_,?_,fun _=>hi0⟩
    rw[hdo];exact pO rfl rfl rfl ((hC.keepb (kz _ _ _)).bL (fun _ e=>hH.none e)) ((w2.keepb (kz _ _ _)).bL (fun _ e=>hH.none e)) ((w3.keepb (kz _ _ _)).bL (fun _ e=>hH.none e)) ((w4.keepb (kz _ _ _)).bL (fun _ e=>hH.none e)) ⟨a12,a13,a14,a23,a24,a34⟩
   ·have de:(e==0)=false:=by simp[pe]
    simp only[go_sem,de];simp only[go_sem,ak,n95,n94,k5,k4];have hdo:doD aQ s o=s:=by simp[doD,p7,epp,pe]
    rw[hdo];refine .mk _ (.refl _) (.refl _) ⟨(sg9 _).put h4' _,_,(hS.keepb fun k hk hk1=>?_).bL fun _ e=>hH.none e,fun _=>hi0⟩
    rw[ag _ _ (hz4 k hk),ag _ _ (hz9 k hk1),kK k hk1]
  have k7' :(o.kind==7)=false:=by simp[p7]
  simp only[go_sem,k7']
  by_cases p8:o.kind=8
  ·have k8' :(o.kind==8)=true:=by simp[p8]
   simp only[go_sem,k8'];have hrv:0<o.review∧o.review≤1099511627776:=by
    simp only[cU,dU,Bool.and_eq_true]at hform;simpa[okD,p8]using hform.2.1.2
   have htk:¬s.tick>1099511627776 - o.review:=by
    intro hgt;simp[bI,hform,p8,hgt]at p0
   have w8:IntKind.i64.wrap (s.tick+o.review)=s.tick+o.review:=aZ _ (by have:=ht.1;omega)
   simp only[go_sem,k5,k3,w8];simp only[go_sem,ak,n54,k4];have hdo:doD aQ s o= {s with tick:=s.tick+o.review}:=by simp[doD,p8]
   have kz:∀a b k,H k=none→H1 k≠none→upd (upd K i5 a) i4 b k=H1 k:=fun a b k c d=>by rw[ag _ _ (hz4 k c),ag _ _ (hz5 k c d),kK k d]
   refine .mk _ (.refl _) (.refl _) ⟨(sg.put g5 _).put h4' _,_,?_,fun _=>hi0⟩
   rw[hdo];exact pO rfl hpp rfl ((hC.keepb (kz _ _)).bL (fun _ e=>hH.none e)) ((w2.keepb (kz _ _)).bL (fun _ e=>hH.none e)) ((w3.keepb (kz _ _)).bL (fun _ e=>hH.none e)) ((w4.keepb (kz _ _)).bL (fun _ e=>hH.none e)) ⟨a12,a13,a14,a23,a24,a34⟩
  have k8' :(o.kind==8)=false:=by simp[p8]
  simp only[go_sem,k8'];simp only[go_sem,k5,k4];have hdo:doD aQ s o=s:=by simp[doD,p1,p3,p4,p5,p6,p7,p8]
  rw[hdo];refine .mk _ (.refl _) (.refl _) ⟨sg.put h4' _,_,(hS.keepb fun k hk hk1=>?_).bL fun _ e=>hH.none e,fun _=>hi0⟩
  rw[ag _ _ (hz4 k hk),kK k hk1]
 ·have d0:(bI s o !=0)=true:=by simp[p0]
  simp only[go_sem,d0];simp only[go_sem,k5,k4];have hdone:cS aQ s o=s:=by simp[cS,p0]
  rw[hdone];refine .mk _ (.refl _) (.refl _) ⟨sg.put h4' _,_,(hS.keepb fun k hk hk1=>?_).bL fun _ e=>hH.none e,fun h=>(p0 h).elim⟩
  rw[ag _ _ (hz4 k hk),kK k hk1]
end Go.Proofs.YtbbadggejjgihaaGreatDoor
namespace Go.Bf
def MC:Txt:=[112,111,108,105,99,121,32,111,112,101,110,32,112,101,114,109,105,116,117,110,108,101,115,115,32,123,32,125]
def mc:bD:=.mk jR false 6 [] [] [] []
def xx:an:=⟨0,[],[],[],[],mc,0⟩
end Go.Bf
namespace Go.Proofs.YtbbadggejjgihaaGreatDoor
open Go Go.Ab Go.Bf
theorem O2{g K:Heap}{S:an}{y1 y2 y3 y4:AV}{tk ver palg:Int}{pid:Txt}{pset:Bool}{ptgt:gj}{prules:List cR}{pkids:List bD}{pobls:List cD}(h1:S.tick=tk)(h2:S.policy= .mk pid pset palg ptgt prules pkids pobls)(h3:S.version=ver)
  (a:Frz g K y1 (gm S.cases)) (b:Frz g K y2 (kN S.reviews)) (c:Frz g K y3 (lO S.notices)) (d:Frz g K y4 (eJ S.roles)):
  Frz g K (.agg [.i tk,y1,y2,y3,y4,.s pid,.b pset,.i palg,aV ptgt,.sl (prules.map aC) .no,.sl (pkids.map aO) .no,ay pobls,.i ver]) (cI S):=by
 have:=u9 a b c d;rw[h1,h2,h3,show gb (.mk pid pset palg ptgt prules pkids pobls)= [.s pid,.b pset,.i palg,aV ptgt,.sl (prules.map aC) .no,.sl (pkids.map aO) .no,ay pobls] by simp[gb,bf]]at this
 exact aeR
theorem KS{H:Heap}{i j:Nat}{a b:Option Blk}(c:Option Blk)(h:i≠j):upd (upd (upd H i a) j b) i c=upd (upd H i c) j b:=by
 grind [ah,ag]
theorem MD:aQ MC=(mc,0,0):=aeo
theorem SV(h:Heap)(he:iQ h):ai Tryz.prog 18 [] h fun r h' =>r=cI xx∧h' =h:=
 ai.freeze fun g hg _=>by
 replace he:=he.sub hg;refine ad8 Tryz.func18 11 [.cell 0 51] fun hwf=>?_
 simp only[go_sem];intro i1 h1;simp only[go_sem];refine(zo MC _ (he.sub (.aj h1))).pthen ?_;rw[MD];simp only[go_sem,kj,mc,aO,aV,ay,fK,jR,List.map_nil];intro i2 h2;have n21:=aI h2;have n2:=aB h2;simp only[go_sem,ak,n21.symm];refine .mk _ (.refl _) (.refl _) ⟨?_,cI xx,O2 (S:=xx) rfl rfl rfl mJ mJ mJ mJ,rfl⟩;rw[KS _ n21.symm];exact((Sub.refl g).put h1 _).put n2 _
theorem sk(s:Txt)(h:Heap):ai Tryz.prog 107 [.s s] h fun r h' =>r=aS (idV s)∧h' =h:=by
 refine ad8 Tryz.func107 5 [.cell 2 32] fun hwf=>?_
 exact ajJ
theorem dV(cat:Int)(name:Txt)(xs:List AV)(q:Perm)(h:Heap):ai Tryz.prog 108 [.i cat,.s name,.sl xs q] h fun r h' =>r= .agg [.i cat,.s name,.sl xs q]∧h' =h:=by
 refine ad8 Tryz.func108 11 [.cell 6 199] fun hwf=>?_
 exact ajJ
theorem Mn{α:Type}(y:AV)(xs:List AV)(ds:List α)(q:α→Bool)(g:FuncId)(cap:List AV)(h:Heap)(hb:Rd h 3 y xs)(hn:xs.length=ds.length)(hl:xs.length≤1000000000)(hx:∀x∈xs,bA x=true)
  (hp:∀i (h1:i<xs.length) (h2:i<ds.length),ai Tryz.prog g (xs[i]::cap) h fun r h' =>r= .b (q ds[i])∧h' =h):
  ai Tryz.prog 253 [y,.fn g cap] h fun r h' =>r= .i (ixD q ds)∧h' =h:=by
 refine ad8 Tryz.func253 19 [.tmp 4] fun hwf=>?_
 simp only[go_sem,hb.len];refine .intro (fun m ρ h' =>h' =h∧∃i:Nat,i≤xs.length∧m=xs.length - i∧(∀j (hj:j<i) (h2:j<ds.length),q ds[j]=false)∧lk ρ 0=some y∧lk ρ 1=some (.fn g cap)∧lk ρ 7=some (.i xs.length)∧lk ρ 8=some (.i i)) xs.length ?_ ?_
 ·refine⟨rfl,0,ad9,rfl,fun j hj=>ad9,?_,?_,?_,?_⟩<;>simp only[go_sem]
 ·rintro m ρ h' ⟨rfl,i,hi,rfl,hc,r0,r1,r7,r8⟩
  simp only[go_sem,r7,r8];refine .intro (fun e=>?_) (fun e=>?_)
  ·have hlt:i<xs.length:=ad6 e
   have hlt2:i<ds.length:=ad9;have w1:IntKind.i64.wrap ((i:Int)+1)=((i+1:Nat):Int):=aek;simp only[go_sem,r0,r1,r8];refine hb.idx (e:=163) i rfl hlt aeo aed fun p hp1=>?_
   have hld:=hp1.all (U:=U) (ty:=163) aed ae3 afY;simp only[go_sem,hld];refine(show ai Tryz.prog g (xs[i]::cap) _ _ from hp i hlt hlt2).pthen ?_
   cases d1:q ds[i]
   ·simp only[go_sem,r8,w1]
    refine⟨_,?_,rfl,i+1,ad9,rfl,fun j hj h2=>?_,?_,?_,?_,?_⟩
    ·omega
    ·grind
    all_goals simp only[go_sem,r0,r1,r7]
   ·simp only[go_sem]
    exact .same (.refl _) ⟨aeT,rfl⟩
  ·have hge:i=xs.length:=by grind
   simp only[go_sem];exact .same (.refl _) ⟨aeB,rfl⟩
theorem NT{h:Heap}(x:xV){k:Nat}{subj:Txt}(hk:h k=some (.obj [.s subj] 9)):ai Tryz.prog 213 [iU x,.ptr k 0] h fun r h' =>r= .b (x.actor==subj)∧h' =h:=by
 refine ad8 Tryz.func213 8 [.tmp 3] fun hwf=>?_
 simp only[go_sem,iU];exact aiB
theorem uT{α:Type}(q:α→Bool)(l:List α):decide ((0:Int)≤ixD q l)=l.any q:=by
 unfold ixD
 grind
theorem JR(y:AV)(ds:List xV)(q:xV→Bool)(g:FuncId)(cap:List AV)(h:Heap)(hb:Rd h 3 y (ds.map iU))(hl:ds.length≤1000000000)
  (hp:∀i (h2:i<ds.length),ai Tryz.prog g (iU ds[i]::cap) h fun r h' =>r= .b (q ds[i])∧h' =h):
  ai Tryz.prog 212 [y,.fn g cap] h fun r h' =>r= .b (ds.any q)∧h' =h:=by
 refine ad8 Tryz.func212 9 [.tmp 4] fun hwf=>?_
 simp only[go_sem];refine(Mn y _ ds q g cap h hb aeg aea (o6 (fun _=>rfl) _) fun i a b=>by rw[ad0];exact hp i b).pthen ?_
 simp only[go_sem,uT];exact aei
theorem Qk{h:Heap}{x:AV}{c:aM}(hb:RdC h x c)(subj:Txt)(hl:c.log.length≤1000000000):ai Tryz.prog 161 [x,.s subj] h fun r h' =>r=aS (uC c.log subj)∧h' =h:=by
 obtain⟨f,l,rfl,hf,hlg⟩:=hb;refine ad8 Tryz.func161 13 [.cell 4 32] fun hwf=>?_
 simp only[go_sem];intro i1 h1;simp only[go_sem];intro i2 h2;have n21:=aI h2;have n2:=aB h2;simp only[go_sem];intro i3 h3;have h3' :=aB h3;have n31:=aI h3';have n3:=aB h3';simp only[go_sem];intro i4 h4;have n43:=aI h4;have h4' :=aB h4;have h4'' :=aB h4';have n41:=aI h4'';have n4:=aB h4'';have hs:∀a b d e,Ab.Sub h (upd (upd (upd (upd h i1 a) i2 b) i3 d) i4 e):=fun a b d e=>((((Sub.refl h).put h1 a).put n2 b).put n3 d).put n4 e
 simp only[go_sem,ak,n21.symm,n31.symm,n41.symm];refine(JR l c.log (fun x=>x.actor==subj) _ [.ptr i2 0] _ (hlg.sub (hs _ _ _ _)) hl fun i b=>NT _ (by grind [ak,gr,not_false_eq_true])).pthen ?_
 cases d1:c.log.any fun x=>x.actor==subj
 ·exact ajq
 ·exact ajq
def Af(g:br)(q:Perm):AV:=.agg [.i g.cat,.s g.name,.sl (g.bag.map aS) q]
def GRow(ys:List AV)(gs:List br):Prop:=ys.length=gs.length∧∀j (h1:j<ys.length) (h2:j<gs.length),∃q,ys[j]=Af gs[j] q
theorem GRow.sized{ys:List AV}{gs:List br}(h:GRow ys gs):Sized 3 ys:=fun z hz=>by
 obtain⟨i,hi,rfl⟩:=List.mem_iff_getElem.1 hz;obtain⟨q,e⟩:=h.2 i hi (by rw[←h.1];omega)
 rw[e];rfl
theorem GRow.one(g:br)(q:Perm):GRow [Af g q] [g]:=⟨rfl,fun j h1 h2=>by
 grind⟩
theorem GRow.app{ys zs:List AV}{gs ks:List br}(h:GRow ys gs)(k:GRow zs ks):GRow (ys++zs) (gs++ks):=⟨by simp[h.1,k.1],fun j h1 h2=>by
 have hl:=h.1
 by_cases e:j<ys.length
 ·rw[List.getElem_append_left e,List.getElem_append_left ad9];exact h.2 j e ad9
 ·rw[List.getElem_append_right ad9,List.getElem_append_right ad9]
  simp only[ad3]at h1 h2;obtain⟨q,e'⟩:=k.2 (j - ys.length) ad9 ad9;exact⟨q,aea⟩⟩
theorem GRow.weak{ys:List AV}{gs:List br}(h:GRow ys gs)(q:Perm):Weak (.sl ys q) (bJ gs):=by
 refine .deep _ _ q (by simp[h.1]) (fun k h1 h2=>?_) fun k h1 h2 j h3 h4=>?_
 ·obtain⟨q',e'⟩:=h.2 k h1 aea
  rw[e',ad0];rfl
 ·obtain⟨q',e'⟩:=h.2 k h1 aea
  simp only[e',ad0];simp only[e',Af,AV.cells]at h3;rcases j with _|_|_|j
  ·exact afu
  ·exact afu
  ·exact agO
  ·simp at h3;omega
theorem GRow.givs(gs:List br):GRow (gs.map lH) gs:=⟨aeg,fun j h1 h2=>⟨.no,aen⟩⟩
theorem cw:(U 199).sz=3:=aeo
theorem fP(g:br)(q:Perm):Sized 3 [Af g q]:=fun z hz=>ag3
def sI(c:aM)(subj:Txt):List br:=[⟨3,idT,[idV c.id]⟩,⟨3,[111,119,110,101,114],[idV c.owner]⟩,⟨3,[115,116,97,116,101],[idV c.state]⟩,⟨3,[101,118,101,110,116,115],[⟨2,c.log.length,[]⟩]⟩,⟨3,[116,111,111,107],[uC c.log subj]⟩]
def sM(c:aM):List br:=match c.log.getLast? with
 |some x=>[⟨3,[108,97,115,116],[idV x.actor]⟩]
 |none=>[]
def fR(l:List cO):List br:=(l.filter fun f=>decide (f.name.length≤14)).map fun f=>⟨3,[102,95]++f.name,[f.val]⟩
theorem mC(l:List cO)(i:Nat)(h:i<l.length):fR (l.take (i+1))=fR (l.take i)++(if l[i].name.length≤14 then [⟨3,[102,95]++l[i].name,[l[i].val]⟩]else []):=by
 grind [fR,List.take_succ_eq_append_getElem]
theorem qw(c:aM)(subj:Txt):cG c subj=sI c subj++sM c++fR c.fields:=rfl
theorem Fx{h:Heap}(c:aM)(subj:Txt)(hl:c.log.length≤1000000)(hlf:c.fields.length≤1000000):ai Tryz.prog 109 [ct c,.s subj] h fun r h' =>r=bJ (cG c subj)∧h' =h:=by
 refine ad8 Tryz.func109 77 [.tmp 4] fun hwf=>?_
 simp only[go_sem,ct,nL,gF,sO];intro i1 h1;simp only[go_sem];refine .quiet aec ?_;simp only[go_sem];refine⟨_,sk _ _,?_⟩;simp only[go_sem,aS,idV];refine⟨_,dV _ _ _ _ _,?_⟩;simp only[go_sem];refine⟨_,sk _ _,?_⟩;simp only[go_sem,aS,idV];refine⟨_,dV _ _ _ _ _,?_⟩;simp only[go_sem];refine⟨_,sk _ _,?_⟩;simp only[go_sem,aS,idV];refine⟨_,dV _ _ _ _ _,?_⟩;simp only[go_sem];refine⟨_,dV _ _ _ _ _,?_⟩;simp only[go_sem];refine⟨_,Qk (show RdC _ (.agg [.s c.id,.s c.owner,.s c.state,.sl (c.fields.map bN) .no,.sl (c.log.map iU) .no]) c from rdC _ c) subj ad9,?_⟩
 simp only[go_sem,aS];refine⟨_,dV _ _ _ _ _,?_⟩;simp only[go_sem,adZ];have hs1:∀b,Ab.Sub h (upd h i1 b):=fun b=>(Sub.refl h).put h1 b
 have hrow5:GRow [.agg [.i 3,.s [105,100],.sl [.agg [.i 5,.i 0,.s c.id]] .full],.agg [.i 3,.s [111,119,110,101,114],.sl [.agg [.i 5,.i 0,.s c.owner]] .full],.agg [.i 3,.s [115,116,97,116,101],.sl [.agg [.i 5,.i 0,.s c.state]] .full],.agg [.i 3,.s [101,118,101,110,116,115],.sl [.agg [.i 2,.i c.log.length,.s []]] .full],.agg [.i 3,.s [116,111,111,107],.sl [aS (uC c.log subj)] .full]] (sI c subj):=(GRow.one ⟨3,idT,[idV c.id]⟩ .full).app ((GRow.one ⟨3,[111,119,110,101,114],[idV c.owner]⟩ .full).app ((GRow.one ⟨3,[115,116,97,116,101],[idV c.state]⟩ .full).app ((GRow.one ⟨3,[101,118,101,110,116,115],[⟨2,c.log.length,[]⟩]⟩ .full).app (GRow.one ⟨3,[116,111,111,107],[uC c.log subj]⟩ .full))));simp only[aS]at hrow5;cases d1:decide ((0:Int)<(c.log.length:Int))
 ·have hl0:c.log= []:=List.length_eq_zero_iff.1 aea
  simp only[go_sem];simp only[go_sem,adZ];refine .intro (fun m ρ H=>∃(i:Nat) (y:AV) (ys:List AV),Acc U 199 h H y ys∧H i1=some (.obj [.s c.id,.s c.owner,.s c.state,.sl (c.fields.map bN) .no,.sl (c.log.map iU) .no] 133)∧GRow ys (sI c subj++fR (c.fields.take i))∧i≤c.fields.length∧m=c.fields.length - i∧lk ρ 5=some y∧lk ρ 2=some (.ptr i1 0)∧lk ρ 55=some (.sl (c.fields.map bN) .no)∧lk ρ 56=some (.i c.fields.length)∧lk ρ 57=some (.i i)) c.fields.length ?_ ?_
  ·refine⟨0,_,_,.full (hs1 _),ah ..,(by have:=hrow5;simpa[fR]using this),ad9,rfl,?_,?_,?_,?_,?_⟩<;>simp only[go_sem]
  ·rintro m ρ H ⟨i,y,ys,hy,g1,hrow,hi,rfl,r5,r2,r55,r56,r57⟩
   simp only[go_sem,r56,r57];refine .intro (fun e=>?_) (fun e=>?_)
   ·have hlt:i<c.fields.length:=ad6 e
    have w1:IntKind.i64.wrap ((i:Int)+1)=((i+1:Nat):Int):=aek;simp only[go_sem,r55,r57];refine .at i aea aen ?_;simp only[go_sem,ad0,bN];intro i8 h8;have n81:i1≠i8:=fun e=>aea
    simp only[go_sem];cases d2:decide ((c.fields[i].name.length:Int)≤14)
    ·exact aiF
    ·simp only[go_sem,r5]
     have h14:c.fields[i].name.length≤14:=aea;refine⟨by grind [Nat,lim],?_⟩
     refine(dV _ _ _ _ _).pthen ?_;simp only[go_sem];refine(hy.sub (.aj h8)).app (zs:=[Af ⟨3,[102,95]++c.fields[i].name,[c.fields[i].val]⟩ .full]) aed aed (fun k hk=>(Rd.sl (fP _ _) .full:Rd _ 3 _ _).src cw hk) (by rw[cw];exact hrow.sized) (by grind [cw,fP]) (by
      have hln:(fR (c.fields.take i)).length≤i:=agh;simp only[go_sem,hrow.1,List.length_cons,List.length_nil,sI];omega) fun y' H' hy' kp=>?_
     exact ai0
   ·have hge:i=c.fields.length:=by grind
    subst hge;rw[List.take_length]at hrow;obtain⟨q,rfl⟩:=hy.row;simp only[go_sem,r5];exact .mk (bJ (cG c subj)) (show Weak (.sl ys q) _ by rw[qw,sM,hl0];simpa using hrow.weak q) hy.1 ⟨rfl,rfl⟩
 ·have hl1:0<c.log.length:=by grind
  simp only[go_sem];have w0:IntKind.i64.wrap ((c.log.length:Int) - 1)=((c.log.length - 1:Nat):Int):=aek;simp only[go_sem,w0];refine .at (c.log.length - 1) aea aen ?_;simp only[go_sem,ad0,iU];rw[if_neg (fun hh=>hh.1)]
  refine(sk _ _).pthen ?_;simp only[go_sem,aS,idV];refine(dV _ _ _ _ _).pthen ?_;simp only[go_sem];have hgl:c.log.getLast? =some c.log[c.log.length - 1]:=aea;have hlast:GRow [.agg [.i 3,.s [108,97,115,116],.sl [.agg [.i 5,.i 0,.s c.log[c.log.length - 1].actor]] .full]] (sM c):=by
   unfold sM;rw[hgl];exact GRow.one ⟨3,[108,97,115,116],[idV c.log[c.log.length - 1].actor]⟩ .full
  refine .accs (hs1 _) fun y0 H0 hy0 kp0=>?_
  simp only[go_sem,kp0 _ _ _ (ah ..),adZ];refine .intro (fun m ρ H=>∃(i:Nat) (y:AV) (ys:List AV),Acc U 199 h H y ys∧H i1=some (.obj [.s c.id,.s c.owner,.s c.state,.sl (c.fields.map bN) .no,.sl (c.log.map iU) .no] 133)∧GRow ys ((sI c subj++sM c)++fR (c.fields.take i))∧i≤c.fields.length∧m=c.fields.length - i∧lk ρ 5=some y∧lk ρ 2=some (.ptr i1 0)∧lk ρ 55=some (.sl (c.fields.map bN) .no)∧lk ρ 56=some (.i c.fields.length)∧lk ρ 57=some (.i i)) c.fields.length ?_ ?_
  ·refine⟨0,_,_,hy0,kp0 _ _ _ (ah ..),(by have:=hrow5.app hlast;simpa[fR]using this),ad9,rfl,?_,?_,?_,?_,?_⟩<;>simp only[go_sem]
  ·rintro m ρ H ⟨i,y,ys,hy,g1,hrow,hi,rfl,r5,r2,r55,r56,r57⟩
   simp only[go_sem,r56,r57];refine .intro (fun e=>?_) (fun e=>?_)
   ·have hlt:i<c.fields.length:=ad6 e
    have w1:IntKind.i64.wrap ((i:Int)+1)=((i+1:Nat):Int):=aek;simp only[go_sem,r55,r57];refine .at i aea aen ?_;simp only[go_sem,ad0,bN];intro i8 h8;have n81:i1≠i8:=fun e=>aea
    simp only[go_sem];cases d2:decide ((c.fields[i].name.length:Int)≤14)
    ·exact aiF
    ·simp only[go_sem,r5]
     have h14:c.fields[i].name.length≤14:=aea;refine⟨by grind [Nat,lim],?_⟩
     refine(dV _ _ _ _ _).pthen ?_;simp only[go_sem];refine(hy.sub (.aj h8)).app (zs:=[Af ⟨3,[102,95]++c.fields[i].name,[c.fields[i].val]⟩ .full]) aed aed (fun k hk=>(Rd.sl (fP _ _) .full:Rd _ 3 _ _).src cw hk) (by rw[cw];exact hrow.sized) (by grind [cw,fP]) (by
      have hln:(fR (c.fields.take i)).length≤i:=agh;simp only[go_sem,hrow.1,List.length_cons,List.length_nil,sI,sM,hgl];omega) fun y' H' hy' kp=>?_
     exact ai0
   ·have hge:i=c.fields.length:=by grind
    subst hge;rw[List.take_length]at hrow;obtain⟨q,rfl⟩:=hy.row;simp only[go_sem,r5];exact .mk (bJ (cG c subj)) (show Weak (.sl ys q) _ by rw[qw];exact hrow.weak q) hy.1 ⟨rfl,rfl⟩
end Go.Proofs.YtbbadggejjgihaaGreatDoor
