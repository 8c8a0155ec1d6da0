/- The law ScriptForm,ScriptWhat,ScriptBack: pack 4 of its texts. -/
import Derived.Lib.AtoiAll
import Derived.Shelf.Small.Strs
import Derived.Shelf.Small.Wraps
import Derived.Shelf.Strconv.AtoiAll
import Derived.Shelf.Strconv.ErrVarAll
import Derived.Shelf.Strings.Search1
import Derived.Test.YtfdgemhnlennbaaGreatDoorProg
import Derived.KernelRfl
import Derived.WalkKit
import Derived.BigCall
import Derived.Test.YtfdgemhnlennbaaGreatDoorPk1
import Derived.Test.YtfdgemhnlennbaaGreatDoorPk2
import Derived.Test.YtfdgemhnlennbaaGreatDoorPk3
set_option linter.unusedSimpArgs false
set_option linter.unusedVariables false
set_option maxRecDepth 100000
namespace Go.Ab
open Go
noncomputable def pick (H:Heap) (l:List Nat):Heap:=fun j=>if j∈l then H j else none
theorem bD{H:Heap}{l:List Nat}{j:Nat}(hj:j∈l):pick H l j=H j:=if_pos hj
theorem iT{H h' :Heap}{l:List Nat}(hs:∀j∈l,h' j=H j):Sub (pick H l) h' :=fun j b hb=>by
 simp_all [bD,pick,if_neg]
theorem bA{H:Heap}{l:List Nat}:Sub (pick H l) H:=iT fun _ _=>rfl
end Go.Ab
namespace Go.Proofs.YtfdgemhnlennbaaGreatDoor
open Go Go.Ab Go.Bf
def cg(c:aL)(f l:AV):List AV:=[.s c.id,.s c.owner,.s c.state,f,l]
theorem sJ{h0 h:Heap}{s:aq}(y1 y2 y3 y4:AV){k o:Nat}{A B:List AV}{t:TypeId}{c:aL}{f l:AV}(ho:o=A.length)(hk:h k=some (.obj (A++(cg c f l++B)) t))(ht:t≠191)
  (hlo:OwE 191 h0 h 3 l (c.log.map iQ)) (hs0:Ab.Sub h0 h) (hll:c.log.length≤1000000) (actor what:Txt):
  ai Tryz.prog 115 [.agg ([.i s.tick,y1,y2,y3,y4]++gb s.policy++ [.i s.version]),.ptr k o,.s actor,.s what] h fun r h' =>∃l',OwE 191 h0 h' 3 l' ((c.log++ [(⟨s.tick,actor,what⟩:xR)]).map iQ)∧h' k=some (.obj (A++(cg c f l' ++B)) t)∧(∀j,h j≠none→j≠k→nid l≠some j→h' j=h j)∧∀j,nid l' =some j→h j=none∨nid l=some j:=by
 cases hpp:s.policy with
 |mk pid pset palg ptgt prules pkids pobls=>
 have hcC:gb (.mk pid pset palg ptgt prules pkids pobls)= [.s pid,.b pset,.i palg,aV ptgt,.sl (prules.map aC) .no,.sl (pkids.map aM) .no,aA pobls]:=agO;refine adJ Tryz.func115 22 [] fun hwf=>?_
 simp only[go_sem,hcC,List.cons_append,List.nil_append];intro i1 h1;simp only[go_sem];obtain⟨H,eH⟩:∃H,upd h i1 (some (.obj [.i s.tick,y1,y2,y3,y4,.s pid,.b pset,.i palg,aV ptgt,.sl (prules.map aC) .no,.sl (pkids.map aM) .no,aA pobls,.i s.version] 63))=H:=⟨_,rfl⟩;have n1k:k≠i1:=fun e=>by rw[e,h1]at hk;cases hk
 have g1:H i1=some (.obj [.i s.tick,y1,y2,y3,y4,.s pid,.b pset,.i palg,aV ptgt,.sl (prules.map aC) .no,.sl (pkids.map aM) .no,aA pobls,.i s.version] 63):=afc;have gk:H k=some (.obj (A++(cg c f l++B)) t):=by rw[←eH,ag _ _ n1k];exact hk
 have hH:Ab.Sub h H:=by rw[←eH];exact(Sub.refl h).put h1 _
 have hoj:∀j,j≠i1→H j=h j:=fun j hj=>by rw[←eH];exact ag _ _ hj
 rw[eH];clear eH;refine .stage (hm2 k (.obj (A++(cg c f l++B)) t) i1 (.obj [.i s.tick,y1,y2,y3,y4,.s pid,.b pset,.i palg,aV ptgt,.sl (prules.map aC) .no,.sl (pkids.map aM) .no,aA pobls,.i s.version] 63)) [0,1,2,3,4,5,6,7,8,9,10,11,12,13] [14] (.hm2 gk g1) adN ?_;have hc4:(A++(cg c f l++B))[o+4]? =some l:=afB;obtain⟨CS,eCS⟩:∃CS,A++(cg c f l++B)=CS:=⟨_,rfl⟩;rw[eCS]at hc4 gk⊢;simp only[go_sem,rO,rN _ _ n1k,hc4];have hap1:Rd H 3 (.sl [iQ ⟨s.tick,actor,what⟩] .full) [iQ ⟨s.tick,actor,what⟩]:=.sl aew .full;refine OwE.app (U:=U) (tb:=191) (hlo.sub hH) (hs0.trans hH) hap1 adU adO adP adU adR aei fun id2 y' h' g2 hor hw ho2=>?_
 have hor' :H id2=none∨nid l=some id2:=by
  exact aiu
 have k2:k≠id2:=by
  rcases hor' with hor|hor
  ·exact fun e=>by rw[←e,gk]at hor;cases hor
  ·exact(mg ((hlo.sub hH).nid hor).2.2 gk ht).symm
 have i2:i1≠id2:=by
  rcases hor' with hor|hor
  ·exact fun e=>by rw[←e,g1]at hor;cases hor
  ·exact fun e=>(hlo.nid hor).2.1 (by rw[←e];exact h1)
 have gk' :=(ho2 k k2).trans gk;have gi' :=(ho2 i1 i2).trans g1;refine⟨.hm2 gk' gi',?_⟩;simp only[go_sem];refine⟨cH,(fun _ _ e=>ad8),?_⟩
 simp only[go_sem,gk',hw.rd.fit,hw.rd.cells];have lCS:CS.length=A.length+(5+B.length):=by rw[←eCS];simp[cg];omega
 have e5:List.take (o+4) CS++ [y']++List.drop (o+4+1) CS=A++(cg c f y' ++B):=by
  have:=pL (A:=A++ [.s c.id,.s c.owner,.s c.state,f]) (B:=[l]) (C:=B) (X:=[y']) (k:=o+4) (m:=1) (by rw[ho];simp) rfl rfl
  exact ajv
 rw[e5];refine⟨adK,(fun _ _ e=>ad8),.same (.refl _) ⟨y',?_,ah ..,fun j hj hjk hjl=>?_,fun j hj=>?_⟩⟩
 ·have hw' :Ow 191 (upd h' k (some (.obj (A++(cg c f y' ++B)) t))) 3 id2 y' (c.log.map iQ++ [iQ ⟨s.tick,actor,what⟩]):=hw.same (ag _ _ k2.symm)
  rw[List.map_append];exact .inr ⟨id2,g2,hw'⟩
 ·have hj2:j≠id2:=by
   rcases hor' with hor|hor
   ·intro e
    have:=hoj j (fun e' =>hj (by rw[e'];exact h1))
    rw[e,hor]at this;exact hj (by rw[e];exact this.symm)
   ·exact fun e=>hjl ahG
  have hj1:j≠i1:=fun e=>hj (by rw[e];exact h1)
  rw[ag _ _ hjk,ho2 j hj2,hoj j hj1]
 ·have:id2=j:=by have:=hw.nid;rw[hj]at this;exact(Option.some.inj this).symm
  rw[←this];rcases hor' with hor|hor
  ·refine .inl ?_
   cases hh:h id2 with
   |none=>rfl
   |some b=>rw[hH _ _ hh]at hor;cases hor
  ·exact .inr hor
theorem KX{h:Heap}(f:di){k:Nat}{name:Txt}(hk:h k=some (.obj [.s name] 9)):ai Tryz.prog 172 [bO f,.ptr k 0] h fun r h' =>r= .b (geB f.name name)∧h' =h:=by
 refine adJ Tryz.func172 8 [.tmp 3] fun hwf=>?_
 simp only[go_sem,bO];exact aia
theorem Ho{fs:List di}{name:Txt}{v:bt}(hx:¬fs.findIdx (fun f=>geB f.name name)<fs.length):fj fs name v=fs++ [⟨name,v⟩]:=by
 grind [fj,List.getElem?_eq_none,geB]
theorem z6{fs:List di}{name:Txt}{v:bt}(hx:fs.findIdx (fun f=>geB f.name name)<fs.length)(he:fs[fs.findIdx (fun f=>geB f.name name)].name=name):fj fs name v=fs.set (fs.findIdx (fun f=>geB f.name name)) ⟨name,v⟩:=by
 simp_all [fj,List.getElem?_eq_getElem,if_true]
theorem Hp{fs:List di}{name:Txt}{v:bt}(hx:fs.findIdx (fun f=>geB f.name name)<fs.length)(he:fs[fs.findIdx (fun f=>geB f.name name)].name≠name):fj fs name v=fs.take (fs.findIdx (fun f=>geB f.name name))++ [⟨name,v⟩]++fs.drop (fs.findIdx (fun f=>geB f.name name)):=by
 simp_all [fj,List.getElem?_eq_getElem,if_false]
theorem NZ{h0 h:Heap}{k o:Nat}{A B:List AV}{t:TypeId}{c:aL}{f l:AV}(ho:o=A.length)(hk:h k=some (.obj (A++(cg c f l++B)) t))(ht:t≠201)
  (hfo:OwE 201 h0 h 4 f (c.fields.map bO)) (hs0:Ab.Sub h0 h) (hff:c.fields.length≤1000000) (name:Txt) (v:bt):
  ai Tryz.prog 117 [.ptr k o,.s name,aP v] h fun r h' =>∃f',OwE 201 h0 h' 4 f' ((fj c.fields name v).map bO)∧h' k=some (.obj (A++(cg c f' l++B)) t)∧(∀j,h j≠none→j≠k→nid f≠some j→h' j=h j)∧∀j,nid f' =some j→h j=none∨nid f=some j:=by
 have hc3:(A++(cg c f l++B))[o+3]? =some f:=afB;have lCS:(A++(cg c f l++B)).length=A.length+(5+B.length):=by simp[cg];omega
 have e5:∀y',List.take (o+3) (A++(cg c f l++B))++ [y']++List.drop (o+3+1) (A++(cg c f l++B))=A++(cg c y' l++B):=fun y' =>by
  have:=pL (A:=A++ [.s c.id,.s c.owner,.s c.state]) (B:=[f]) (C:=l::B) (X:=[y']) (k:=o+3) (m:=1) (by rw[ho];simp) rfl rfl
  exact ajE
 obtain⟨CS,eCS⟩:∃CS,A++(cg c f l++B)=CS:=⟨_,rfl⟩;rw[eCS]at hc3 hk lCS e5;refine adJ Tryz.func117 60 [] fun hwf=>?_
 simp only[go_sem,aP];intro i1 h1;simp only[go_sem];intro i2 h2;have n21:=aH h2;have n2:=aB h2;have nk1:k≠i1:=fun e=>by rw[e,h1]at hk;cases hk
 have nk2:k≠i2:=fun e=>by rw[e,n2]at hk;cases hk
 obtain⟨H,eH⟩:∃H,upd (upd h i1 (some (.obj [.s name] 9))) i2 (some (.obj [.i v.kind,.i v.n,.s v.s] 33))=H:=⟨_,rfl⟩;have g1:H i1=some (.obj [.s name] 9):=afk;have g2:H i2=some (.obj [.i v.kind,.i v.n,.s v.s] 33):=afc;have gk:H k=some (.obj CS t):=by rw[←eH,ag _ _ nk2,ag _ _ nk1];exact hk
 have hH:Ab.Sub h H:=aeJ;have hoj:∀j,h j≠none→H j=h j:=fun j hj=>by rw[←eH,ag _ _ (fun e=>hj (by rw[e];exact n2)),ag _ _ (fun e=>hj (by rw[e];exact h1))]
 rw[eH];clear eH;simp only[go_sem,gk,hc3];refine(yN f _ c.fields (fun f=>geB f.name name) _ [.ptr i1 0] _ (hfo.sub hH).rd adR aep (o7 (fun _=>rfl) _) fun i a b=>by
  rw[adB];exact KX _ g1).pthen ?_
 have hns:∀G,Ab.Sub cH G:=fun G _ _ e=>ad8
 by_cases hx:c.fields.findIdx (fun f=>geB f.name name)<c.fields.length
 ·obtain⟨i,ei⟩:∃i,c.fields.findIdx (fun f=>geB f.name name)=i:=⟨_,rfl⟩
  have hxm:i<(c.fields.map bO).length:=by rw[←ei];simpa using hx
  have e1:ixD (fun f=>geB f.name name) c.fields=(i:Nat):=by rw[ixD,ei];exact if_pos (by rw[←ei];exact hx)
  have d1:decide (((i:Nat):Int)<0)=false:=decide_eq_false adK;rw[e1];simp only[go_sem,d1];refine⟨.of adN,?_⟩;simp only[go_sem,gk,hc3];refine(hfo.sub hH).rd.idx (e:=201) i rfl hxm Hh adO fun p hp1=>?_
  simp only[go_sem];refine hp1.field (f:=0) (off:=0) (t:=9) rfl KO fun p2 hp2=>?_
  have hld:=hp2.part (U:=U) (ty:=9) KO (by rw[adB,NP];exact adz rfl)
  simp only[go_sem,hld,adB,bO,g1];have hxi:i<c.fields.length:=by rw[←ei];exact hx
  cases d2:(c.fields[i].name==name)
  ·have hne:c.fields[i].name≠name:=by simpa using d2
   simp only[go_sem];refine .stage (pick H [k,i1,i2]) [0,1,2,3,4,5,6,7,8,9,10,11,12] [13] bA adN ?_;simp only[go_sem,bD (show k∈ [k,i1,i2] by simp),bD (show i1∈ [k,i1,i2] by simp),bD (show i2∈ [k,i1,i2] by simp),gk,g1,g2,hc3]
   refine(DS f _ (bO ⟨name,v⟩) i h0 H (hfo.sub hH) (hs0.trans hH) adK (by simpa using hff) rfl (by simp[bO,Ab.fit])).mono fun f' H1 ⟨w1,fr,ap⟩=>?_
   have nk:nid f≠some k:=fun e=>mg ((hfo.sub hH).nid e).2.2 gk ht rfl
   have n1' :nid f≠some i1:=fun e=>(hfo.nid e).2.1 h1
   have n2' :nid f≠some i2:=fun e=>(hfo.nid e).2.1 n2
   have gk' :H1 k=some (.obj CS t):=(fr k (by rw[gk];simp) nk).trans gk
   refine⟨iT fun j hj=>?_,?_⟩
   ·simp only[List.mem_cons,List.not_mem_nil,or_false]at hj
    rcases hj with rfl|rfl|rfl
    ·exact fr _ (by rw[gk];simp) nk
    ·exact fr _ (by rw[g1];simp) n1'
    ·exact fr _ (by rw[g2];simp) n2'
   simp only[go_sem];refine⟨cH,hns _,?_⟩;simp only[go_sem,gk',w1.rd.fit,w1.rd.cells];have hk2:nid f'≠some k:=fun e=>by
    rcases ap k e with h|h
    ·rw[gk]at h;cases h
    ·exact nk h
   have em:List.take i (c.fields.map bO)++([bO ⟨name,v⟩]++List.drop i (c.fields.map bO))=(fj c.fields name v).map bO:=by
    rw[Hp hx (by simp only[ei];exact hne),ei]
    simp[List.map_append,List.map_take,List.map_drop]
   rw[e5];rw[em]at w1;refine⟨adK,hns _,.same (.refl _) ⟨f',w1.keep fun id e=>ag _ _ fun e' =>hk2 (by rw[←e'];exact e),ah ..,fun j hj hjk hjl=>?_,fun j hj=>?_⟩⟩
   ·rw[ag _ _ hjk,fr j (by rw[hoj j hj];exact hj) hjl,hoj j hj]
   ·rcases ap j hj with h|h
    ·exact .inl (hH.none h)
    ·exact .inr h
  ·have heq:c.fields[i].name=name:=by simpa using d2
   simp only[go_sem];refine⟨.of adN,?_⟩;simp only[go_sem,gk,g2,hc3];obtain⟨id1,hg1,o1⟩:=(hfo.sub hH).ow (by intro e;rw[e]at hxm;cases hxm)
   have t1:id1≠k:=mg o1 gk ht;have o1' :=o1;obtain⟨cap,rest,ey,hid,hr,hcap,hsz⟩:=o1';refine o1.idx (U:=U) (e:=201) i rfl hxm Hh adO ?_;simp only[go_sem,hid];have hxl:=adB (f:=bO) (l:=c.fields) (i:=i) (h:=hxm);have e2:List.take (i*4+1) (au (c.fields.map bO)++rest)++ [.i v.kind,.i v.n,.s v.s]++List.drop (i*4+1+3) (au (c.fields.map bO)++rest)=au ((fj c.fields name v).map bO)++rest:=by
    refine(lJ hsz i hxm 1 [.i v.kind,.i v.n,.s v.s] (adz rfl)).trans ?_;rw[z6 hx (by simp only[ei];exact heq),ei,List.map_set,hxl]
    have:AV.agg (over (bO c.fields[i]).cells 1 [.i v.kind,.i v.n,.s v.s])=bO ⟨name,v⟩:=by rw[←heq];rfl
    rw[this]
   have lw:(fj c.fields name v).length=c.fields.length:=by rw[z6 hx (by simp only[ei];exact heq),List.length_set]
   rw[e2];refine⟨by rw[adE,aZ hsz];omega,.same (.refl _) ⟨f,.inr ⟨id1,hg1,cap,rest,by rw[ey];simp[lw],ah ..,by rw[hr];simp[lw],by rw[adA]at hcap⊢;omega,bx (f:=bO) (n:=4) (fun _=>rfl) _⟩,(ag _ _ t1.symm).trans (by rw[eCS];exact gk),fun j hj hjk hjl=>?_,fun j hj=> .inr hj⟩⟩
   have:j≠id1:=fun e=>hjl (by rw[e];exact o1.nid)
   rw[ag _ _ this,hoj j hj]
 ·have e1:ixD (fun f=>geB f.name name) c.fields= -1:=by rw[ixD];exact if_neg hx
  have d1:decide ((-1:Int)<0)=true:=rfl;rw[e1];simp only[go_sem,d1];refine .stage (pick H [k,i1,i2]) [0,1,2,3,4,5,6,7,8,9,10,11] [12] bA adN ?_;simp only[go_sem,bD (show k∈ [k,i1,i2] by simp),bD (show i1∈ [k,i1,i2] by simp),bD (show i2∈ [k,i1,i2] by simp),gk,g1,g2,hc3]
  have hap1:Rd H 4 (.sl [bO ⟨name,v⟩] .full) [bO ⟨name,v⟩]:=.sl aew .full;refine OwE.app (U:=U) (tb:=201) (hfo.sub hH) (hs0.trans hH) hap1 adU adO adP adU adR aei fun id2 y' h' g3 hor hw ho2=>?_
  have hor' :H id2=none∨nid f=some id2:=by
   exact aiu
  have k2:k≠id2:=by
   rcases hor' with hor|hor
   ·exact fun e=>by rw[←e,gk]at hor;cases hor
   ·exact(mg ((hfo.sub hH).nid hor).2.2 gk ht).symm
  have j1:i1≠id2:=by
   rcases hor' with hor|hor
   ·exact fun e=>by rw[←e,g1]at hor;cases hor
   ·exact fun e=>(hfo.nid hor).2.1 (by rw[←e];exact h1)
  have j2:i2≠id2:=by
   rcases hor' with hor|hor
   ·exact fun e=>by rw[←e,g2]at hor;cases hor
   ·exact fun e=>(hfo.nid hor).2.1 (by rw[←e];exact n2)
  refine⟨iT fun j hj=>ho2 j ?_,?_⟩
  ·simp only[List.mem_cons,List.not_mem_nil,or_false]at hj
   rcases hj with rfl|rfl|rfl
   ·exact k2
   ·exact j1
   ·exact j2
  have gk' :=(ho2 k k2).trans gk;simp only[go_sem];refine⟨cH,hns _,?_⟩;simp only[go_sem,gk',hw.rd.fit,hw.rd.cells];rw[e5,Ho hx];refine⟨adK,hns _,.same (.refl _) ⟨y',?_,ah ..,fun j hj hjk hjl=>?_,fun j hj=>?_⟩⟩
  ·have hw' :Ow 201 (upd h' k (some (.obj (A++(cg c y' l++B)) t))) 4 id2 y' (c.fields.map bO++ [bO ⟨name,v⟩]):=hw.same (ag _ _ k2.symm)
   rw[List.map_append];exact .inr ⟨id2,g3,hw'⟩
  ·have hj2:j≠id2:=by
    rcases hor' with hor|hor
    ·intro e
     have:=hoj j hj;rw[e,hor]at this;exact hj (by rw[e];exact this.symm)
    ·exact fun e=>hjl ahG
   rw[ag _ _ hjk,ho2 j hj2,hoj j hj]
  ·have:id2=j:=by have:=hw.nid;rw[hj]at this;exact(Option.some.inj this).symm
   rw[←this];rcases hor' with hor|hor
   ·exact .inl (hH.none hor)
   ·exact .inr hor
theorem Db{cs:List aL}{id:Txt}(h:bY cs id=true):bz cs id=cs[findD cs id]'(jP h):=by
 simp_all [bz,if_pos,List.getD_eq_getElem?_getD,List.getElem?_eq_getElem,jP]
theorem Dc{cs:List aL}{id:Txt}(h:bY cs id=false):bz cs id=oY:=by
 simp_all [bz,if_neg]
theorem mG{g h:Heap}{p:Perm}:Frz g h (.sl [] p) (.sl [] .no):=.sl _ _ _ rfl adK adR
theorem DE{g h:Heap}(c:aL):Frz g h (cr c) (cr c):=.agg _ _ rfl fun j a b=>by
 rcases j with _|_|_|_|_|j
 ·exact ad4
 ·exact ad4
 ·exact ad4
 ·exact .pure (show cN (gy c.fields)=true from bw (fun _=>rfl) c.fields)
 ·exact .pure (show cN (sQ c.log)=true from bw (fun _=>rfl) c.log)
 ·simp[nO]at a;omega
theorem Cf{h:Heap}{x:AV}{s:aq}(hb:RdS h x s)(id:Txt)(hf:Few s):ai Tryz.prog 59 [x,.s id] h fun r h' =>r= .tup [cr (bz s.cases id),.b (bY s.cases id)]∧h' =h:=
 ai.freeze fun g hg _=>by
 replace hb:=hb.sub hg;have hb0:=hb;obtain⟨y1,y2,y3,y4,rfl,⟨xs,hc,hn,hcs⟩,h2,h3,h4⟩:=hb;cases hpp:s.policy with
 |mk pid pset palg ptgt prules pkids pobls=>
 have hcC:gb (.mk pid pset palg ptgt prules pkids pobls)= [.s pid,.b pset,.i palg,aV ptgt,.sl (prules.map aC) .no,.sl (pkids.map aM) .no,aA pobls]:=agO;rw[hpp,hcC]at hb0;refine adJ Tryz.func59 23 [.cell 4 122,.tmp 5] fun hwf=>?_
 simp only[go_sem,hcC,List.cons_append,List.nil_append];intro i1 h1;simp only[go_sem];intro i2 h2';have n21:=aH h2';have n2:=aB h2';simp only[go_sem,ak,n21.symm];have hs:∀a b,Ab.Sub g (upd (upd g i1 a) i2 b):=fun a b=>((Sub.refl g).put h1 a).put n2 b
 refine(Cm (hb0.sub (hs _ _)) id hf.cases).pthen ?_;cases d1:bY s.cases id
 ·simp only[go_sem]
  refine .mk _ (.refl _) (.refl _) ⟨hs _ _,.tup [.agg [.s [],.s [],.s [],.sl [] .no,.sl [] .no],.b false],.tup _ _ rfl fun i a b=>?_,by rw[Dc d1];rfl⟩
  rcases i with _|_|i
  ·refine .agg _ _ rfl fun j c d=>?_
   rcases j with _|_|_|_|_|j
   ·exact ad4
   ·exact ad4
   ·exact ad4
   ·exact mG
   ·exact mG
   grind
  ·exact ad4
  grind
 ·have hlt:=jP d1
  have hltx:findD s.cases id<xs.length:=adK;obtain⟨f,l,ex,hfl,hlg⟩:=hcs _ hltx hlt;simp only[go_sem,ak,n21.symm];refine hc.idx (e:=122) (findD s.cases id) rfl hltx oe adO fun p hp1=>?_
  have hld:=fun a b=>(hp1.sub (hs a b)).all (U:=U) (ty:=122) adO (by rw[oe,ex];rfl) (by simp only[go_sem];rw[ex];rfl)
  simp only[go_sem,hld];refine(wV ((hcs _ hltx hlt).sub (hs _ _)) (hf.fields _ (adF hlt)) (hf.log _ (adF hlt))).pthen ?_;rw[←Db d1];simp only[go_sem,cr,nO,gy,sQ];refine .mk _ (.refl _) (.refl _) ⟨hs _ _,_,.tup _ _ rfl fun i a b=>?_,rfl⟩
  rcases i with _|_|i
  ·exact DE _
  ·exact ad4
  grind
theorem CL{h:Heap}{x:AV}{s:aq}(hb:RdS h x s)(o:OpD)(hf:Few s):ai Tryz.prog 101 [x,opA o] h fun r h' =>r= .i (bX s o)∧h' =h:=by
 have hb0:=hb;obtain⟨y1,y2,y3,y4,rfl,⟨xs,hc,hn,hcs⟩,h2,h3,h4⟩:=hb;cases hpp:s.policy with
 |mk pid pset palg ptgt prules pkids pobls=>
 have hcC:gb (.mk pid pset palg ptgt prules pkids pobls)= [.s pid,.b pset,.i palg,aV ptgt,.sl (prules.map aC) .no,.sl (pkids.map aM) .no,aA pobls]:=agO;rw[hpp,hcC]at hb0;refine adJ Tryz.func101 67 [.tmp 4] fun hwf=>?_
 simp -implicitDefEqProofs only[go_sem,hcC,opA,opC,List.cons_append,List.nil_append];intro i1 h1;simp -implicitDefEqProofs only[go_sem];intro i2 h2';have n21:=aH h2';have n2:=aB h2';simp -implicitDefEqProofs only[go_sem,ak,n21.symm];have hs:∀a b,Ab.Sub h (upd (upd h i1 a) i2 b):=fun a b=>((Sub.refl h).put h1 a).put n2 b
 refine(Cf (hb0.sub (hs _ _)) o.case hf).pthen ?_;simp -implicitDefEqProofs only[go_sem,cr,nO,gy,sQ];intro i3 h3';have n32:=aH h3';have h3b:=aB h3';have n31:=aH h3b;have n3:=aB h3b;have hs3:∀a b d,Ab.Sub h (upd (upd (upd h i1 a) i2 b) i3 d):=fun a b d=>(((Sub.refl h).put h1 a).put n2 b).put n3 d
 have hA:=(fun a b d=>Sub.trans (Sub.refl h) (hs3 a b d))
 simp -implicitDefEqProofs only[go_sem,ak,n32.symm];have hfl:(bz s.cases o.case).fields.length≤1000000000:=by
  unfold bz;split
  ·rename_i ht
   have hlt:=jP ht;rw[List.getD_eq_getElem?_getD,List.getElem?_eq_getElem hlt];exact Nat.le_trans (hf.fields _ (adF hlt)) adO
  decide
 cases d1:bY s.cases o.case
 ·simp -implicitDefEqProofs only[go_sem]
  exact .mk _ (.refl _) (hs3 _ _ _) ⟨by simp only[bX,d1];rfl,rfl⟩
 ·simp -implicitDefEqProofs only[go_sem,ak,n32.symm]
  cases k3:(o.kind==3)
  ·have p3:o.kind≠3:=by grind
   simp -implicitDefEqProofs only[go_sem];cases k2:(o.kind==2)
   ·have p2:o.kind≠2:=by grind
    have k2n:(o.kind !=2)=true:=adL;cases d256:decide ((256:Int)≤((bz s.cases o.case).log.length:Int))
    ·have p256:¬256≤(bz s.cases o.case).log.length:=by grind
     simp -implicitDefEqProofs only[go_sem,ak,n32.symm,adA,k3,k2n,d256];cases k4:(o.kind==4)
     ·have p4:o.kind≠4:=by grind
      exact ah6
     ·have p4:o.kind=4:=by grind
      simp -implicitDefEqProofs only[go_sem,ak,n32.symm];refine(F6 _ _ _).pthen ?_;cases dfo:mV (bz s.cases o.case).state o.to
      ·exact ah6
      ·exact ah6
    ·have p256:256≤(bz s.cases o.case).log.length:=by grind
     simp -implicitDefEqProofs only[go_sem,adA,k2n,d256];exact .mk _ (.refl _) (hs3 _ _ _) ⟨afq,rfl⟩
   ·have p2:o.kind=2:=by grind
    have k2n:(o.kind !=2)=false:=adL;simp -implicitDefEqProofs only[go_sem,ak,n32.symm,k3,k2n];cases k4:(o.kind==4)
    ·have p4:o.kind≠4:=by omega
     exact ah6
    ·have p4:o.kind=4:=by grind
     omega
  ·have p3:o.kind=3:=by grind
   cases d16:decide ((16:Int)≤((bz s.cases o.case).fields.length:Int))
   ·have p16:¬16≤(bz s.cases o.case).fields.length:=by grind
    simp -implicitDefEqProofs only[go_sem,adA,d16];exact ahZ
   ·have p16:16≤(bz s.cases o.case).fields.length:=by grind
    simp -implicitDefEqProofs only[go_sem,ak,n32.symm,adA,d16];refine(Dy (show RdC _ (.agg [.s (bz s.cases o.case).id,.s (bz s.cases o.case).owner,.s (bz s.cases o.case).state,AV.sl ((bz s.cases o.case).fields.map bO) .no,AV.sl ((bz s.cases o.case).log.map iQ) .no]) (bz s.cases o.case)from rdC _ _) o.field hfl).pthen ?_
    simp -implicitDefEqProofs only[go_sem,aP];cases dv:((eO (bz s.cases o.case).fields o.field).kind==(0:Int) && ((eO (bz s.cases o.case).fields o.field).n==(0:Int) && (eO (bz s.cases o.case).fields o.field).s==([]:Txt)))
    ·have pv:eqV (eO (bz s.cases o.case).fields o.field) an=false:=dv
     simp -implicitDefEqProofs only[go_sem];exact ahZ
    ·have pv:eqV (eO (bz s.cases o.case).fields o.field) an=true:=dv
     exact ah6
theorem Aw{h:Heap}{x:AV}{s:aq}(hb:RdS h x s)(o:OpD)(hf:Few s)(h0:0<o.review)(hr:o.review≤9223372036854775807):ai Tryz.prog 102 [x,opA o] h fun r h' =>r= .i (fS s o)∧h' =h:=by
 obtain⟨y1,y2,y3,y4,rfl,⟨xs,hc,hn,hcs⟩,h2,h3,h4⟩:=hb;cases hpp:s.policy with
 |mk pid pset palg ptgt prules pkids pobls=>
 have hcC:gb (.mk pid pset palg ptgt prules pkids pobls)= [.s pid,.b pset,.i palg,aV ptgt,.sl (prules.map aC) .no,.sl (pkids.map aM) .no,aA pobls]:=agO;have hfr:=hf.reviews;refine adJ Tryz.func102 35 [.tmp 4] fun hwf=>?_
 simp only[go_sem,hcC,opA,opC,List.cons_append,List.nil_append];intro i1 h1;simp only[go_sem];intro i2 h2';have n21:=aH h2';have n2:=aB h2';have hs:∀a b,Ab.Sub h (upd (upd h i1 a) i2 b):=fun a b=>((Sub.refl h).put h1 a).put n2 b
 simp only[go_sem,ak,n21.symm,h2.len,adA];obtain⟨n,en⟩:∃n:Nat,o.review=((n:Nat):Int)+1:=⟨(o.review - 1).toNat,adK⟩;have e1:wX s.reviews o.review=s.reviews[n]? :=by
  unfold wX;rw[if_pos adK,show(o.review - 1).toNat=n by omega]
 have w1:IntKind.i64.wrap (o.review - 1)=((n:Nat):Int):=adY;cases dlt:decide ((s.reviews.length:Int)<o.review)
 ·have hlt:n<s.reviews.length:=by grind
  have hgl:wX s.reviews o.review=some s.reviews[n]:=adL;simp only[go_sem,ak,n21.symm,w1];refine h2.idx (e:=135) n rfl adL adV adO fun p hp1=>?_
  simp only[go_sem];refine hp1.field (f:=6) (off:=6) (t:=4) rfl adO fun p2 hp2=>?_
  have hld:=fun a b=>(hp2.sub (hs a b)).part (U:=U) (ty:=4) adO (by rw[adB,show(U 4).sz=1 by rfl];exact adz rfl)
  simp only[go_sem,hld,adB,iU];cases dop:s.reviews[n].isOpen
  ·exact aix
  ·simp only[go_sem,ak,n21.symm]
   refine⟨.of adN,?_⟩;simp only[go_sem,w1];refine h2.idx (e:=135) n rfl adL adV adO fun p hp1=>?_
   simp only[go_sem];refine hp1.field (f:=2) (off:=2) (t:=9) rfl KO fun p2 hp2=>?_
   have hld:=fun a b=>(hp2.sub (hs a b)).part (U:=U) (ty:=9) KO (by rw[adB,NP];exact adz rfl)
   simp only[go_sem,hld,adB,iU];cases dsu:(s.reviews[n].subj==o.subj)
   ·have psu:s.reviews[n].subj≠o.subj:=by grind
    exact aix
   ·have psu:s.reviews[n].subj=o.subj:=by grind
    exact aix
 ·have hge:¬n<s.reviews.length:=by grind
  have hgn:wX s.reviews o.review=none:=adL;exact aix
theorem EO{h:Heap}{x:AV}{s:aq}(hb:RdS h x s)(o:OpD)(hf:Few s)(hr:i64 o.review)(ht:i64 s.tick):ai Tryz.prog 51 [x,opA o] h fun r h' =>r= .i (bN s o)∧h' =h:=by
 have hb0:=hb;have hfo:=tQ o;have hrc:=fun(G:Heap) (hG:Ab.Sub h G)=>CL (hb.sub hG) o hf
 have hrl:=fun(G:Heap) (hG:Ab.Sub h G) (a:0<o.review)=>Aw (hb.sub hG) o hf a hr.2
 have hfi:=fun(G:Heap) (hG:Ab.Sub h G)=>Cm (hb.sub hG) o.case hf.cases
 have hha:=fun(G:Heap) (hG:Ab.Sub h G)=>Gd (hb.sub hG) o.case o.field (Nat.le_trans hf.roles adO)
 obtain⟨y1,y2,y3,y4,rfl,⟨xs,hc,hn,hcs⟩,h2,h3,h4⟩:=hb;cases hpp:s.policy with
 |mk pid pset palg ptgt prules pkids pobls=>
 have hcC:gb (.mk pid pset palg ptgt prules pkids pobls)= [.s pid,.b pset,.i palg,aV ptgt,.sl (prules.map aC) .no,.sl (pkids.map aM) .no,aA pobls]:=agO;rw[hpp,hcC]at hb0 hrc hrl hfi hha;simp only[opA,opC,List.cons_append,List.nil_append]at hfo hrc hrl hfi hha;refine adJ Tryz.func51 63 [.tmp 4] fun hwf=>?_
 simp only[go_sem,hcC,opA,opC,List.cons_append,List.nil_append];intro i1 h1;simp only[go_sem];intro i2 h2';have n21:=aH h2';have n2:=aB h2';have hs:∀a b,Ab.Sub h (upd (upd h i1 a) i2 b):=fun a b=>((Sub.refl h).put h1 a).put n2 b
 simp only[go_sem];refine(hfo _).pthen ?_;cases dform:cB o
 ·exact ah3
 ·simp only[go_sem]
  have hok:okD o=true:=by simp_all [cB,dj,Bool.and_eq_true]
  by_cases p1:o.kind=1
  ·have k1:(o.kind==1)=true:=by grind
   simp only[go_sem,ak,n21.symm,k1];refine(hfi _ (hs _ _)).pthen ?_;cases dth:bY s.cases o.case
   ·simp only[go_sem,ak,n21.symm,hc.len,hn]
    cases d64:decide ((64:Int)≤(s.cases.length:Int))
    ·have p64:¬64≤s.cases.length:=by grind
     exact ah3
    ·have p64:64≤s.cases.length:=by grind
     exact ah3
   ·exact ah3
  have k1:(o.kind==1)=false:=adL;simp only[go_sem,k1]
  by_cases p2:o.kind=2
  ·have k2:(o.kind==2)=true:=by grind
   simp only[go_sem,ak,n21.symm,k2];refine(hrc _ (hs _ _)).pthen ?_;exact ah3
  have k2:(o.kind==2)=false:=adL;simp only[go_sem,k2]
  by_cases p3:o.kind=3
  ·have k3:(o.kind==3)=true:=by grind
   simp only[go_sem,ak,n21.symm,k3];refine(hrc _ (hs _ _)).pthen ?_;exact ah3
  have k3:(o.kind==3)=false:=adL;simp only[go_sem,k3]
  by_cases p4:o.kind=4
  ·have k4:(o.kind==4)=true:=by grind
   simp only[go_sem,ak,n21.symm,k4];refine(hrc _ (hs _ _)).pthen ?_;exact ah3
  have k4:(o.kind==4)=false:=adL;simp only[go_sem,k4]
  by_cases p5:o.kind=5
  ·have k5:(o.kind==5)=true:=by grind
   simp only[go_sem,ak,n21.symm,k5];have hrv:0<o.review:=by grind [okD]
   refine(hrl _ (hs _ _) hrv).pthen ?_;exact ah3
  have k5:(o.kind==5)=false:=adL;simp only[go_sem,k5]
  by_cases p6:o.kind=6
  ·have k6:(o.kind==6)=true:=by grind
   simp only[go_sem,ak,n21.symm,k6];simp only[go_sem,h4.len,adA];cases d64:decide ((64:Int)≤(s.roles.length:Int))
   ·have p64:¬64≤s.roles.length:=by grind
    exact ah3
   ·have p64:64≤s.roles.length:=by grind
    simp only[go_sem,ak,n21.symm];refine(hha _ (hs _ _)).pthen ?_;cases dha:yG s.roles ⟨o.case,o.field⟩
    ·exact ah3
    ·exact ah3
  have k6:(o.kind==6)=false:=adL;simp only[go_sem,k6]
  by_cases p8:o.kind=8
  ·have k8:(o.kind==8)=true:=by grind
   simp only[go_sem,ak,n21.symm,k8];have hrv:0<o.review∧o.review≤1099511627776:=by grind [okD]
   have w1:IntKind.i64.wrap (1099511627776 - o.review)=1099511627776 - o.review:=bh _ adK;cases dt:decide (1099511627776 - o.review<s.tick)
   ·have pt:¬1099511627776 - o.review<s.tick:=adD dt
    simp only[go_sem,w1,dt];exact .mk _ (.refl _) (hs _ _) ⟨afg,rfl⟩
   ·have pt:1099511627776 - o.review<s.tick:=adC dt
    simp only[go_sem,w1,dt];exact .mk _ (.refl _) (hs _ _) ⟨afg,rfl⟩
  have k8:(o.kind==8)=false:=adL;simp only[go_sem,k8];exact .mk _ (.refl _) (hs _ _) ⟨by have:¬(2≤o.kind∧o.kind≤4):=adK;simp only[bN,dform,p1,p5,p6,p8,this,if_false,Bool.true_eq_false,ax],rfl⟩
end Go.Proofs.YtfdgemhnlennbaaGreatDoor
namespace Go.Bf
open Go Go.Ab
structure lg where
 kind:Int
 pos:Int
 n:Int
 s:Txt
def fD(t:lg):AV:=.agg [.i t.kind,.i t.pos,.i t.n,.s t.s]
def wrd(c:UInt8):Bool:=ltr c||dgt c||(c.toNat:Int)==95
def kH(l:Txt):Nat:=l.foldl (fun n c=>n*10+(c.toNat - 48)) 0
def eP(neg:Bool)(s:Txt):Int×Nat:=
 let d:=s.takeWhile dgt
 if d= []∨(1<d.length∧s.head? =some 48)then(0,0)else
 let v:Int:=if neg then -(kH d:Int)else(kH d:Int)
 if -9223372036854775808≤v∧v≤9223372036854775807 then(v,d.length)else(0,0)
def iY(s:Txt):Txt:=if aX (s.takeWhile wrd)then s.takeWhile wrd else []
def jg(c:UInt8):Int:=if dgt c then(c.toNat:Int) - 48 else if 97≤(c.toNat:Int)∧(c.toNat:Int)≤102 then(c.toNat:Int) - 87 else -1
def se:Txt→Option UInt8
 |b::x::y::_=>if b=92∧0≤jg x∧0≤jg y∧sS (UInt8.ofNat (16*jg x+jg y).toNat)=true then some (UInt8.ofNat (16*jg x+jg y).toNat)else none
 |_=>none
def oV:Nat→Txt→Nat→Txt→Txt×Nat
 |0,_,_,_=>([],0)
 |_+1,[],_,_=>([],0)
 |f+1,c::r,at_,out=>
  if c=34 then(if 64<out.length then([],0)else(out,at_+1))
  else if sS c=false then oV f r (at_+1) (out++ [c])
  else match se (c::r)with
   |some b=>oV f (r.drop 2) (at_+3) (out++ [b])
   |none=>([],0)
def uF(s:Txt):Txt×Nat:=oV s.length (s.drop 1) 1 []
def Ed(c:UInt8):Bool:=c∈([123,125,40,41,46,44,59,61,60,62,33]:Txt)
def bB(s:Txt):lg×Nat:=
 let c:=s.headD 0
 if ltr c then(⟨1,0,0,iY s⟩,(iY s).length)
 else if dgt c then(⟨2,0,(eP false s).1,[]⟩,(eP false s).2)
 else if c=45 then(⟨2,0,(eP true (s.drop 1)).1,[]⟩,if(eP true (s.drop 1)).1=0 then 0 else(eP true (s.drop 1)).2+1)
 else if c=64 then(⟨3,0,(eP false (s.drop 1)).1,[]⟩,if(eP false (s.drop 1)).2=0∨(eP false (s.drop 1)).1>1099511627776 then 0 else(eP false (s.drop 1)).2+1)
 else if c=35 then(⟨4,0,0,iY (s.drop 1)⟩,if iY (s.drop 1)= []then 0 else(iY (s.drop 1)).length+1)
 else if c=34 then(⟨5,0,0,(uF s).1⟩,(uF s).2)
 else if Ed c then(⟨6,0,0,[c]⟩,1)
 else(⟨0,0,0,[]⟩,0)
inductive Lexed where
 |bad (e:Int) (at_:Int)
 |ok (l:List lg)
def lV(c:UInt8):Bool:=(c.toNat:Int)==32||(c.toNat:Int)==10
def qq:Nat→Txt→Nat→List lg→Lexed
 |0,_,at_,_=> .bad 5 at_
 |_+1,[],at_,out=> .ok (out++ [⟨7,at_,0,[]⟩])
 |f+1,c::r,at_,out=>
  if lV c then qq f r (at_+1) out
  else if(bB (c::r)).2=0 then .bad 5 at_
  else qq f ((c::r).drop (bB (c::r)).2) (at_+(bB (c::r)).2) (out++ [{(bB (c::r)).1 with pos:=at_}])
def pK(s:Txt):Lexed:=if s.length>4096 then .bad 6 4096 else qq (s.length+1) s 0 []
theorem j8(p:UInt8→Bool)(s:Txt):(s.takeWhile p).length≤s.length:=(List.takeWhile_prefix p).length_le
theorem rD(p:UInt8→Bool)(s:Txt):s.take (s.takeWhile p).length=s.takeWhile p:=by
 obtain⟨t,ht⟩:=List.takeWhile_prefix (l:=s) p
 grind
theorem pO(neg:Bool)(s:Txt):(eP neg s).2≤s.length:=by
 have:=j8 dgt s;unfold eP;simp only;split
 ·exact agR
 ·generalize (if neg=true then -(kH (s.takeWhile dgt):Int)else(kH (s.takeWhile dgt):Int))=v
  split
  ·exact aer
  ·exact agR
theorem uS(s:Txt):(iY s).length≤s.length:=by
 grind [j8,wrd,iY]
theorem El{s:Txt}{b:UInt8}(h:se s=some b):3≤s.length:=by
 match s,h with
 |_::_::_::_,_=>simp
theorem zS:∀(f:Nat) (r:Txt) (at_:Nat) (out:Txt),(oV f r at_ out).2≤at_+r.length
 |0,_,_,_=>by simp[oV]
 |_+1,[],_,_=>by simp[oV]
 |f+1,c::r,at_,out=>by
  simp only[oV];split
  ·grind
  ·split
   ·have:=zS f r (at_+1) (out++ [c]);simp only[List.length_cons];omega
   ·split
    ·rename_i b hb
     have h3:=El hb;have:=zS f (r.drop 2) (at_+3) (out++ [b]);simp only[List.length_cons,List.length_drop]at this h3⊢;omega
    ·simp
theorem sC(s:Txt)(hs:s≠ []):(bB s).2≤s.length:=by
 have h1:1≤s.length:=adL;have hd:(s.drop 1).length=s.length - 1:=adR;have k1:=uS s;have k2:=uS (s.drop 1);have k3:=pO false s;have k4:=pO false (s.drop 1);have k5:=pO true (s.drop 1);have k6:=zS s.length (s.drop 1) 1 [];unfold bB;simp only;split
 ·exact k1
 split
 ·exact k3
 split
 ·simp only;split<;>omega
 split
 ·simp only;split<;>omega
 split
 ·simp only;split<;>omega
 split
 ·simp only[uF];omega
 split
 ·simp only;omega
 ·simp
structure PS where
 ts:List lg
 pos:Nat
 rules:Nat
 bad:Int
 place:Int
def aK(st:PS):lg:=st.ts.getD st.pos ⟨7,0,0,[]⟩
def bI(st:PS)(e p:Int):PS:=if st.bad=0 then {st with bad:=e,place:=p} else st
def bn(st:PS):PS:=bI st 5 (aK st).pos
def bF(st:PS)(more:Bool):PS:=if more then bI st 6 (aK st).pos else st
def isD(st:PS)(s:Txt):Bool:=st.bad==0 && ((aK st).s==s && ((aK st).kind==1||(aK st).kind==6))
def bl(st:PS):PS:={st with pos:=st.pos+1}
def cm(st:PS)(s:Txt):Bool×PS:=if isD st s=true then(true,bl st)else(false,st)
def dU(st:PS)(s:Txt):PS:=if isD st s=true then bl st else bn st
def ck(st:PS):Txt×PS:=
 if(aK st).kind=1∧st.bad=0 then((aK st).s,bl st)else([],if(aK st).kind=1 then st else bn st)
def vl(s:Txt):List Txt→Option Nat
 | []=>none
 |w::r=>if w=s then some 0 else(vl s r).map (· +1)
def aW(st:PS)(ws:List Txt):Int×PS:=match vl (aK st).s ws with
 |some i=>if(aK st).kind=1∧st.bad=0 then((i:Int)+1,bl st)else(0,bn st)
 |none=>(0,bn st)
def WfP(st:PS):Prop:=st.pos<st.ts.length∧(∀i (h:i<st.ts.length),st.ts[i].kind≠7→i+1<st.ts.length)∧st.ts.length≤5000
theorem DN{st:PS}(h:st.pos<st.ts.length):aK st=st.ts[st.pos]:=by
 grind [aK,List.getElem?_eq_getElem]
theorem KU{st:PS}(e p:Int)(h:WfP st):WfP (bI st e p):=by
 unfold bI;split<;>exact h
theorem NW{st:PS}(h:WfP st)(hk:(aK st).kind≠7):WfP (bl st):=by
 rw[DN h.1]at hk;exact⟨h.2.1 _ h.1 hk,h.2⟩
theorem dH{st:PS}{s:Txt}(h:isD st s=true):(aK st).kind≠7:=by
 simp only[isD,Bool.and_eq_true,Bool.or_eq_true,beq_iff_eq]at h;omega
def Ah(st st' :PS):Prop:=WfP st'∧st'.ts=st.ts∧st.pos≤st'.pos
theorem Ah.refl{st:PS}(h:WfP st):Ah st st:=⟨h,rfl,Nat.le_refl _⟩
theorem Ah.trans{a b c:PS}(x:Ah a b)(y:Ah b c):Ah a c:=⟨y.1,y.2.1.trans x.2.1,Nat.le_trans x.2.2 y.2.2⟩
theorem xY{st:PS}(e p:Int)(h:WfP st):Ah st (bI st e p):=⟨KU e p h,by grind [bI],by unfold bI;grind⟩
theorem eY{st:PS}(h:WfP st)(hk:(aK st).kind≠7):Ah st (bl st):=⟨NW h hk,rfl,Nat.le_succ _⟩
theorem oI{st:PS}(h:WfP st):Ah st (bn st):=xY _ _ h
theorem lp{st:PS}(b:Bool)(h:WfP st):Ah st (bF st b):=by
 unfold bF;split
 ·grind [xY]
 ·exact af4
theorem Oj{st:PS}(s:Txt)(h:WfP st):Ah st (cm st s).2:=by
 unfold cm;split
 ·grind [eY,dH]
 ·exact af4
theorem jt{st:PS}(s:Txt)(h:WfP st):Ah st (dU st s):=by
 grind [dU,eY,dH,oI]
theorem nK{st:PS}(h:WfP st):Ah st (ck st).2:=by
 unfold ck;split
 ·grind [eY]
 ·simp only;split
  ·exact af4
  grind [oI]
theorem gE{st:PS}(ws:List Txt)(h:WfP st):Ah st (aW st ws).2:=by
 grind [aW,eY,oI]
def we:List Txt:=[[115,117,98,106,101,99,116],[97,99,116,105,111,110],[99,97,115,101],[101,110,118]]
def ga(st:PS):qu×PS:=
 (⟨(aW st we).1,(ck (dU (aW st we).2 [46])).1,(cm (ck (dU (aW st we).2 [46])).2 [33]).1⟩,(cm (ck (dU (aW st we).2 [46])).2 [33]).2)
theorem B5{st:PS}(h:WfP st):Ah st (ga st).2:=by
 have h1:=gE we h;have h2:=jt [46] h1.1;have h3:=nK h2.1;exact((h1.trans h2).trans h3).trans (Oj [33] h3.1)
def xj:Txt:=[116,114,117,101]
def qO:Txt:=[102,97,108,115,101]
def fY(st:PS):bt×PS:=
 if(aK st).kind=2 then(⟨2,(aK st).n,(aK st).s⟩,st)
 else if(aK st).kind=3 then(⟨4,(aK st).n,(aK st).s⟩,st)
 else if(aK st).kind=4 then(⟨5,(aK st).n,(aK st).s⟩,st)
 else if(aK st).kind=5 then(⟨3,(aK st).n,(aK st).s⟩,st)
 else if isD st xj then(⟨1,1,[]⟩,st)
 else if isD st qO then(⟨1,0,[]⟩,st)
 else(⟨0,(aK st).n,(aK st).s⟩,bn st)
def aD(st:PS):bt×PS:=if(fY st).2.bad=0 then((fY st).1,bl (fY st).2)else(⟨0,0,[]⟩,(fY st).2)
theorem rX(st:PS):(bn st).bad≠0:=by
 grind [bn,bI,Int]
theorem uL(st:PS):(fY st).2=st∧(aK st).kind≠7∨(fY st).2=bn st:=by
 unfold fY;split
 ·grind
 split
 ·grind
 split
 ·grind
 split
 ·grind
 split
 ·rename_i h;exact .inl ⟨rfl,dH h⟩
 split
 ·rename_i h;exact .inl ⟨rfl,dH h⟩
 simp
theorem C3{st:PS}(h:WfP st):Ah st (aD st).2:=by
 unfold aD;rcases uL st with⟨e,hk⟩|e
 ·rw[e];split
  ·grind [eY]
  ·exact af4
 simp_all [if_neg,rX,oI]
def opP(st:PS):Int×PS:=
 if isD st [61]then(1,bl st)else if isD st [60]then(2,bl st)else if isD st [62]then(3,bl st)else(0,bn st)
theorem UK{st:PS}(h:WfP st):Ah st (opP st).2:=by
 grind [opP,eY,dH,oI]
def gz(st:PS):bQ×PS:=(⟨(ga st).1,(opP (ga st).2).1,(aD (opP (ga st).2).2).1⟩,(aD (opP (ga st).2).2).2)
theorem qx{st:PS}(h:WfP st):Ah st (gz st).2:=by
 have h1:=B5 h;have h2:=UK h1.1;exact(h1.trans h2).trans (C3 h2.1)
def fR{α:Type}(one:PS→α×PS)(w:Txt)(most:Nat):Nat→PS→List α→List α×PS
 |0,st,l=>(l,st)
 |f+1,st,l=>if isD st w=true then fR one w most f (bF (one (bl st)).2 (decide (most<l.length+1))) (l++ [(one (bl st)).1])else(l,st)
theorem tC{α:Type}{one:PS→α×PS}(ho:∀st,WfP st→Ah st (one st).2)(w:Txt)(most:Nat):∀(f:Nat) (st:PS) (l:List α),WfP st→Ah st (fR one w most f st l).2
 |0,st,l,h=> .refl h
 |f+1,st,l,h=>by
  unfold fR;split
  ·rename_i hi
   have h1:=eY h (dH hi);have h2:=ho _ h1.1;have h3:=lp (decide (most<l.length+1)) h2.1;exact((h1.trans h2).trans h3).trans (tC ho w most f _ _ h3.1)
  ·exact af4
def orT:Txt:=[111,114]
def C5:Txt:=[97,110,100]
def Fh:Txt:=[119,104,101,110]
def qo(st:PS):List bQ×PS:=fR gz [44] 8 st.ts.length (gz st).2 [(gz st).1]
theorem B3{st:PS}(h:WfP st):Ah st (qo st).2:=(qx h).trans (tC (fun _ h=>qx h) _ _ _ _ _ (qx h).1)
def rZ(st:PS):List (List bQ)×PS:=
 let a:=qo (dU st [40])
 let m:=fR qo orT 8 st.ts.length a.2 [a.1]
 (m.1,dU m.2 [41])
theorem B4{st:PS}(h:WfP st):Ah st (rZ st).2:=by
 have h0:=jt [40] h;have h1:=B3 h0.1;have h2:=tC (fun _ h=>B3 h) orT 8 st.ts.length _ [(qo (dU st [40])).1] h1.1
 exact((h0.trans h1).trans h2).trans (jt [41] h2.1)
def gV(st:PS):gj×PS:=if isD st Fh=true then fR rZ C5 8 st.ts.length (rZ (bl st)).2 [(rZ (bl st)).1]else([],st)
theorem B9{st:PS}(h:WfP st):Ah st (gV st).2:=by
 unfold gV;split
 ·rename_i hi
  have h0:=eY h (dH hi);have h1:=B4 h0.1;exact(h0.trans h1).trans (tC (by grind [B4]) _ _ _ _ _ h1.1)
 ·exact af4
def lY:List Txt:=[[111,110,101],[115,105,122,101],[104,97,115],[101,113],[108,101,115,115],[97,100,100],[115,117,98],[109,117,108],[110,111,116],[97,110,100],[111,114]]
def opers(op:Int):List Bool:=if op=3∨op=4 then [true]else if op=5 then [true,false]else if op=11 then [false]else [false,false]
abbrev ExF:=PS→List aQ→(List aQ×Bool)×PS
def iG(ex:ExF)(st:PS)(l:List aQ)(must:Bool):List aQ×PS:=
 ((ex st l).1.1,if(ex st l).1.2=must then(ex st l).2 else bI (ex st l).2 5 (aK st).pos)
def jC(ex:ExF):List Bool→PS→List aQ→List aQ×PS
 | [],st,l=>(l,st)
 |b::bs,st,l=>if st.bad=0 then jC ex bs (iG ex st l b).2 (iG ex st l b).1 else(l,st)
def qQ(ex:ExF)(st:PS)(l:List aQ):(List aQ×aQ)×PS:=
 (((jC ex (opers (2+(aW st lY).1)) (aW st lY).2 l).1,⟨2+(aW st lY).1,⟨0,0,[]⟩,⟨0,[],false⟩⟩),dU (jC ex (opers (2+(aW st lY).1)) (aW st lY).2 l).2 [41])
def jl(ex:ExF)(st:PS)(l:List aQ):(List aQ×aQ)×PS:=
 if isD st [40]=true then qQ ex (bl st) l
 else if(aK st).kind=1∧(aK st).s≠xj∧(aK st).s≠qO then((l,⟨2,⟨0,0,[]⟩,(ga st).1⟩),(ga st).2)
 else((l,⟨1,(aD st).1,⟨0,[],false⟩⟩),(aD st).2)
def eD:Nat→ExF
 |0,st,l=>((l,false),st)
 |f+1,st,l=>(((jl (eD f) st l).1.1++ [(jl (eD f) st l).1.2],(jl (eD f) st l).1.2.op==2),bF (jl (eD f) st l).2 (decide (32<(jl (eD f) st l).1.1.length+1)))
def Ft(ex:ExF):Prop:=∀st l,WfP st→Ah st (ex st l).2∧(ex st l).1.1.length+2*st.pos≤l.length+2*(ex st l).2.pos+1
theorem zi{ex:ExF}(he:Ft ex)(st:PS)(l:List aQ)(b:Bool)(h:WfP st):Ah st (iG ex st l b).2∧(iG ex st l b).1.length+2*st.pos≤l.length+2*(iG ex st l b).2.pos+1:=by
 obtain⟨h1,h2⟩:=he st l h;unfold iG;split
 ·grind
 ·refine⟨h1.trans (xY _ _ h1.1),?_⟩
  grind [bI,aK]
theorem Bt{ex:ExF}(he:Ft ex):∀(bs:List Bool) (st:PS) (l:List aQ),WfP st→Ah st (jC ex bs st l).2∧(jC ex bs st l).1.length+2*st.pos≤l.length+2*(jC ex bs st l).2.pos+bs.length
 | [],st,l,h=>⟨.refl h,by simp[jC]⟩
 |b::bs,st,l,h=>by
  unfold jC;split
  ·obtain⟨h1,h2⟩:=zi he st l b h
   obtain⟨h3,h4⟩:=Bt he bs (iG ex st l b).2 (iG ex st l b).1 h1.1;exact⟨h1.trans h3,adL⟩
  ·exact⟨.refl h,adR⟩
theorem Ep(op:Int):(opers op).length≤2:=by
 grind [opers]
theorem L7{ex:ExF}(he:Ft ex)(st:PS)(l:List aQ)(h:WfP st):Ah st (qQ ex st l).2∧(qQ ex st l).1.1.length+2*st.pos≤l.length+2*(qQ ex st l).2.pos+2:=by
 have h1:=gE lY h;obtain⟨h2,h3⟩:=Bt he (opers (2+(aW st lY).1)) _ l h1.1;have h4:=jt [41] h2.1;have:=Ep (2+(aW st lY).1);have p1:=h1.2.2;have p4:=h4.2.2;unfold qQ;exact⟨(h1.trans h2).trans h4,adL⟩
theorem DM{ex:ExF}(he:Ft ex)(st:PS)(l:List aQ)(h:WfP st):Ah st (jl ex st l).2∧(jl ex st l).1.1.length+2*st.pos≤l.length+2*(jl ex st l).2.pos:=by
 unfold jl;split
 ·rename_i hi
  have h1:=eY h (dH hi);obtain⟨h2,h3⟩:=L7 he _ l h1.1;have:(bl st).pos=st.pos+1:=rfl;exact⟨h1.trans h2,adK⟩
 ·split
  ·have h1:=B5 h
   have:=h1.2.2;exact⟨h1,adL⟩
  ·have h1:=C3 h
   have:=h1.2.2;exact⟨h1,adL⟩
theorem qN:∀f,Ft (eD f)
 |0=>fun st l h=>⟨.refl h,by simp[eD]⟩
 |f+1=>fun st l h=>by
  obtain⟨h1,h2⟩:=DM (qN f) st l h;have h3:=lp (decide (32<(jl (eD f) st l).1.1.length+1)) h1.1;have:=h3.2.2;refine⟨h1.trans h3,?_⟩
  grind [eD,adE,List.length_singleton]
def vA:List Txt:=[[112,101,114,109,105,116],[100,101,110,121]]
def mR:List Txt:=[[108,111,103],[114,101,100,97,99,116],[114,101,118,105,101,119],[110,111,116,105,102,121]]
def wR:Txt:=[111,110]
def Aq(st:PS):cC×PS:=
 (⟨(aW st vA).1,(aW (aW st vA).2 mR).1,(ck (aW (aW st vA).2 mR).2).1⟩,(ck (aW (aW st vA).2 mR).2).2)
theorem Li{st:PS}(h:WfP st):Ah st (Aq st).2:=by
 have h1:=gE vA h;have h2:=gE mR h1.1;exact(h1.trans h2).trans (nK h2.1)
def gv(st:PS):List cC×PS:=fR Aq wR 8 st.ts.length st []
theorem B7{st:PS}(h:WfP st):Ah st (gv st).2:=tC (fun _ h=>Li h) _ _ _ _ _ h
inductive Rch (a:PS):PS→Prop where
 |refl:Rch a a
 |wrong {b:PS} (e p:Int):Rch a b→(e=5∨e=6)→(∃i,i≤b.pos∧p=(b.ts.getD i ⟨7,0,0,[]⟩).pos)→Rch a (bI b e p)
 |next {b:PS}:Rch a b→b.bad=0→(aK b).kind≠7→Rch a (bl b)
theorem Rch.trans{a b c:PS}(x:Rch a b)(y:Rch b c):Rch a c:=by
 induction y with
 |refl=>exact x
 |wrong e p _ h1 h2 ih=>grind [wrong]
 |next _ h1 h2 ih=>grind [next]
theorem kO(st:PS):Rch st (bn st):=.wrong _ _ .refl (.inl rfl) ⟨st.pos,Nat.le_refl _,rfl⟩
theorem rT(st:PS)(b:Bool):Rch st (bF st b):=by
 unfold bF;split
 ·exact .wrong _ _ .refl (.inr rfl) ⟨st.pos,Nat.le_refl _,rfl⟩
 ·exact aga
theorem HY{st:PS}{s:Txt}(h:isD st s=true):st.bad=0:=by
 simp_all [isD,Bool.and_eq_true,beq_iff_eq]
theorem sX{st:PS}{s:Txt}(h:isD st s=true):Rch st (bl st):=.next .refl (HY h) (dH h)
theorem Nf(st:PS)(s:Txt):Rch st (cm st s).2:=by
 unfold cm;split
 ·grind [sX]
 ·exact aga
theorem nv(st:PS)(s:Txt):Rch st (dU st s):=by
 grind [dU,sX,kO]
theorem uz(st:PS):Rch st (ck st).2:=by
 unfold ck;split
 ·rename_i h;exact .next .refl h.2 adK
 ·simp only;split
  ·exact aga
  grind [kO]
theorem mL(st:PS)(ws:List Txt):Rch st (aW st ws).2:=by
 unfold aW;split
 ·split
  ·rename_i h;exact .next .refl h.2 adK
  grind [kO]
 grind [kO]
theorem EG(st:PS):Rch st (ga st).2:=(((mL st we).trans (nv _ [46])).trans (uz _)).trans (Nf _ [33])
theorem BE(st:PS):Rch st (aD st).2:=by
 unfold aD;rcases uL st with⟨e,hk⟩|e
 ·rw[e];split
  ·rename_i h;exact .next .refl h hk
  ·exact aga
 simp_all [if_neg,rX,kO]
theorem SW(st:PS):Rch st (opP st).2:=by
 grind [opP,sX,kO]
theorem BC(st:PS):Rch st (gz st).2:=((EG st).trans (SW _)).trans (BE _)
theorem rm{α:Type}{one:PS→α×PS}(ho:∀st,Rch st (one st).2)(w:Txt)(most:Nat):∀(f:Nat) (st:PS) (l:List α),Rch st (fR one w most f st l).2
 |0,st,l=> .refl
 |f+1,st,l=>by
  unfold fR;split
  ·rename_i h
   exact(((sX h).trans (ho _)).trans (rT _ _)).trans (rm ho w most f _ _)
  ·exact aga
theorem Iz(st:PS):Rch st (qo st).2:=(BC st).trans (rm BC _ _ _ _ _)
theorem IA(st:PS):Rch st (rZ st).2:=(((nv st [40]).trans (Iz _)).trans (rm Iz orT 8 st.ts.length _ [(qo (dU st [40])).1])).trans (nv _ [41])
theorem IB(st:PS):Rch st (gV st).2:=by
 unfold gV;split
 ·rename_i h;exact((sX h).trans (IA _)).trans (rm IA _ _ _ _ _)
 ·exact aga
theorem PI(st:PS):Rch st (Aq st).2:=((mL st vA).trans (mL _ mR)).trans (uz _)
theorem EL(st:PS):Rch st (gv st).2:=rm PI _ _ _ _ _
theorem rU{a b:PS}(h:Rch a b):b.ts=a.ts∧a.pos≤b.pos∧b.rules=a.rules:=by
 induction h with
 |refl=>simp
 |wrong e p _ _ _ ih=>
  grind [bI]
 |next _ _ _ ih=>exact⟨ih.1,Nat.le_succ_of_le ih.2.1,ih.2.2⟩
theorem EM{ex:ExF}(he:∀st l,Rch st (ex st l).2)(st:PS)(l:List aQ)(b:Bool):Rch st (iG ex st l b).2:=by
 unfold iG;simp only;split
 ·grind
 ·have:=rU (he st l)
  exact .wrong _ _ (he st l) (.inl rfl) ⟨st.pos,this.2.1,by rw[this.1];rfl⟩
theorem BD{ex:ExF}(he:∀st l,Rch st (ex st l).2):∀(bs:List Bool) (st:PS) (l:List aQ),Rch st (jC ex bs st l).2
 | [],st,l=> .refl
 |b::bs,st,l=>by
  unfold jC;split
  ·exact(EM he st l b).trans (BD he bs _ _)
  ·exact aga
theorem EI:∀(f:Nat) (st:PS) (l:List aQ),Rch st (eD f st l).2
 |0,st,l=> .refl
 |f+1,st,l=>by
  refine Rch.trans ?_ (rT _ _);unfold jl;split
  ·rename_i h
   exact(sX h).trans (((mL _ lY).trans (BD (EI f) _ _ _)).trans (nv _ [41]))
  grind [EG,BE]
def ifT:Txt:=[105,102]
def pS:Txt:=[112,101,114,109,105,116]
def jj:Txt:=[100,101,110,121]
def pT:Txt:=[112,111,108,105,99,121]
def GO:Txt:=[115,101,116]
def nh:List Txt:=[pT,GO]
def xZ:List Txt:=[[100,101,110,121,111,118,101,114],[112,101,114,109,105,116,111,118,101,114],[102,105,114,115,116],[111,110,108,121],[100,101,110,121,117,110,108,101,115,115],[112,101,114,109,105,116,117,110,108,101,115,115]]
def qK(st:PS):List aQ×PS:=if isD st ifT=true then iG (eD st.ts.length) (bl st) [] false else([],st)
theorem Nd(st:PS):Rch st (qK st).2:=by
 unfold qK;split
 ·rename_i h;exact(sX h).trans (EM (EI _) _ _ _)
 ·exact aga
theorem Hu{st:PS}(h:WfP st):Ah st (qK st).2:=by
 unfold qK;split
 ·rename_i hi
  have h1:=eY h (dH hi);exact h1.trans (zi (qN _) _ _ _ h1.1).1
 ·exact af4
def qk(deny:Bool)(st:PS):cR×PS:=
 (⟨(ck st).1,deny,(gV (ck st).2).1,(qK (gV (ck st).2).2).1,(gv (qK (gV (ck st).2).2).2).1⟩,dU (gv (qK (gV (ck st).2).2).2).2 [59])
theorem zA(deny:Bool)(st:PS):Rch st (qk deny st).2:=((((uz st).trans (IB _)).trans (Nd _)).trans (EL _)).trans (nv _ [59])
theorem B8(deny:Bool){st:PS}(h:WfP st):Ah st (qk deny st).2:=by
 have h1:=nK h;have h2:=B9 h1.1;have h3:=Hu h2.1;have h4:=B7 h3.1;exact(((h1.trans h2).trans h3).trans h4).trans (jt [59] h4.1)
inductive oo (a:PS):PS→Prop where
 |refl:oo a a
 |small {b c:PS}:oo a b→Rch b c→oo a c
 |rule {b:PS}:oo a b→b.bad=0→b.rules≠64→(aK b).kind≠7→oo a {bl b with rules:=b.rules+1}
theorem oo.trans{a b c:PS}(x:oo a b)(y:oo b c):oo a c:=by
 induction y with
 |refl=>exact x
 |small _ h1 ih=>grind [small]
 |rule _ h1 h2 h3 ih=>grind [rule]
theorem Rch.big{a b:PS}(h:Rch a b):oo a b:=.small .refl h
def j6:Nat→PS→List cR→List cR×PS
 |0,st,l=>(l,st)
 |f+1,st,l=>if isD st pS=true∨isD st jj=true then
   if l.length=16∨st.rules=64 then(l,bF st true)
   else j6 f (qk (isD st jj) {bl st with rules:=st.rules+1}).2 (l++ [(qk (isD st jj) {bl st with rules:=st.rules+1}).1])
  else(l,st)
abbrev PoF:=PS→bJ×PS
def jY(pol:PoF)(deep:Bool):Nat→PS→List bJ→List bJ×PS
 |0,st,l=>(l,st)
 |f+1,st,l=>if isD st pT=true∨isD st GO=true then
   if l.length=16∨deep=true then(l,bF st true)
   else jY pol deep f (pol st).2 (l++ [(pol st).1])
  else(l,st)
def cV(st:PS):(Bool×Txt×Int×gj)×PS:=
 (((aW st nh).1==2,(ck (aW st nh).2).1,(aW (ck (aW st nh).2).2 xZ).1,(gV (aW (ck (aW st nh).2).2 xZ).2).1),dU (gV (aW (ck (aW st nh).2).2 xZ).2).2 [123])
theorem EJ(st:PS):Rch st (cV st).2:=((((mL st nh).trans (uz _)).trans (mL _ xZ)).trans (IB _)).trans (nv _ [123])
theorem Oi{st:PS}(h:WfP st):Ah st (cV st).2:=by
 have h1:=gE nh h;have h2:=nK h1.1;have h3:=gE xZ h2.1;have h4:=B9 h3.1;exact(((h1.trans h2).trans h3).trans h4).trans (jt [123] h4.1)
def qf(pol:PoF)(deep:Bool)(set:Bool)(st:PS):(List cR×List bJ)×PS:=
 if set=true then(([],(jY pol deep 17 st []).1),(jY pol deep 17 st []).2)else(((j6 17 st []).1,[]),(j6 17 st []).2)
def gH:Nat→PoF
 |0,st=>(.mk [] false 0 [] [] [] [],st)
 |r+1,st=>(.mk (cV st).1.2.1 (cV st).1.1 (cV st).1.2.2.1 (cV st).1.2.2.2 (qf (gH r) (r==0) (cV st).1.1 (cV st).2).1.1 (qf (gH r) (r==0) (cV st).1.1 (cV st).2).1.2
   (gv (dU (qf (gH r) (r==0) (cV st).1.1 (cV st).2).2 [125])).1,(gv (dU (qf (gH r) (r==0) (cV st).1.1 (cV st).2).2 [125])).2)
theorem nc{st:PS}{a b:Txt}(h:isD st a=true∨isD st b=true):st.bad=0∧(aK st).kind≠7:=by
 grind [HY,dH]
theorem xX{st:PS}(h:WfP st)(hk:(aK st).kind≠7):Ah st {bl st with rules:=st.rules+1}:=eY h hk
theorem Hw:∀(f:Nat) (st:PS) (l:List cR),WfP st→Ah st (j6 f st l).2
 |0,st,l,h=> .refl h
 |f+1,st,l,h=>by
  unfold j6;split
  ·rename_i hi
   split
   ·exact lp true h
   ·have h1:=xX h (nc hi).2
    have h2:=B8 (isD st jj) h1.1;exact(h1.trans h2).trans (Hw f _ _ h2.1)
  ·exact af4
theorem EN:∀(f:Nat) (st:PS) (l:List cR),oo st (j6 f st l).2
 |0,st,l=> .refl
 |f+1,st,l=>by
  unfold j6;split
  ·rename_i hi
   split
   ·exact(rT st true).big
   ·rename_i hn
    have h1:oo st {bl st with rules:=st.rules+1}:=.rule .refl (nc hi).1 adK (nc hi).2
    exact(h1.trans (zA (isD st jj) _).big).trans (EN f _ _)
  ·exact aga
theorem Hv{pol:PoF}(hp:∀st,WfP st→Ah st (pol st).2)(deep:Bool):∀(f:Nat) (st:PS) (l:List bJ),WfP st→Ah st (jY pol deep f st l).2
 |0,st,l,h=> .refl h
 |f+1,st,l,h=>by
  unfold jY;split
  ·split
   ·exact lp true h
   ·have h1:=hp st h
    exact h1.trans (Hv hp deep f _ _ h1.1)
  ·exact af4
theorem EK{pol:PoF}(hp:∀st,oo st (pol st).2)(deep:Bool):∀(f:Nat) (st:PS) (l:List bJ),oo st (jY pol deep f st l).2
 |0,st,l=> .refl
 |f+1,st,l=>by
  unfold jY;split
  ·split
   ·exact(rT st true).big
   ·exact(hp st).trans (EK hp deep f _ _)
  ·exact aga
theorem B6{pol:PoF}(hp:∀st,WfP st→Ah st (pol st).2)(deep set:Bool){st:PS}(h:WfP st):Ah st (qf pol deep set st).2:=by
 grind [qf,Hv,Hw]
theorem Nc{pol:PoF}(hp:∀st,oo st (pol st).2)(deep set:Bool)(st:PS):oo st (qf pol deep set st).2:=by
 grind [qf,EK,EN]
theorem xW:∀(r:Nat) (st:PS),WfP st→Ah st (gH r st).2
 |0,st,h=> .refl h
 |r+1,st,h=>by
  have h1:=Oi h;have h2:=B6 (xW r) (r==0) (cV st).1.1 h1.1;have h3:=jt [125] h2.1;exact((h1.trans h2).trans h3).trans (B7 h3.1)
theorem CK:∀(r:Nat) (st:PS),oo st (gH r st).2
 |0,st=> .refl
 |r+1,st=>(((EJ st).big.trans (Nc (CK r) _ _ _)).trans (nv _ [125]).big).trans (EL _).big
theorem vH{a b:PS}(h:oo a b)(h0:a.rules≤64):b.rules≤64:=by
 induction h with
 |refl=>omega
 |small _ h1 ih=>rw[(rU h1).2.2];omega
 |rule _ _ h2 _ ih=>grind
theorem vp:∀(f:Nat) (s:Txt) (a:Nat) (out l:List lg),qq f s a out= .ok l→∃pre,l=out++pre++ [⟨7,(a+s.length:Nat),0,[]⟩]∧pre.length≤s.length∧∀t∈pre,(a:Int)≤t.pos∧t.pos<((a+s.length:Nat):Int)
 |0,_,_,_,_,h=>by grind [qq]
 |f+1,[],a,out,l,h=>by
  grind [qq,Lexed.ok.injEq]
 |f+1,c::r,a,out,l,h=>by
  simp only[qq]at h;split at h
  ·obtain⟨pre,e1,e2,e3⟩:=vp f r (a+1) out l h
   grind
  ·split at h
   ·cases h
   ·rename_i hn
    have hle:=sC (c::r) adR;obtain⟨pre,e1,e2,e3⟩:=vp f _ _ _ l h;have ee:((a+(bB (c::r)).2+((c::r).drop (bB (c::r)).2).length:Nat):Int)=((a+(c::r).length:Nat):Int):=adL;refine⟨{(bB (c::r)).1 with pos:=a}::pre,adL,adL,fun t ht=>?_⟩
    grind
theorem Bk{s:Txt}{ts:List lg}(h:pK s= .ok ts):∃pre,ts=pre++ [⟨7,s.length,0,[]⟩]∧pre.length≤s.length∧(∀t∈pre,0≤t.pos∧t.pos<(s.length:Int))∧s.length≤4096:=by
 grind [pK,vp]
theorem KT{s:Txt}{ts:List lg}(h:pK s= .ok ts)(x:Nat)(e p:Int):WfP ⟨ts,0,x,e,p⟩:=by
 obtain⟨pre,rfl,h2,_,h3⟩:=Bk h;refine⟨adR,fun i hi hk=>?_,adL⟩
 grind
theorem yT:∀(f:Nat) (s:Txt) (a:Nat) (out:List lg) (e p:Int),qq f s a out= .bad e p→e=5∧0≤p∧(s.length<f→p≤((a+s.length:Nat):Int))
 |0,s,a,out,e,p,h=>by
  simp only[qq,Lexed.bad.injEq]at h;omega
 |f+1,[],a,out,e,p,h=>by grind [qq]
 |f+1,c::r,a,out,e,p,h=>by
  simp only[qq]at h;split at h
  ·obtain⟨h1,h2,h3⟩:=yT f r (a+1) out e p h
   grind
  ·split at h
   ·grind
   ·obtain⟨h1,h2,h3⟩:=yT f _ _ _ e p h
    grind [sC,List.length_drop]
theorem ua{s:Txt}{e a:Int}(h:pK s= .bad e a):(e=5∨e=6)∧0≤a∧a≤s.length:=by
 unfold pK at h;split at h
 ·grind
 ·obtain⟨h1,h2,h3⟩:=yT _ _ _ _ _ _ h
  omega
def oZ:bJ:=.mk [] false 0 [] [] [] []
def qp(s:Txt)(x:bJ×PS):PS:=
 if(if(aK x.2).kind=7 then x.2 else bn x.2).bad=0∧gC x.1≠0 then bI (if(aK x.2).kind=7 then x.2 else bn x.2) 5 s.length else(if(aK x.2).kind=7 then x.2 else bn x.2)
def zk(s:Txt)(ts:List lg):bJ×Int×Int:=
 if(qp s (gH 4 ⟨ts,0,0,0,0⟩)).bad=0 then((gH 4 ⟨ts,0,0,0,0⟩).1,0,0)else(oZ,(qp s (gH 4 ⟨ts,0,0,0,0⟩)).bad,(qp s (gH 4 ⟨ts,0,0,0,0⟩)).place)
def aR(s:Txt):bJ×Int×Int:=match pK s with
 |.bad e a=>(oZ,e,a)
 |.ok ts=>zk s ts
end Go.Bf
namespace Go.Proofs.YtfdgemhnlennbaaGreatDoor
open Go Go.Ab Go.Bf
def Byt(g:FuncId)(p:UInt8→Bool):Prop:=∀(c:UInt8) (h:Heap),ai Tryz.prog g [.v (.int .u8 c.toNat)] h fun r h' =>r= .b (p c)∧h' =h
theorem ng:Byt 193 dgt:=fun c h=>by
 refine adJ Tryz.func193 9 [.tmp 2] fun hwf=>?_
 cases d1:decide (48≤(c.toNat:Int))<;>cases d2:decide ((c.toNat:Int)≤57)
 all_goals
  simp only[go_sem,d1,d2];exact .same (.refl _) ⟨by simp only[dgt,d1,d2];rfl,rfl⟩
theorem JV:Byt 231 wrd:=fun c h=>by
 refine adJ Tryz.func231 17 [.tmp 2] fun hwf=>?_
 cases d1:decide (97≤(c.toNat:Int))<;>cases d2:decide ((c.toNat:Int)≤122)<;>cases d3:dgt c<;>cases d4:((c.toNat:Int)==95)
 all_goals
  simp only[go_sem,d1,d2]
  first
   |exact .same (.refl _) ⟨by simp only[wrd,ltr,d1,d2,d3,d4];rfl,rfl⟩
   |(refine(ng c _).pthen ?_;simp only[go_sem,d3,d4];exact .same (.refl _) ⟨by simp only[wrd,ltr,d1,d2,d3,d4];rfl,rfl⟩)
theorem Ex:Byt 232 (fun c=> !sS c):=fun c h=>by
 refine adJ Tryz.func232 17 [.tmp 2] fun hwf=>?_
 cases d1:decide (32≤(c.toNat:Int))<;>cases d2:decide ((c.toNat:Int)≤126)<;>cases d3:((c.toNat:Int)==34)<;>cases d4:((c.toNat:Int)==92)
 all_goals
  simp only[go_sem,d1,d2,d3,d4,bne];refine .same (.refl _) ⟨?_,rfl⟩;have e1:decide ((c.toNat:Int)<32)= !decide (32≤(c.toNat:Int)):=by
   grind
  have e2:decide (126<(c.toNat:Int))= !decide ((c.toNat:Int)≤126):=by
   grind
  simp only[sS,e1,e2,d1,d2,d3,d4];rfl
theorem Qc(p:UInt8→Bool)(s:Txt)(i:Nat)(hi:i<s.length)(h:i≤(s.takeWhile p).length)(hp:p s[i]=true):i+1≤(s.takeWhile p).length:=by
 exact aiz
theorem V5(p:UInt8→Bool)(s:Txt)(i:Nat)(hi:i<s.length)(h:i≤(s.takeWhile p).length)(hp:p s[i]=false):(s.takeWhile p).length=i:=by
 exact aiz
theorem Ns(g:FuncId)(p:UInt8→Bool)(hg:Byt g p)(s:Txt)(h:Heap):ai Tryz.prog 230 [.s s,.fn g []] h fun r h' =>r= .v (.int .i64 (s.takeWhile p).length)∧h' =h:=by
 refine adJ Tryz.func230 20 [.tmp 4] fun hwf=>?_
 have hlen:=hwf (.s s) adR;simp only[wfA,wf1,lim]at hlen;simp only[go_sem];refine .intro (fun m ρ h' =>h' =h∧∃i:Nat,i≤s.length∧m=s.length - i∧i≤(s.takeWhile p).length∧lk ρ 0=some (.s s)∧lk ρ 1=some (.fn g [])∧lk ρ 5=some (.i i)) s.length ?_ ?_
 ·refine⟨rfl,0,adK,rfl,adK,?_,?_,?_⟩<;>simp only[go_sem]
 ·rintro m ρ h' ⟨rfl,i,hi,rfl,hc,r0,r1,r5⟩
  cases d1:decide ((i:Int)<(s.length:Int))
  ·have hge:i=s.length:=by grind
   have:=j8 p s;simp only[go_sem,r0,r5,d1];exact .same (.refl _) ⟨by grind [ax],rfl⟩
  ·have hlt:i<s.length:=by grind
   have w1:IntKind.i64.wrap ((i:Int)+1)=((i+1:Nat):Int):=adY;simp only[go_sem,r0,r1,r5,d1];refine .at i hlt ?_;simp only[go_sem,aJ];refine(hg s[i] _).pthen ?_;cases d2:p s[i]
   ·have:=V5 p s i hlt hc d2
    simp only[go_sem,r5];exact .same (.refl _) ⟨by rw[this];rfl,rfl⟩
   ·simp only[go_sem,r5,w1]
    refine⟨_,?_,rfl,i+1,adK,rfl,Qc p s i hlt hc d2,?_,?_,?_⟩
    ·omega
    all_goals simp only[go_sem,r0,r1]
theorem zc(s:Txt)(h:Heap):ai Tryz.prog 192 [.s s] h fun r h' =>r= .s (iY s)∧h' =h:=by
 refine adJ Tryz.func192 12 [.tmp 2] fun hwf=>?_
 simp only[go_sem];refine(Ns _ _ JV s _).pthen ?_;simp only[go_sem];refine⟨adK,adK,?_⟩;simp only[go_sem,Option.isSome_none,Option.isSome_some,tG,Int.toNat_natCast,rD];refine⟨by grind [j8,wrd],?_⟩
 refine(pM _ _).pthen ?_;cases d1:aX (s.takeWhile wrd)
 ·exact ajB
 ·exact ajB
theorem wr8{x:Int}(h:0≤x∧x<256):IntKind.u8.wrap x=x:=by
 grind [IntKind.wrap,IntKind.signed,IntKind.bits]
theorem tI(c:UInt8)(h:Heap):ai Tryz.prog 264 [.v (.int .u8 c.toNat)] h fun r h' =>r= .i (jg c)∧h' =h:=by
 refine adJ Tryz.func264 20 [.tmp 2] fun hwf=>?_
 have hc:=c.toNat_lt;simp only[go_sem];refine(ng c _).pthen ?_;cases d1:dgt c
 case true=>
  have e1:48≤(c.toNat:Int)∧(c.toNat:Int)≤57:=by grind [dgt]
  have w1:IntKind.u8.wrap ((c.toNat:Int) - 48)=(c.toNat:Int) - 48:=wr8 adK;have w2:IntKind.i64.wrap ((c.toNat:Int) - 48)=(c.toNat:Int) - 48:=bh _ adK;simp only[go_sem,w1,w2];exact .same (.refl _) ⟨by grind [jg,ax],rfl⟩
 cases d2:decide (97≤(c.toNat:Int))<;>cases d3:decide ((c.toNat:Int)≤102)
 case true.true=>
  have e2:=adC d2;have e3:=adC d3;have w1:IntKind.u8.wrap ((c.toNat:Int) - 97)=(c.toNat:Int) - 97:=wr8 adK;have w2:IntKind.i64.wrap ((c.toNat:Int) - 97)=(c.toNat:Int) - 97:=bh _ adK;have w3:IntKind.i64.wrap ((c.toNat:Int) - 97+10)=(c.toNat:Int) - 87:=adY;simp only[go_sem,d2,d3,w1,w2,w3];exact .same (.refl _) ⟨by grind [jg,ax],rfl⟩
 all_goals
  simp only[go_sem,d2,d3];simp only[decide_eq_true_eq,decide_eq_false_iff_not]at d2 d3;refine .same (.refl _) ⟨?_,rfl⟩
  grind [Int,jg,ax]
theorem HU(c:UInt8): -1≤jg c∧jg c≤15:=by
 grind [jg,dgt]
theorem NO(n:Nat)(h:n<256):((UInt8.ofNat n).toNat:Int)=n:=by
 simp;omega
theorem SL(s:Txt)(h:Heap):ai Tryz.prog 233 [.s s] h fun r h' =>(∃x:Int,r= .tup [.v (.int .u8 x),.v (.bool (se s).isSome)]∧∀c,se s=some c→x=c.toNat)∧h' =h:=by
 refine adJ Tryz.func233 38 [.tmp 2,.tmp 3] fun hwf=>?_
 have hlen:=hwf (.s s) adR;simp only[wfA,wf1,lim]at hlen;cases d0:decide ((s.length:Int)<3)
 case true=>
  have e0:s.length<3:=adL;have:se s=none:=by
   match s,e0 with
   | [],_=>rfl
   | [_],_=>rfl
   | [_,_],_=>rfl
  simp only[go_sem,d0];exact .same (.refl _) ⟨⟨0,by rw[this];rfl,fun c hc=>adL⟩,rfl⟩
 have e0:3≤s.length:=adL;obtain⟨b,x,y,t,rfl⟩:∃b x y t,s=b::x::y::t:=by
  match s,e0 with
  |b::x::y::t,_=>exact⟨b,x,y,t,rfl⟩
 simp only[List.length_cons]at d0;have bad:se (b::x::y::t)=none→∃z:Int,AV.tup [.v (.int .u8 0),.b false]= .tup [.v (.int .u8 z),.v (.bool (se (b::x::y::t)).isSome)]∧∀c,se (b::x::y::t)=some c→z=c.toNat:=
  fun e=>⟨0,adL,fun c hc=>adL⟩
 cases d1:((b.toNat:Int) !=92)
 case true=>
  have e1:b≠92:=by rintro rfl;grind
  simp only[go_sem,d0];refine .at 0 adR ?_;simp only[go_sem,aJ,List.getElem_cons_zero,d1];exact ajm
 have e1:b=92:=by
  have:(b.toNat:Int)=92:=adL;exact UInt8.toNat_inj.1 adL
 simp only[go_sem,d0];refine .at 0 adR ?_;simp only[go_sem,aJ,List.getElem_cons_zero,d1];refine .at 1 adR ?_;simp only[go_sem,aJ,List.getElem_cons_zero,List.getElem_cons_succ];refine(tI x _).pthen ?_;cases d2:decide (jg x<0)
 case true=>
  have e2:=adC d2;simp only[go_sem,d2];exact ajm
 have e2:0≤jg x:=adL;simp only[go_sem,d2];refine .at 2 adR ?_;simp only[go_sem,aJ,List.getElem_cons_zero,List.getElem_cons_succ];refine(tI y _).pthen ?_;cases d3:decide (jg y<0)
 case true=>
  have e3:=adC d3;simp only[go_sem,d3];exact ajm
 have e3:0≤jg y:=adL;have hx:=HU x;have hy:=HU y;have w1:IntKind.i64.wrap (16*jg x)=16*jg x:=bh _ adK;have w2:IntKind.i64.wrap (16*jg x+jg y)=16*jg x+jg y:=bh _ adK;have w3:IntKind.u8.wrap (16*jg x+jg y)=((UInt8.ofNat (16*jg x+jg y).toNat).toNat:Int):=by
  grind [wr8,NO]
 simp only[go_sem,d3];refine .quiet adN ?_;simp only[go_sem];refine .at 1 adR ?_;simp only[go_sem,aJ,List.getElem_cons_zero,List.getElem_cons_succ];refine⟨_,tI x _,?_⟩;simp only[go_sem];refine .at 2 adR ?_;simp only[go_sem,aJ,List.getElem_cons_zero,List.getElem_cons_succ];refine⟨_,tI y _,?_⟩;simp only[go_sem,w1,w2,w3];refine(Ex _ _).pthen ?_;simp only[go_sem];refine .same (.refl _) ⟨⟨((UInt8.ofNat (16*jg x+jg y).toNat).toNat:Int),?_,fun c hc=>?_⟩,rfl⟩
 ·grind [sS,UInt8.ofNat,jg,se,ax]
 grind [se]
theorem u5z:(U 5).sz=1:=adV
theorem u5b:(U 5).bytes=1:=adV
theorem nN(l:List UInt8):Sized 1 (l.map aJ):=fun z hz=>by
 obtain⟨c,_,rfl⟩:=List.mem_map.1 hz;rfl
theorem IK(s:Txt)(hs:s.length≤10000)(h:Heap):ai Tryz.prog 195 [.s s] h fun r h' =>r= .tup [.s (uF s).1,.v (.int .i64 (uF s).2)]∧h' =h:=by
 refine adJ Tryz.func195 50 [.tmp 2,.tmp 3] fun hwf=>?_
 simp only[go_sem];refine .intro (fun m ρ h' =>∃(i f:Nat) (y:AV) (out:Txt),Acc U 5 h h' y (out.map aJ)∧out.length≤i∧m=s.length+1 - i∧i≤s.length+3∧s.length≤f+i∧oV f (s.drop i) i out=uF s∧lk ρ 0=some (.s s)∧lk ρ 4=some y∧lk ρ 5=some (.i i)) s.length ?_ ?_
 ·refine⟨1,s.length,.sl [] .full,[],.full (.refl _),adR,adK,adK,adK,rfl,?_,?_,?_⟩<;>simp only[go_sem]
 ·rintro m ρ h' ⟨i,f,y,out,hy,hoi,rfl,hi,hf,he,r0,r4,r5⟩
  cases d1:decide ((i:Int)<(s.length:Int))
  ·have hge:s.length≤i:=by grind
   have hd:s.drop i= []:=List.drop_of_length_le hge;have:uF s=([],0):=by
    rw[←he,hd];cases f<;>rfl
   simp only[go_sem,r0,r5,d1];exact .mk _ (.refl _) hy.1 ⟨by rw[this];rfl,rfl⟩
  have hlt:i<s.length:=adL;obtain⟨f,rfl⟩:∃g,f=g+1:=⟨f - 1,adK⟩;have hdr:s.drop i=s[i]::s.drop (i+1):=List.drop_eq_getElem_cons hlt;rw[hdr]at he;simp only[oV]at he;have w1:IntKind.i64.wrap ((i:Int)+1)=((i+1:Nat):Int):=adY;have w3:IntKind.i64.wrap ((i:Int)+3)=((i+3:Nat):Int):=adY;simp only[go_sem,r0,r5,d1];refine .at i hlt ?_;cases d2:((s[i].toNat:Int)==34)
  case true=>
   have e2:s[i]=34:=by
    have:(s[i].toNat:Int)=34:=adL;exact UInt8.toNat_inj.1 adL
   rw[if_pos e2]at he;cases d3:decide (64<(out.length:Int))
   case true=>
    have e3:64<out.length:=adL;rw[if_pos e3]at he;simp only[go_sem,r4,aJ,d2,hy.len,adA,d3];exact ajg
   have e3:¬64<out.length:=adL;rw[if_neg e3]at he;simp only[go_sem,r4,aJ,d2,hy.len,adA,d3];obtain⟨q,rfl⟩:=hy.row;simp only[go_sem,r5,w1];exact ajg
  have e2:s[i]≠34:=by intro e;simp_all
  rw[if_neg e2]at he;simp only[go_sem,r0,r5,aJ,d2];refine .at i hlt ?_;simp only[go_sem,aJ];refine(Ex _ _).pthen ?_;cases d4:sS s[i]
  ·rw[if_pos d4]at he
   simp only[go_sem,r0,r4,r5,d4];refine .at i hlt ?_;simp only[go_sem,aJ];refine hy.app (zs:=[aJ s[i]]) adO adO (fun k hk=>hk) (by grind [u5z,nN]) (by rw[u5z];exact nN [s[i]]) (by grind [u5b]) fun y' h2 hy' hk2=>?_
   simp only[go_sem,r5,w1];refine⟨_,?_,i+1,f,y',out++ [s[i]],adL,adL,rfl,adK,adK,he,?_,?_,?_⟩
   ·omega
   all_goals simp only[go_sem,r0]
  ·rw[if_neg adL]at he
   simp only[go_sem,r0,r5,d4];refine⟨adK,?_⟩;simp only[go_sem,Option.isSome_none,Option.isSome_some,mu,Int.toNat_natCast];refine⟨adK,adK,?_⟩;refine(SL _ _).mono fun x h2 hx=>?_
   obtain⟨⟨v,rfl,hv⟩,rfl⟩:=hx;rw[←hdr]at he;cases e5:se (s.drop i)with
   |none=>
    rw[e5]at he;simp only[go_sem,Option.isSome_none];exact ajg
   |some b=>
    rw[e5]at he;have hvb:=hv b e5;subst hvb;have h3:=El e5;simp only[List.length_drop]at h3;simp only[go_sem,r4,Option.isSome_some];refine hy.app (zs:=[aJ b]) adO adO (fun k hk=>hk) (by grind [u5z,nN]) (by rw[u5z];exact nN [b]) (by grind [u5b]) fun y' h2 hy' hk2=>?_
    simp only[go_sem,r5,w3];refine⟨_,?_,i+3,f,y',out++ [b],adL,adL,rfl,adK,adK,?_,?_,?_,?_⟩
    ·omega
    ·simp_all
    all_goals simp only[go_sem,r0]
end Go.Proofs.YtfdgemhnlennbaaGreatDoor
namespace Go.Bf
open Go Go.Ab
theorem HE(c:UInt8):dgt c=true↔48≤c.toNat∧c.toNat≤57:=by
 simp only[dgt,Bool.and_eq_true,decide_eq_true_eq];omega
def Jg(acc:Nat)(l:Txt):Nat:=l.foldl (fun n c=>n*10+(c.toNat - 48)) acc
theorem AY(acc:Nat)(c:UInt8)(r:Txt):Jg acc (c::r)=Jg (acc*10+(c.toNat - 48)) r:=List.foldl_cons ..
theorem Dl:∀(l:Txt) (acc:Nat),acc≤Jg acc l
 | [],acc=>Nat.le_refl _
 |c::r,acc=>by rw[AY];exact Nat.le_trans adK (Dl r (acc*10+(c.toNat - 48)))
theorem uk:∀(l:Txt) (acc:Nat),(∀c∈l,dgt c=true)→acc<18446744073709551616→
  Lib.parseUint10 acc l=if Jg acc l<18446744073709551616 then .ok (Jg acc l)else .range
 | [],acc,_,ha=>by
  have:Jg acc []=acc:=rfl;rw[this,if_pos ha];rfl
 |c::r,acc,hd,ha=>by
  have hc:=(HE c).1 (hd c adR);have hm:=Dl r (acc*10+(c.toNat - 48));rw[AY];unfold Lib.parseUint10;rw[if_pos hc];split
  ·rw[if_neg adK]
  ·split
   ·rw[if_neg adK]
   ·exact uk r _ adL adK
def qn(neg:Bool):Txt:=if neg then [45]else []
theorem vY(neg:Bool)(d:Txt)(h0:d≠ [])(hd:∀c∈d,dgt c=true):
  Lib.atoiAll (qn neg++d)=if -9223372036854775808≤(if neg then -(kH d:Int)else(kH d:Int))∧(if neg then -(kH d:Int)else(kH d:Int))≤9223372036854775807 then .ok (if neg then -(kH d:Int)else(kH d:Int))else .range:=by
 have hp:Lib.parseMag d=if kH d<18446744073709551616 then .ok (kH d)else .range:=by
  unfold Lib.parseMag;rw[if_neg h0];exact uk d 0 hd adO
 cases neg
 ·obtain⟨c,r,rfl⟩:=List.exists_cons_of_ne_nil h0
  have hc:=(HE c).1 (hd c adR);simp only[qn,Bool.false_eq_true,if_false,List.nil_append,Lib.atoiAll];rw[if_neg adK,hp];have e45:(c.toNat=45)=False:=adL;simp only[e45,not_false_eq_true,true_and,false_and,if_false];split
  ·rename_i h;split at h
   ·cases h
   ·cases h
  ·rename_i h;split at h
   ·cases h
   ·rw[if_neg adK]
  ·rename_i u h;split at h
   ·cases h
    split
    ·rw[if_neg adK]
    ·rw[if_pos adK]
   ·cases h
 ·simp only[qn,if_true,List.cons_append,List.nil_append,Lib.atoiAll]
  rw[if_pos (.inr adO),hp];simp only[show((45:UInt8).toNat=45)=True by simp,not_true_eq_false,false_and,if_false,true_and,if_true]
  split
  ·rename_i h;split at h
   ·cases h
   ·cases h
  ·rename_i h;split at h
   ·cases h
   ·rw[if_neg adK]
  ·rename_i u h;split at h
   ·cases h
    split
    ·rw[if_neg adK]
    ·rw[if_pos adK]
   ·cases h
theorem AG(s:Txt):∀c∈s.takeWhile dgt,dgt c=true:=fun c hc=>by
 induction s with
 |nil=>cases hc
 |cons x r ih=>
  simp only[List.takeWhile_cons]at hc
  grind
end Go.Bf
namespace Go.Proofs
open Go.Shelf
def Tryz.D4:Go.Shelf.Ren:=⟨fun|137=>196|217=>234|266=>265|n=>n,fun|9=>9|5=>5|3=>3|n=>n,fun|n=>n⟩
theorem Tryz.Ia:Go.Proofs.Lays.n137 Tryz.prog Tryz.D4:={
 mixed:=adV
 f137:=Tryz.func196.trans adV
 f217:=Tryz.func234.trans adV
 f266:=Tryz.func265.trans adV
 t3:=Tryz.underlying3
 a3:=Tryz.isAgg3
 z3:=Tryz.sizeOf3
 v3:=Tryz.zeroValue3
 t5:=Tryz.underlying5
 a5:=Tryz.isAgg5
 z5:=Tryz.sizeOf5
 v5:=Tryz.zeroValue5
 t9:=Tryz.underlying9
 a9:=Tryz.isAgg9
 z9:=Tryz.sizeOf9
 v9:=Tryz.zeroValue9}
open Go.RowKit in
theorem Tryz.strings_IndexByte(s:ByteArray)(c:Int)(w:World):
  Calls Tryz.prog 196 #[.string s,.int .u8 c] w fun e w' =>e= .returned (.int .i64 (Lib.indexByte s.data.toList c.toNat.toUInt8))∧w' =w:=Any.strings_IndexByte Tryz.Ia s c w
def Tryz.Cy:Go.Shelf.Ren:=⟨fun|172=>134|244=>179|245=>180|247=>222|279=>223|280=>224|281=>225|282=>226|287=>256|316=>257|171=>136|205=>258|321=>284|322=>285|243=>182|246=>227|283=>259|284=>260|285=>261|286=>262|129=>287|317=>286|318=>288|319=>289|320=>290|337=>309|338=>310|n=>n,fun|9=>9|3=>3|75=>220|76=>221|4=>4|5=>5|167=>303|37=>37|0=>0|85=>304|2=>2|168=>306|53=>48|175=>336|46=>161|210=>339|127=>310|145=>375|143=>373|21=>21|171=>341|173=>344|212=>377|51=>101|20=>20|213=>378|232=>406|233=>407|80=>238|n=>n,fun|15=>1|16=>2|17=>3|18=>4|19=>5|n=>n⟩
theorem Tryz.D5:Go.Proofs.LaysC.n172 Tryz.prog Tryz.Cy:={
 mixed:=adV
 f129:=Tryz.func287.trans adV
 f171:=Tryz.func136.trans adV
 f172:=Tryz.func134.trans adV
 f205:=Tryz.func258.trans adV
 f243:=Tryz.func182.trans adV
 f244:=Tryz.func179.trans adV
 f245:=Tryz.func180.trans adV
 f246:=Tryz.func227.trans adV
 f247:=Tryz.func222.trans adV
 f279:=Tryz.func223.trans adV
 f280:=Tryz.func224.trans adV
 f281:=Tryz.func225.trans adV
 f282:=Tryz.func226.trans adV
 f283:=Tryz.func259.trans adV
 f284:=Tryz.func260.trans adV
 f285:=Tryz.func261.trans adV
 f286:=Tryz.func262.trans adV
 f287:=Tryz.func256.trans adV
 f316:=Tryz.func257.trans adV
 f317:=Tryz.func286.trans adV
 f318:=Tryz.func288.trans adV
 f319:=Tryz.func289.trans adV
 f320:=Tryz.func290.trans adV
 f321:=Tryz.func284.trans adV
 f322:=Tryz.func285.trans adV
 f337:=Tryz.func309.trans adV
 f338:=Tryz.func310.trans adV
 t0:=Tryz.underlying0
 a0:=Tryz.isAgg0
 z0:=Tryz.sizeOf0
 v0:=Tryz.zeroValue0
 t2:=Tryz.underlying2
 a2:=Tryz.isAgg2
 z2:=Tryz.sizeOf2
 v2:=Tryz.zeroValue2
 t3:=Tryz.underlying3
 a3:=Tryz.isAgg3
 z3:=Tryz.sizeOf3
 v3:=Tryz.zeroValue3
 t4:=Tryz.underlying4
 a4:=Tryz.isAgg4
 z4:=Tryz.sizeOf4
 v4:=Tryz.zeroValue4
 t5:=Tryz.underlying5
 a5:=Tryz.isAgg5
 z5:=Tryz.sizeOf5
 v5:=Tryz.zeroValue5
 t9:=Tryz.underlying9
 a9:=Tryz.isAgg9
 z9:=Tryz.sizeOf9
 v9:=Tryz.zeroValue9
 t20:=Tryz.underlying20
 a20:=Tryz.isAgg20
 z20:=Tryz.sizeOf20
 v20:=Tryz.zeroValue20
 t21:=Tryz.underlying21
 a21:=Tryz.isAgg21
 z21:=Tryz.sizeOf21
 v21:=Tryz.zeroValue21
 t37:=Tryz.underlying37
 a37:=Tryz.isAgg37
 z37:=Tryz.sizeOf37
 v37:=Tryz.zeroValue37
 t46:=Tryz.underlying161
 a46:=Tryz.isAgg161
 z46:=Tryz.sizeOf161
 v46:=Tryz.zeroValue161
 t51:=Tryz.underlying101
 a51:=Tryz.isAgg101
 z51:=Tryz.sizeOf101
 v51:=Tryz.zeroValue101
 t53:=Tryz.underlying48
 a53:=Tryz.isAgg48
 z53:=Tryz.sizeOf48
 v53:=Tryz.zeroValue48
 t75:=Tryz.underlying220
 a75:=Tryz.isAgg220
 z75:=Tryz.sizeOf220
 v75:=Tryz.zeroValue220
 t76:=Tryz.underlying221
 a76:=Tryz.isAgg221
 z76:=Tryz.sizeOf221
 v76:=Tryz.zeroValue221
 t85:=Tryz.underlying304
 a85:=Tryz.isAgg304
 z85:=Tryz.sizeOf304
 v85:=Tryz.zeroValue304
 t127:=Tryz.underlying310
 a127:=Tryz.isAgg310
 z127:=Tryz.sizeOf310
 v127:=Tryz.zeroValue310
 t143:=Tryz.underlying373
 a143:=Tryz.isAgg373
 z143:=Tryz.sizeOf373
 v143:=Tryz.zeroValue373
 t145:=Tryz.underlying375
 a145:=Tryz.isAgg375
 z145:=Tryz.sizeOf375
 v145:=Tryz.zeroValue375
 t167:=Tryz.underlying303
 a167:=Tryz.isAgg303
 z167:=Tryz.sizeOf303
 v167:=Tryz.zeroValue303
 t168:=Tryz.underlying306
 a168:=Tryz.isAgg306
 z168:=Tryz.sizeOf306
 v168:=Tryz.zeroValue306
 t171:=Tryz.underlying341
 a171:=Tryz.isAgg341
 z171:=Tryz.sizeOf341
 v171:=Tryz.zeroValue341
 t173:=Tryz.underlying344
 a173:=Tryz.isAgg344
 z173:=Tryz.sizeOf344
 v173:=Tryz.zeroValue344
 t175:=Tryz.underlying336
 a175:=Tryz.isAgg336
 z175:=Tryz.sizeOf336
 v175:=Tryz.zeroValue336
 t210:=Tryz.underlying339
 a210:=Tryz.isAgg339
 z210:=Tryz.sizeOf339
 v210:=Tryz.zeroValue339
 t212:=Tryz.underlying377
 a212:=Tryz.isAgg377
 z212:=Tryz.sizeOf377
 v212:=Tryz.zeroValue377
 t213:=Tryz.underlying378
 a213:=Tryz.isAgg378
 z213:=Tryz.sizeOf378
 t232:=Tryz.underlying406
 a232:=Tryz.isAgg406
 z232:=Tryz.sizeOf406
 v232:=Tryz.zeroValue406
 t233:=Tryz.underlying407
 a233:=Tryz.isAgg407
 z233:=Tryz.sizeOf407
 v233:=Tryz.zeroValue407
 g15:=adN
 g16:=adN
 g17:=adN
 g18:=adN
 g19:=adN
 t80:=Tryz.underlying238
 a80:=Tryz.isAgg238
 z80:=Tryz.sizeOf238
 v80:=Tryz.zeroValue238
 i0:=adN
 i2:=adN
 i3:=adN
 i4:=adN
 i5:=adN
 i9:=adN
 i20:=adN
 i21:=adN
 i37:=adN
 i46:=adN
 i51:=adN
 i53:=adN
 i75:=adN
 i76:=adN
 i80:=adN
 i85:=adN
 i127:=adN
 i143:=adN
 i145:=adN
 i167:=adN
 i168:=adN
 i171:=adN
 i173:=adN
 i175:=adN
 i210:=adN
 i212:=adN
 i232:=adN
 i233:=adN
 m15:=adV
 m16:=adV
 m17:=adV
 m18:=adV
 m19:=adV
 c0:=adN
 c2:=adN
 c3:=adN
 c4:=adN
 c5:=adN
 c9:=adN
 c20:=adN
 c21:=adN
 c37:=adN
 c46:=adN
 c51:=adN
 c53:=adN
 c75:=adN
 c76:=adN
 c80:=adN
 c85:=adN
 c127:=adN
 c143:=adN
 c145:=adN
 c167:=adN
 c168:=adN
 c171:=adN
 c173:=adN
 c175:=adN
 c210:=adN
 c212:=adN
 c213:=adN
 c232:=adN
 c233:=adN}
open Go.RowKit in
theorem Tryz.strconv_Atoi_ok(s:ByteArray)(hmax:s.size≤9223372036854775806)(v:Int)(h:Lib.atoiAll s.data.toList= .ok v)(w:World):
  Calls Tryz.prog 134 #[.string s] w fun e w' =>e= .returned (.tuple #[.int .i64 v,.nilIface])∧(w' =w∨∃t,w' =Lib.bytesWorld w 5 t):=Any.strconv_Atoi_ok Tryz.D5 s hmax v h w
open Go.RowKit in
theorem Tryz.strconv_Atoi_range(s:ByteArray)(hlim:s.size≤281474976710656)(h:Lib.atoiAll s.data.toList= .range)(ev:Value)(w:World)(hv:w.cell? ⟨2,0,none⟩=some ev)(hev:ev= .nilIface∨∃te pe,ev= .iface te pe):
  Calls Tryz.prog 134 #[.string s] w fun e w' =>∃N,e= .returned (.tuple #[.int .i64 (Lib.atoiSat s.data.toList),.iface 306 (.pointer (some ⟨N,0,none⟩))])∧w.heap.size≤N∧w'.heap[N]? =some (.cells #[.string ⟨#[65,116,111,105]⟩,.string s,ev] 339 (0,0))∧Below w.heap.size w w' :=Any.strconv_Atoi_range Tryz.D5 s hlim h ev w hv hev
end Go.Proofs
namespace Go.Proofs.YtfdgemhnlennbaaGreatDoor
open Go Go.Ab Go.Bf Go.RowKit
theorem Kv(s:Txt)(hs:s.length≤100000)(w:World):Calls Tryz.prog 230 #[.string ⟨s.toArray⟩,.func (.func 193) #[] #[]] w fun e w' =>e= .returned (.int .i64 (s.takeWhile dgt).length)∧Below w.heap.size w w' :=by
 refine Go.Ab.ai.calls (args:=[.s s,.fn 193 []]) ⟨_,Tryz.func230,adV,rfl⟩ ((Ns _ _ ng s cH).mono fun _ _ h=>h.1) rfl (fun i hi=>?_)
 rcases i with _|_|i
 ·exact .s s (by grind [lim,Nat])
 ·exact .fn _ [] #[] rfl (fun i hi=>by cases hi)
 ·simp at hi;omega
def AJ(neg:Bool)(d:Txt):Int:=if neg then -(kH d:Int)else(kH d:Int)
def inI(neg:Bool)(d:Txt):Prop:= -9223372036854775808≤(if neg then -(kH d:Int)else(kH d:Int))∧(if neg then -(kH d:Int)else(kH d:Int))≤9223372036854775807
instance (neg:Bool) (d:Txt):Decidable (inI neg d):=inferInstanceAs (Decidable (_∧_))
theorem zM(neg:Bool):(qn neg).length≤1:=by cases neg<;>decide
theorem Cd(neg:Bool)(d:Txt)(h0:d≠ [])(hd:∀c∈d,dgt c=true)(hlen:d.length≤10000)(S:ByteArray)(hS:S=⟨(qn neg++d).toArray⟩)(hr:inI neg d)(W:World):
  Calls Tryz.prog 134 #[.string S] W fun e w' =>e= .returned (.tuple #[.int .i64 (AJ neg d),.nilIface])∧Below W.heap.size W w' :=by
 have hl:=zM neg;have hsz:S.size≤10001:=by grind [ByteArray.size]
 have ha:Lib.atoiAll S.data.toList= .ok (AJ neg d):=by
  rw[hS];rw[vY neg d h0 hd];exact if_pos hr
 refine(Tryz.strconv_Atoi_ok S adK _ ha W).mono ?_
 rintro e w' ⟨rfl,rfl|⟨t,rfl⟩⟩
 ·exact⟨rfl,.refl _ _⟩
 ·exact⟨rfl,Lib.bytesWorld_below W _ t⟩
theorem C8(neg:Bool)(d:Txt)(h0:d≠ [])(hd:∀c∈d,dgt c=true)(hlen:d.length≤10000)(S:ByteArray)(hS:S=⟨(qn neg++d).toArray⟩)(hr:¬inI neg d)(W:World)(ev:Value)(hv:W.cell? ⟨2,0,none⟩=some ev)(hev:ev= .nilIface∨∃te pe,ev= .iface te pe):
  Calls Tryz.prog 134 #[.string S] W fun e w' =>(∃(x:Int) (N:Nat),e= .returned (.tuple #[.int .i64 x,.iface 306 (.pointer (some ⟨N,0,none⟩))]))∧Below W.heap.size W w' :=by
 have hl:=zM neg;have hsz:S.size≤10001:=by grind [ByteArray.size]
 have ha:Lib.atoiAll S.data.toList= .range:=by
  rw[hS];rw[vY neg d h0 hd];exact if_neg hr
 refine(Tryz.strconv_Atoi_range S adK ha ev W hv hev).mono ?_
 grind
set_option maxHeartbeats 1000000 in
theorem Ek(neg:Bool)(s:Txt)(hs:s.length≤10000)(w:World)(ev:Value)(hv:w.cell? ⟨2,0,none⟩=some ev)(hev:ev= .nilIface∨∃te pe,ev= .iface te pe)(hg:2<w.heap.size):
  Calls Tryz.prog 194 #[.string ⟨(qn neg).toArray⟩,.string ⟨s.toArray⟩] w fun e w' =>e= .returned (.tuple #[.int .i64 (eP neg s).1,.int .i64 ((eP neg s).2:Nat)])∧Below w.heap.size w w' :=by
 have hle:=j8 dgt s;obtain⟨d,ed⟩:∃d,s.takeWhile dgt=d:=⟨_,rfl⟩;have htk:s.take d.length=d:=by grind [rD]
 have hrun:=Kv s adK w;have hall:=AG s;rw[ed]at hrun hle hall
 go_enter Tryz.func194,Tryz.ntmps194
 by_cases h0:d.length=0
 ·have e0:d= []:=by grind
  have en:eP neg s=(0,0):=by simp_all [eP,if_pos]
  go_wp2_with (go_at_call 230;refine hrun.mono ?_)
  rintro e W0 ⟨rfl,b0⟩
  rw[h0]
  go_wp2
  go_ret2
  simp_all
 ·have e0:d≠ []:=by grind
  go_wp2_with (go_at_call 230;refine hrun.mono ?_)
  rintro e W0 ⟨rfl,b0⟩
  have hpos:0<d.length:=adK;have hs0:0<s.length:=adK;have hsz:0<(⟨s.toArray⟩:ByteArray).size:=by grind [ByteArray.size]
  have hg0:(⟨s.toArray⟩:ByteArray)[0]=s[0]:=rfl;have hgn:∀x:UInt8,(s.head? =some x)↔s[0]=x:=fun x=>by
   rw[List.head?_eq_getElem?,List.getElem?_eq_getElem hs0];simp
  cases d0:((d.length:Int)==0)
  case true=>exact absurd adL h0
  have hS:(⟨(qn neg).toArray⟩:ByteArray)++(⟨s.toArray⟩:ByteArray).extract 0 d.length=⟨(qn neg++d).toArray⟩:=by
   apply ByteArray.ext
   simp_all
  have hcat:¬9223372036854775807<List.length (qn neg)+d.length:=by grind [zM]
  cases d1:decide (1<(d.length:Int))
  ·have f1:¬1<d.length:=by grind
   have en:eP neg s=if inI neg d then(AJ neg d,d.length)else(0,0):=by
    unfold eP;rw[ed,if_neg adL];rfl
   have hv0:W0.cell? ⟨2,0,none⟩=some ev:=by rw[b0.cell hg];omega
   by_cases hr:inI neg d
   ·rw[if_pos hr]at en
    go_wp2_with (go_at_call 134;refine(Cd neg d e0 hall adK _ adV hr _).mono ?_)
    rintro e W1 ⟨rfl,b1⟩
    go_wp2
    go_ret2
    rw[en];exact afv
   ·rw[if_neg hr]at en
    go_wp2_with (go_at_call 134;refine(C8 neg d e0 hall adK _ adV hr _ ev hv0 hev).mono ?_)
    rintro e W1 ⟨⟨x,N,rfl⟩,b1⟩
    go_wp2
    go_ret2
    rw[en];exact afv
  ·have f1:1<d.length:=by grind
   cases d2:((s[0].toNat:Int)==48)
   ·have f2:s.head?≠some 48:=by
     rw[ne_eq,hgn];intro e;simp_all
    have en:eP neg s=if inI neg d then(AJ neg d,d.length)else(0,0):=by
     unfold eP;rw[ed,if_neg adL];rfl
    have hv0:W0.cell? ⟨2,0,none⟩=some ev:=by rw[b0.cell hg];omega
    by_cases hr:inI neg d
    ·rw[if_pos hr]at en
     go_wp2_with (go_at_call 134;refine(Cd neg d e0 hall adK _ adV hr _).mono ?_)
     rintro e W1 ⟨rfl,b1⟩
     go_wp2
     go_ret2
     rw[en];exact afv
    ·rw[if_neg hr]at en
     go_wp2_with (go_at_call 134;refine(C8 neg d e0 hall adK _ adV hr _ ev hv0 hev).mono ?_)
     rintro e W1 ⟨⟨x,N,rfl⟩,b1⟩
     go_wp2
     go_ret2
     rw[en];exact afv
   ·have f2:s.head? =some 48:=by
     rw[hgn];have:(s[0].toNat:Int)=48:=adL;exact UInt8.toNat_inj.1 adL
    have en:eP neg s=(0,0):=by simp_all [eP,if_pos]
    go_wp2
    go_ret2
    simp_all
def ja(h:Heap):Prop:=∃ev:Value,(ev= .nilIface∨∃te pe,ev= .iface te pe)∧Tab h 2 [ev]
theorem ja.sub{h h' :Heap}(he:ja h)(hs:Ab.Sub h h'):ja h' :=by
 obtain⟨ev,h1,h2⟩:=he;exact⟨ev,h1,h2.sub hs⟩
theorem mI(neg:Bool)(s:Txt)(hs:s.length≤10000)(h:Heap)(he:ja h):ai Tryz.prog 194 [.s (qn neg),.s s] h fun r h' =>r= .tup [.v (.int .i64 (eP neg s).1),.i ((eP neg s).2:Nat)]∧h' =h:=by
 obtain⟨ev,hev,id,hi⟩:=he;refine .lib ⟨_,Tryz.func194,adV,rfl⟩ fun c vs hs' g h1 h2=>?_
 obtain⟨u,v,rfl⟩:∃u v,vs= #[u,v]:=by
  match vs,h1 with
  |⟨[u,v]⟩,_=>exact⟨u,v,rfl⟩
 have e1:u= .string ⟨(qn neg).toArray⟩:=((h2 0 adR).lK).1;have e2:v= .string ⟨s.toArray⟩:=((h2 1 adR).lK).1;subst e1;subst e2
 obtain⟨_,t,fr,hh⟩:=g.ro id _ _ (hs' _ _ hi);have hc:c.w.cell? ⟨2,0,none⟩=some ev:=by grind [World.cell?]
 refine(Ek neg s hs c.w ev hc hev (cW hh)).mono ?_;exact aiO
end Go.Proofs.YtfdgemhnlennbaaGreatDoor
namespace Go.Bf
open Go Go.Ab
def marks:Txt:=[123,125,40,41,46,44,59,61,60,62,33]
theorem Al:∀n:Fin 256,decide (0≤Lib.indexByte marks (UInt8.ofNat n.val))=Ed (UInt8.ofNat n.val):=adO
theorem rP(c:UInt8):decide (0≤Lib.indexByte marks c)=Ed c:=by
 have:=Al ⟨c.toNat,c.toNat_lt⟩;simpa using this
end Go.Bf
namespace Go.Proofs.YtfdgemhnlennbaaGreatDoor
open Go Go.Ab Go.Bf
theorem DR(l:Txt)(c:UInt8)(h:Heap):ai Tryz.prog 196 [.s l,.v (.int .u8 c.toNat)] h fun r h' =>r= .i (Lib.indexByte l c)∧h' =h:=by
 refine .lib ⟨_,Tryz.func196,adV,rfl⟩ fun cx vs hs' g h1 h2=>?_
 obtain⟨u,v,rfl⟩:∃u v,vs= #[u,v]:=by
  match vs,h1 with
  |⟨[u,v]⟩,_=>exact⟨u,v,rfl⟩
 have e1:u= .string ⟨l.toArray⟩:=((h2 0 adR).lK).1;have e2:v= .int .u8 c.toNat:=(h2 1 adR).bR;subst e1;subst e2
 refine(Tryz.strings_IndexByte ⟨l.toArray⟩ c.toNat cx.w).mono ?_;exact aiX
theorem I4(s:Txt)(h0:s≠ [])(hs:s.length≤4096)(h:Heap)(he:ja h):ai Tryz.prog 150 [.s s] h fun r h' =>r= .tup [fD (bB s).1,.i ((bB s).2:Nat)]∧h' =h:=by
 refine adJ Tryz.func150 106 [.cell 2 172,.tmp 3] fun hwf=>?_
 obtain⟨c,r,rfl⟩:=List.exists_cons_of_ne_nil h0;have hsl:r.length≤4095:=by simpa using hs
 simp only[go_sem];intro i2 hi2;simp only[go_sem];intro i4 hi4;have n24:=aH hi4;have g2:∀(f:Heap) (x:Option Blk),upd f i4 x i2=f i2:=fun f x=>ag f x n24.symm
 have g4:∀(f:Heap) (x:Option Blk),upd f i2 x i4=f i4:=fun f x=>ag f x n24
 have hsub:Ab.Sub h (upd (upd h i2 (some (.obj [.i 0,.i 0,.i 0,.s []] 172))) i4 (some (.obj [.i 0,.i 0,.i 0,.s []] 172))):=(Sub.aj hi2).trans (.aj hi4);have he2:=he.sub hsub;have hi4h:h i4=none:=by rw[ag _ _ n24]at hi4;exact hi4
 simp only[go_sem];refine .at 0 adR ?_;cases la:decide (97≤(c.toNat:Int))
 ·have hl:ltr c=false:=by simp only[ltr,la,Bool.false_and]
  simp only[go_sem,aJ,List.getElem_cons_zero,la];exact ahU
 ·cases lb:decide ((c.toNat:Int)≤122)
  ·have hl:ltr c=false:=by simp only[ltr,lb,Bool.and_false]
   simp only[go_sem,aJ,List.getElem_cons_zero,la,lb];exact ahU
  ·have hl:ltr c=true:=by simp only[ltr,la,lb];rfl
   simp only[go_sem,aJ,List.getElem_cons_zero,la,lb];refine(zc _ _).pthen ?_;simp only[go_sem,g2,ah];exact .mk _ (.refl _) adM ⟨by simp[bB,hl,fD,ax],rfl⟩
theorem Qf:(U 172).sz=4:=adV
theorem Wb:(U 172).bytes=40:=adV
theorem qd(l:List lg):Sized 4 (l.map fD):=fun z hz=>by
 obtain⟨c,_,rfl⟩:=List.mem_map.1 hz;rfl
def Gp:Lexed→AV
 |.bad e a=> .tup [.sl [] .no,.i e,.i a]
 |.ok l=> .tup [.sl (l.map fD) .no,.i 0,.i 0]
def K8(s:Txt)(h:Heap)(m:Nat)(ρ:Env)(h' :Heap):Prop:=
 ∃(i f:Nat) (y:AV) (out:List lg) (id:Nat),Acc U 172 h h' y (out.map fD)∧out.length≤i∧i≤s.length∧m=s.length - i∧s.length<f+i∧s.length≤4096∧h id=none∧(∃c0 c1 c2 c3,h' id=some (.obj [c0,c1,c2,c3] 172))∧qq f (s.drop i) i out=pK s∧lk ρ 0=some (.s s)∧lk ρ 5=some y∧lk ρ 6=some (.ptr id 0)∧lk ρ 7=some (.i i)
theorem ya(s:Txt)(h:Heap)(he:ja h):ai Tryz.prog 94 [.s s] h fun r h' =>r=Gp (pK s)∧h' =h:=by
 refine ai.of_wp hU Tryz.func94 rfl adV 52 rfl [.tmp 2,.tmp 3,.tmp 4] rfl (adz rfl) ?_;refine .one hU hm ?_;simp only[go_sem];refine WP.Nu hU hm 0 (K8 s h) rfl ?_ ?_
 ·rintro m ρ h' ⟨i,f,y,out,id,hy,hoi,hi,rfl,hf,hs,hid,⟨c0,c1,c2,c3,hob⟩,hl,r0,r5,r6,r7⟩
  refine .vc hU hm ?_;cases d1:((i:Int)==(s.length:Int))
  case true=>
   have e1:i=s.length:=adL;subst e1;obtain⟨f,rfl⟩:∃g,f=g+1:=⟨f - 1,adK⟩;rw[List.drop_length]at hl;simp only[qq]at hl;simp only[go_sem,r0,r5,r7,d1];refine hy.app (zs:=[fD ⟨7,s.length,0,[]⟩]) adO adO (fun k hk=>hk) (by grind [Qf,qd]) (by rw[Qf];exact qd [⟨7,s.length,0,[]⟩]) (by grind [Wb]) fun y' h2 hy' hk2=>?_
   simp only[go_sem];obtain⟨q,rfl⟩:=hy'.row;refine .mk _ (BV _ _ _ _) hy'.1 ⟨?_,rfl⟩
   grind [Gp]
  have e1:i≠s.length:=adL;have hlt:i<s.length:=adK;obtain⟨f,rfl⟩:∃g,f=g+1:=⟨f - 1,adK⟩;have hdr:s.drop i=s[i]::s.drop (i+1):=adR;have w1:IntKind.i64.wrap ((i:Int)+1)=((i+1:Nat):Int):=adY;have hl2:=hl;rw[hdr]at hl2;simp only[qq]at hl2;rw[←hdr]at hl2;have blank:lV s[i]=true→∃m',m' <s.length - i∧True:=fun _=>⟨s.length - (i+1),adK,trivial⟩
  cases d2:((s[i].toNat:Int)==32)
  case true=>
   have hb:lV s[i]=true:=by simp only[lV,d2,Bool.true_or]
   rw[if_pos hb]at hl2;simp only[go_sem,r0,r7,d1];refine .at i hlt ?_;simp only[go_sem,r7,aJ,d2,w1];exact aiN
  cases d3:((s[i].toNat:Int)==10)
  case true=>
   have hb:lV s[i]=true:=by simp only[lV,d3,Bool.or_true]
   rw[if_pos hb]at hl2;simp only[go_sem,r0,r7,d1];refine .at i hlt ?_;simp only[go_sem,r0,r7,aJ,d2];refine .at i hlt ?_;simp only[go_sem,r7,aJ,d3,w1];exact aiN
  have hb:¬lV s[i]=true:=by grind [lV]
  rw[if_neg hb]at hl2;have hne:s.drop i≠ []:=fun e=>by have:=congrArg List.length e;simp at this;omega
  have hle:=sC (s.drop i) hne;have hdl:(s.drop i).length=s.length - i:=adR;have hbo:=fun hh eh=>I4 (s.drop i) hne adK hh eh
  obtain⟨t,n,etn⟩:∃t n,bB (s.drop i)=(t,n):=⟨_,_,rfl⟩;rw[etn]at hbo hl2 hle;simp only[fD]at hbo hl2 hle;simp only[go_sem,r0,r7,d1];refine .at i hlt ?_;simp only[go_sem,r0,r7,aJ,d2];refine .at i hlt ?_;simp only[go_sem,r0,r7,aJ,d3,mu,Option.isSome_none,Option.isSome_some,Int.toNat_natCast];refine⟨adK,adK,adK,?_⟩;refine(hbo _ (he.sub hy.1)).pthen ?_;cases d4:((n:Int)==0)
  case true=>
   have e4:n=0:=adL;rw[if_pos e4]at hl2;simp only[go_sem,r6,r7,hob,d4];refine .mk _ (BV _ _ _ _) (hy.1.put hid _) ⟨?_,rfl⟩;rw[←hl2];rfl
  have e4:n≠0:=adL;rw[if_neg e4]at hl2;have w2:IntKind.i64.wrap ((i:Int)+(n:Int))=((i+n:Nat):Int):=adY;simp only[go_sem,r5,r6,r7,hob,d4];refine(hy.put hid hob _).app (zs:=[fD {t with pos:=i}]) adO adO (fun k hk=>hk) (by grind [Qf,qd]) (by rw[Qf];exact qd [{t with pos:=i}]) (by grind [Wb]) fun y' h2 hy' hk2=>?_
  simp only[go_sem,r7,w2];refine⟨s.length - (i+n),adK,i+n,f,y',out++ [{t with pos:=i}],id,adL,adL,adK,rfl,adK,hs,hid,⟨_,_,_,_,hk2 _ _ _ (ah ..)⟩,?_,?_,?_,?_,?_⟩
  ·grind [List.drop_drop]
  all_goals simp only[go_sem,r0,r6]
 ·intro nx
  cases d0:decide (4096<(s.length:Int))
  case true=>
   have e0:s.length>4096:=adL;refine .one hU hm ?_;simp only[go_sem,d0];exact .mk (.tup [.sl [] .no,.i 6,.i 4096]) (fE (.tup [.sl [] .full,.i 6,.i 4096])) (.refl _) ⟨by rw[pK,if_pos e0];rfl,rfl⟩
  have e0:¬s.length>4096:=adL;refine .one hU hm ?_;simp only[go_sem,d0];refine .one hU hm ?_;simp only[go_sem];refine .one hU hm ?_;simp only[go_sem];intro id hid;simp only[go_sem];refine .one hU hm ?_;simp only[go_sem];refine .one hU hm ?_;simp only[go_sem];refine nx (s.length - 0) _ _ ⟨0,s.length+1,_,[],id,.full (.aj hid),adR,adK,rfl,adK,adK,hid,⟨_,_,_,_,ah ..⟩,by simp_all [pK,if_neg],?_,?_,?_,?_⟩<;>simp only[go_sem]
def PO(st:PS):Blk:=.obj [.sl (st.ts.map fD) .no,.i st.pos,.i st.rules,.i st.bad,.i st.place] 169
def PC(f:FuncId)(args:List AV)(st:PS)(R:AV)(st' :PS):Prop:=∀(h:Heap) (id:Nat),h id=some (PO st)→ai Tryz.prog f (.ptr id 0::args) h fun r h' =>r=R∧h' =upd h id (some (PO st'))
theorem PC.go{f:FuncId}{args:List AV}{st st' :PS}{R:AV}(hc:PC f args st R st'){h:Heap}{id:Nat}{Q:AV→Heap→Prop}(hid:h id=some (PO st))(k:Q R (upd h id (some (PO st')))):ai Tryz.prog f (.ptr id 0::args) h Q:=
 (hc h id hid).mono fun r h' ⟨e1,e2⟩=>agl
theorem bG{h:Heap}{id:Nat}{b:Option Blk}(e:h id=b):upd h id b=h:=by
 grind [ah,ag]
theorem rI(st:PS)(e p:Int):PC 99 [.i e,.i p] st (.tup []) (bI st e p):=fun h id hid=>by
 refine adJ Tryz.func99 19 [] fun hwf=>?_
 have g:=hid;unfold PO at g;cases d1:(st.bad==0)
 ·have e1:st.bad≠0:=by grind
  simp only[go_sem,g,d1];exact .mk _ (.refl _) (.refl _) ⟨rfl,by rw[bI,if_neg e1,bG hid]⟩
 ·have e1:st.bad=0:=by grind
  simp only[go_sem,g,d1];exact .mk _ (.refl _) (.refl _) ⟨rfl,by rw[bI,if_pos e1];rfl⟩
theorem mA(st:PS)(hw:WfP st):PC 96 [] st (fD (aK st)) st:=fun h id hid=>by
 refine adJ Tryz.func96 13 [.cell 2 172] fun hwf=>?_
 have g:=hid;unfold PO at g;simp only[go_sem];intro i2 hi2;have n2:id≠i2:=fun e=>adL
 simp only[go_sem,g,ak,n2];refine⟨.of adN,?_⟩;refine .at st.pos (by simpa using hw.1) ad0 ?_
 simp only[go_sem,adB,fD];refine .mk _ (.refl _) (.aj hi2) ⟨by rw[DN hw.1];rfl,(bG hid).symm⟩
theorem lN(st:PS)(hw:WfP st):PC 97 [] st (.tup []) (bn st):=fun h id hid=>by
 refine adJ Tryz.func97 7 [] fun hwf=>?_
 simp only[go_sem];refine(mA st hw).go hid ?_;rw[bG hid];simp only[go_sem,fD];refine(rI st 5 _).go hid ?_;exact ait
theorem cM(st:PS)(b:Bool)(hw:WfP st):PC 200 [.b b] st (.tup []) (bF st b):=fun h id hid=>by
 refine adJ Tryz.func200 10 [] fun hwf=>?_
 cases b
 ·simp only[go_sem]
  exact ags
 simp only[go_sem];refine(mA st hw).go hid ?_;rw[bG hid];simp only[go_sem,fD];refine(rI st 6 _).go hid ?_;exact ait
theorem tX(st:PS)(s:Txt)(hw:WfP st):PC 201 [.s s] st (.b (isD st s)) st:=fun h id hid=>by
 refine adJ Tryz.func201 29 [.tmp 4] fun hwf=>?_
 have g:=hid;unfold PO at g;simp only[go_sem];refine(mA st hw).go hid ?_;rw[bG hid];simp only[go_sem,fD];intro i2 hi2;have n2:id≠i2:=fun e=>adL
 cases d1:(st.bad==0)<;>cases d2:((aK st).s==s)<;>cases d3:((aK st).kind==1)<;>cases d4:((aK st).kind==6)
 all_goals
  simp only[go_sem,g,ak,n2,d1,d2,d3,d4];exact .mk _ (.refl _) (.aj hi2) ⟨by simp only[isD,d1,d2,d3,d4];rfl,rfl⟩
theorem j9(st:PS)(s:Txt)(hw:WfP st):PC 198 [.s s] st (.v (.bool (cm st s).1)) (cm st s).2:=fun h id hid=>by
 refine adJ Tryz.func198 18 [.tmp 4] fun hwf=>?_
 have g:=hid;unfold PO at g;simp only[go_sem];refine(tX st s hw).go hid ?_;rw[bG hid];cases d1:isD st s
 ·have e:cm st s=(false,st):=by grind [cm]
  simp only[go_sem];exact .mk _ (.refl _) (.refl _) ⟨ahy,by grind [bG]⟩
 ·have e:cm st s=(true,bl st):=by grind [cm]
  have w1:IntKind.i64.wrap ((st.pos:Int)+1)=((st.pos+1:Nat):Int):=afo;simp only[go_sem,g,w1];exact .mk _ (.refl _) (.refl _) ⟨ahy,ahy⟩
theorem kV(st:PS)(s:Txt)(hw:WfP st):PC 154 [.s s] st (.tup []) (dU st s):=fun h id hid=>by
 refine adJ Tryz.func154 10 [] fun hwf=>?_
 simp only[go_sem];refine(j9 st s hw).go hid ?_;cases d1:isD st s
 ·have e:cm st s=(false,st):=by grind [cm]
  rw[e,bG hid];simp only[go_sem];refine(lN st hw).go hid ?_;exact ajs
 ·have e:cm st s=(true,bl st):=by grind [cm]
  rw[e];exact ajs
theorem ur(st:PS)(hw:WfP st):PC 152 [] st (.s (ck st).1) (ck st).2:=fun h id hid=>by
 refine adJ Tryz.func152 25 [.tmp 2] fun hwf=>?_
 have g:=hid;unfold PO at g;have w1:IntKind.i64.wrap ((st.pos:Int)+1)=((st.pos+1:Nat):Int):=afo;simp only[go_sem];refine(mA st hw).go hid ?_;rw[bG hid];simp only[go_sem,fD];intro i2 hi2;have n2:id≠i2:=fun e=>adL
 cases d1:((aK st).kind !=1)
 case true=>
  have e1:(aK st).kind≠1:=adL;have en:ck st=([],bn st):=by grind [ck]
  simp only[go_sem,d1];have hid2:upd h i2 (some (.obj [.v (.int .i64 (aK st).kind),.v (.int .i64 (aK st).pos),.v (.int .i64 (aK st).n),.s (aK st).s] 172)) id=some (PO st):=ael;refine(lN st hw).go hid2 ?_;have hb:(bn st).bad≠0:=by
   grind [bn,bI,Int]
  have d2:((bn st).bad !=0)=true:=adL;simp only[go_sem,PO,d2];exact .mk _ (.refl _) (Sub.both (.aj hi2) _ _) ⟨aez,adL⟩
 have e1:(aK st).kind=1:=adL;cases d2:(st.bad !=0)
 case true=>
  have e2:st.bad≠0:=adL;have en:ck st=([],st):=by grind [ck]
  simp only[go_sem,g,ak,n2,d1,d2];exact .mk _ (.refl _) (.aj hi2) ⟨aez,by grind [bG]⟩
 have e2:st.bad=0:=adL;have en:ck st=((aK st).s,bl st):=by grind [ck]
 simp only[go_sem,g,ak,n2,n2.symm,d1,d2,w1];exact .mk _ (.refl _) (Sub.both (.aj hi2) _ _) ⟨aez,by rw[en];try rfl⟩
theorem PC.run{f:FuncId}{args:List AV}{st st' :PS}{R:AV}(hc:PC f args st R st'){G:Heap}{id:Nat}{Q:AV→Heap→Prop}(k:Q R (upd G id (some (PO st')))):ai Tryz.prog f (.ptr id 0::args) (upd G id (some (PO st))) Q:=
 hc.go (ah ..) (by rw[cI];exact k)
theorem PC.of{f:FuncId}{args:List AV}{st st' :PS}{R:AV}(hk:∀(G:Heap) (id:Nat),ai Tryz.prog f (.ptr id 0::args) (upd G id (some (PO st))) fun r h' =>r=R∧h' =upd G id (some (PO st'))):PC f args st R st' :=fun h id hid=>by
 have:=hk h id;rw[bG hid]at this;exact aer
theorem cu{α:Type}(f:Nat→α){i j:Nat}(x y:α)(h:i≠j):upd (upd f i x) j y=upd (upd f j y) i x:=by
 grind [ag,ah]
theorem Ct{s:Txt}:∀ {ws:List Txt} {i:Nat},vl s ws=some i→i<ws.length
 |w::r,i,h=>by
  simp only[vl]at h;split at h
  ·grind
  ·cases hr:vl s r with
   |none=>grind
   |some j=>rw[hr]at h;cases h;have:=Ct hr;simp;omega
theorem HV{s:Txt}:∀ {ws:List Txt} (i:Nat) (hi:i<ws.length),(∀j (hj:j<ws.length),j<i→ws[j]≠s)→ws[i]=s→vl s ws=some i
 |w::r,0,_,_,h=>by grind [vl]
 |w::r,i+1,hi,hb,h=>by
  have h0:=hb 0 adR adK;simp only[List.getElem_cons_zero]at h0;simp only[vl,if_neg h0];rw[HV i adL adL adL];rfl
theorem Bi{s:Txt}:∀ {ws:List Txt},(∀j (hj:j<ws.length),ws[j]≠s)→vl s ws=none
 | [],_=>rfl
 |w::r,hb=>by
  have h0:=hb 0 adR;simp only[List.getElem_cons_zero]at h0;simp only[vl,if_neg h0];rw[Bi (fun j hj=>by have:=hb (j+1) adL;simpa using this)]
  rfl
def Sl(o:Option Nat):Int:=match o with
 |some i=>i
 |none=> -1
theorem JU(ws:List Txt)(q:Perm)(s:Txt)(hl:ws.length≤1000)(h:Heap):ai Tryz.prog 197 [.sl (ws.map AV.s) q,.s s] h fun r h' =>r= .i (Sl (vl s ws))∧h' =h:=by
 refine adJ Tryz.func197 19 [.tmp 4] fun hwf=>?_
 simp only[go_sem,adA];refine .intro (fun m ρ h' =>h' =h∧∃i:Nat,i≤ws.length∧m=ws.length - i∧(∀j (hj:j<ws.length),j<i→ws[j]≠s)∧lk ρ 0=some (.sl (ws.map AV.s) q)∧lk ρ 1=some (.s s)∧lk ρ 7=some (.i ws.length)∧lk ρ 8=some (.i i)) ws.length ?_ ?_
 ·refine⟨rfl,0,adK,rfl,fun j _ hj=>adK,?_,?_,?_,?_⟩<;>simp only[go_sem]
 ·rintro m ρ h' ⟨rfl,i,hi,rfl,hc,r0,r1,r7,r8⟩
  simp only[go_sem,r7,r8];refine .intro (fun e=>?_) (fun e=>?_)
  ·have hlt:i<ws.length:=adH e
   have w1:IntKind.i64.wrap ((i:Int)+1)=((i+1:Nat):Int):=adY;simp only[go_sem,r0,r1,r8];refine .at i adL ad0 ?_;cases d1:(s==ws[i])
   ·have e1:ws[i]≠s:=by grind
    simp only[go_sem,r8,adB,d1,w1];refine⟨_,?_,rfl,i+1,adK,rfl,fun j hj hji=>?_,?_,?_,?_,?_⟩
    ·omega
    ·grind
    all_goals simp only[go_sem,r0,r1,r7]
   ·have e1:ws[i]=s:=by grind
    simp only[go_sem,adB,d1];exact .same (.refl _) ⟨by rw[HV i hlt hc e1];rfl,rfl⟩
  ·have hge:i=ws.length:=by grind
   subst hge;simp only[go_sem];exact .same (.refl _) ⟨by rw[Bi fun j hj=>hc j hj hj];rfl,rfl⟩
theorem oJ(st:PS)(ws:List Txt)(q:Perm)(hl:ws.length≤1000)(hw:WfP st):PC 151 [.sl (ws.map AV.s) q] st (.v (.int .i64 (aW st ws).1)) (aW st ws).2:=.of fun G id=>by
 refine adJ Tryz.func151 28 [.tmp 4] fun hwf=>?_
 simp only[go_sem];refine(mA st hw).run ?_;simp only[go_sem,fD];intro i2 hi2;have n2:=aH hi2;have hG2:G i2=none:=ael;have c2:∀(f:Heap) (x y:Option Blk),upd (upd f id x) i2 y=upd (upd f i2 y) id x:=fun f x y=>cu f x y n2.symm
 cases d1:((aK st).kind==1)
 ·have e1:(aK st).kind≠1:=by grind
  have en:aW st ws=(0,bn st):=by grind [aW]
  simp only[go_sem,c2,ak,n2,d1];exact aiq
 have e1:(aK st).kind=1:=adL;simp only[go_sem,c2,ak,n2,d1];refine(JU ws q _ hl _).pthen ?_;cases ei:vl (aK st).s ws with
 |none=>
  have en:aW st ws=(0,bn st):=by grind [aW]
  have dm:decide ((0:Int)≤ -1)=false:=adO;simp only[go_sem,Sl,dm];exact aiq
 |some i=>
  have hil:=Ct ei;have d2:decide (0≤(i:Int))=true:=adR;have w1:IntKind.i64.wrap ((i:Int)+1)=((i:Int)+1):=adY;simp only[go_sem,Sl,d2,ak,n2];refine(j9 st _ hw).run ?_;cases d3:(st.bad==0)
  ·have e3:st.bad≠0:=by grind
   have et:cm st (aK st).s=(false,st):=by grind [cm,isD]
   have en:aW st ws=(0,bn st):=by grind [aW]
   rw[et];simp only[go_sem];exact aiq
  ·have e3:st.bad=0:=by grind
   have et:cm st (aK st).s=(true,bl st):=by grind [cm,isD]
   have en:aW st ws=((i:Int)+1,bl st):=by grind [aW]
   rw[et];simp only[go_sem,w1];exact .mk _ (.refl _) (Sub.both (.aj hG2) _ _) ⟨aez,by rw[en]⟩
theorem Lr(st:PS)(hw:WfP st):PC 291 [] st (C9 (ga st).1) (ga st).2:=.of fun G id=>by
 have h1:=gE we hw;have h2:=jt [46] h1.1;have h3:=nK h2.1;refine adJ Tryz.func291 17 [.cell 2 213] fun hwf=>?_
 simp only[go_sem];intro i2 hi2;have n2:=aH hi2;have hG2:G i2=none:=ael;have c2:∀(f:Heap) (x y:Option Blk),upd (upd f id x) i2 y=upd (upd f i2 y) id x:=fun f x y=>cu f x y n2.symm
 simp only[go_sem,c2];intro i3 hi3;have n3:=aH hi3;have hi3' :=hi3;rw[ag _ _ n3]at hi3';have n32:=aH hi3';have hG3:G i3=none:=ael;have c3:∀(f:Heap) (x y:Option Blk),upd (upd f id x) i3 y=upd (upd f i3 y) id x:=fun f x y=>cu f x y n3.symm
 have c23:∀(f:Heap) (x y:Option Blk),upd (upd f i3 x) i2 y=upd (upd f i2 y) i3 x:=fun f x y=>cu f x y n32
 have m32:¬i3=i2:=n32;have m23:¬i2=i3:=n32.symm;simp only[go_sem,c3];refine(oJ st we .full adO hw).run ?_;simp only[go_sem,c3,ak,n3];refine(kV _ [46] h1.1).run ?_;simp only[go_sem];refine(ur _ h2.1).run ?_;simp only[go_sem,c3,ak,n3];refine(j9 _ [33] h3.1).run ?_;simp only[go_sem,c2,c3,c23,ak,n2,n3,m23];exact .mk _ (.refl _) (Sub.both aed _ _) ⟨rfl,rfl⟩
theorem uN(st:PS)(hw:WfP st):PC 292 [] st (aP (aD st).1) (aD st).2:=.of fun G id=>by
 refine adJ Tryz.func292 56 [.cell 2 33] fun hwf=>?_
 have w1:IntKind.i64.wrap ((st.pos:Int)+1)=((st.pos+1:Nat):Int):=afo;simp only[go_sem];intro i2 hi2;have n2:=aH hi2;have hG2:G i2=none:=by rw[ag _ _ n2]at hi2;exact hi2
 have c2:∀(f:Heap) (x y:Option Blk),upd (upd f id x) i2 y=upd (upd f i2 y) id x:=fun f x y=>cu f x y n2.symm
 simp only[go_sem,c2];refine(mA st hw).run ?_;simp only[go_sem,fD];intro i3 hi3;have n3:=aH hi3;have hi3' :=hi3;rw[ag _ _ n3]at hi3';have n32:=aH hi3';have hG3:G i3=none:=by rw[ag _ _ n32]at hi3';exact hi3'
 have c3:∀(f:Heap) (x y:Option Blk),upd (upd f id x) i3 y=upd (upd f i3 y) id x:=fun f x y=>cu f x y n3.symm
 have c23:∀(f:Heap) (x y:Option Blk),upd (upd f i3 x) i2 y=upd (upd f i2 y) i3 x:=fun f x y=>cu f x y n32
 have m32:¬i3=i2:=n32;have m23:¬i2=i3:=n32.symm;simp only[go_sem,c3,ak,n3];intro i4 hi4;have n4:=aH hi4;have hi4' :=hi4;rw[ag _ _ n4]at hi4';have n43:=aH hi4';have hi4'' :=hi4';rw[ag _ _ n43]at hi4'';have n42:=aH hi4'';have hG4:G i4=none:=by rw[ag _ _ n42]at hi4'';exact hi4''
 have c4:∀(f:Heap) (x y:Option Blk),upd (upd f id x) i4 y=upd (upd f i4 y) id x:=fun f x y=>cu f x y n4.symm
 have c24:∀(f:Heap) (x y:Option Blk),upd (upd f i4 x) i2 y=upd (upd f i2 y) i4 x:=fun f x y=>cu f x y n42
 have c34:∀(f:Heap) (x y:Option Blk),upd (upd f i4 x) i3 y=upd (upd f i3 y) i4 x:=fun f x y=>cu f x y n43
 have m42:¬i4=i2:=n42;have m24:¬i2=i4:=n42.symm;have m43:¬i4=i3:=n43;have m34:¬i3=i4:=n43.symm;cases k2:((aK st).kind==2)
 case true=>
  have e2:(aK st).kind=2:=by simpa using k2
  have ev:fY st=(⟨2,(aK st).n,(aK st).s⟩,st):=by simp[fY,e2]
  cases kb:(st.bad !=0)
  ·have eb:st.bad=0:=by simpa using kb
   have en:aD st=(⟨2,(aK st).n,(aK st).s⟩,bl st):=ae7;simp only[go_sem,c2,c4,c23,c24,ak,n2,n3,n4,m23,m24,m34,k2,PO,kb,w1];exact ah0
  ·have eb:st.bad≠0:=by simpa using kb
   have en:aD st=(⟨0,0,[]⟩,st):=ae7;simp only[go_sem,c2,c4,c23,c24,ak,n2,n3,n4,m23,m24,m34,k2,PO,kb];exact ah0
 have e2:(aK st).kind≠2:=by simpa using k2
 cases k3:((aK st).kind==3)
 case true=>
  have e3:(aK st).kind=3:=by simpa using k3
  have ev:fY st=(⟨4,(aK st).n,(aK st).s⟩,st):=by simp[fY,e3]
  cases kb:(st.bad !=0)
  ·have eb:st.bad=0:=by simpa using kb
   have en:aD st=(⟨4,(aK st).n,(aK st).s⟩,bl st):=ae7;simp only[go_sem,c2,c4,c23,c24,ak,n2,n3,n4,m23,m24,m34,k2,k3,PO,kb,w1];exact ah0
  ·have eb:st.bad≠0:=by simpa using kb
   have en:aD st=(⟨0,0,[]⟩,st):=ae7;simp only[go_sem,c2,c4,c23,c24,ak,n2,n3,n4,m23,m24,m34,k2,k3,PO,kb];exact ah0
 have e3:(aK st).kind≠3:=by simpa using k3
 cases k4:((aK st).kind==4)
 case true=>
  have e4:(aK st).kind=4:=by simpa using k4
  have ev:fY st=(⟨5,(aK st).n,(aK st).s⟩,st):=by simp[fY,e4]
  cases kb:(st.bad !=0)
  ·have eb:st.bad=0:=by simpa using kb
   have en:aD st=(⟨5,(aK st).n,(aK st).s⟩,bl st):=ae7;simp only[go_sem,c2,c4,c23,c24,ak,n2,n3,n4,m23,m24,m34,k2,k3,k4,PO,kb,w1];exact ah0
  ·have eb:st.bad≠0:=by simpa using kb
   have en:aD st=(⟨0,0,[]⟩,st):=ae7;simp only[go_sem,c2,c4,c23,c24,ak,n2,n3,n4,m23,m24,m34,k2,k3,k4,PO,kb];exact ah0
 have e4:(aK st).kind≠4:=by simpa using k4
 cases k5:((aK st).kind==5)
 case true=>
  have e5:(aK st).kind=5:=by simpa using k5
  have ev:fY st=(⟨3,(aK st).n,(aK st).s⟩,st):=by simp[fY,e5]
  cases kb:(st.bad !=0)
  ·have eb:st.bad=0:=by simpa using kb
   have en:aD st=(⟨3,(aK st).n,(aK st).s⟩,bl st):=ae7;simp only[go_sem,c2,c4,c23,c24,ak,n2,n3,n4,m23,m24,m34,k2,k3,k4,k5,PO,kb,w1];exact ah0
  ·have eb:st.bad≠0:=by simpa using kb
   have en:aD st=(⟨0,0,[]⟩,st):=ae7;simp only[go_sem,c2,c4,c23,c24,ak,n2,n3,n4,m23,m24,m34,k2,k3,k4,k5,PO,kb];exact ah0
 have e5:(aK st).kind≠5:=by simpa using k5
 simp only[go_sem,c4,ak,n3,n4,m34,k2,k3,k4,k5];refine(tX st xj hw).run ?_;cases kt:isD st xj
 case true=>
  have ev:fY st=(⟨1,1,[]⟩,st):=by simp[fY,e2,e3,e4,e5,kt]
  cases kb:(st.bad !=0)
  ·have eb:st.bad=0:=by simpa using kb
   have en:aD st=(⟨1,1,[]⟩,bl st):=ae7;simp only[go_sem,c2,c4,c23,c24,ak,n2,n4,m23,m24,PO,kb,w1];exact ah0
  ·have eb:st.bad≠0:=by simpa using kb
   have en:aD st=(⟨0,0,[]⟩,st):=ae7;simp only[go_sem,c2,c4,c23,c24,ak,n2,n4,m23,m24,PO,kb];exact ah0
 simp only[go_sem];refine(tX st qO hw).run ?_;cases kf:isD st qO
 case true=>
  have ev:fY st=(⟨1,0,[]⟩,st):=by simp[fY,e2,e3,e4,e5,kt,kf]
  cases kb:(st.bad !=0)
  ·have eb:st.bad=0:=by simpa using kb
   have en:aD st=(⟨1,0,[]⟩,bl st):=ae7;simp only[go_sem,c2,c4,c23,c24,ak,n2,n4,m23,m24,PO,kb,w1];exact ah0
  ·have eb:st.bad≠0:=by simpa using kb
   have en:aD st=(⟨0,0,[]⟩,st):=ae7;simp only[go_sem,c2,c4,c23,c24,ak,n2,n4,m23,m24,PO,kb];exact ah0
 have ev:fY st=(⟨0,(aK st).n,(aK st).s⟩,bn st):=by simp[fY,e2,e3,e4,e5,kt,kf]
 have en:aD st=(⟨0,0,[]⟩,bn st):=by simp[aD,ev,rX]
 have kb:((bn st).bad !=0)=true:=by simpa using rX st
 simp only[go_sem];refine(lN st hw).run ?_;simp only[go_sem,c2,c23,c24,ak,n2,m23,m24,PO,kb];exact ah0
def ug:List Txt:=[[61],[60],[62]]
theorem SM{st:PS}(i:Nat)(hi:i<ug.length)(hb:∀j (hj:j<ug.length),j<i→isD st ug[j]=false)(h:isD st ug[i]=true):opP st=((i:Int)+1,bl st):=by
 have h3:i<3:=hi;rcases(by omega:i=0∨i=1∨i=2)with rfl|rfl|rfl
 ·simp only[opP,show isD st [61]=true from h,if_true];rfl
 ·simp only[opP,show isD st [61]=false from hb 0 adO adO,show isD st [60]=true from h,if_true];rfl
 ·simp only[opP,show isD st [61]=false from hb 0 adO adO,show isD st [60]=false from hb 1 adO adO,show isD st [62]=true from h,if_true];rfl
theorem MQ{st:PS}(hb:∀j (hj:j<ug.length),isD st ug[j]=false):opP st=(0,bn st):=by
 simp only[opP,show isD st [61]=false from hb 0 adO,show isD st [60]=false from hb 1 adO,show isD st [62]=false from hb 2 adO];rfl
theorem Ic(st:PS)(hw:WfP st):PC 266 [] st (dM (gz st).1) (gz st).2:=.of fun G id=>by
 have h1:=B5 hw;obtain⟨a,st1,e1⟩:∃a st1,ga st=(a,st1):=⟨_,_,rfl⟩;have hat:=Lr st hw;rw[e1]at h1 hat;simp only at h1 hat;refine adJ Tryz.func266 32 [.cell 2 265] fun hwf=>?_
 simp only[go_sem];intro i2 hi2;have n2:=aH hi2;have hG2:G i2=none:=ael;have c2:∀(f:Heap) (x y:Option Blk),upd (upd f id x) i2 y=upd (upd f i2 y) id x:=fun f x y=>cu f x y n2.symm
 simp only[go_sem,c2];refine hat.run ?_;simp only[go_sem,C9];intro i3 hi3;have n3:=aH hi3;have hi3' :=hi3;rw[ag _ _ n3]at hi3';have n32:=aH hi3';have hG3:G i3=none:=ael;have c3:∀(f:Heap) (x y:Option Blk),upd (upd f id x) i3 y=upd (upd f i3 y) id x:=fun f x y=>cu f x y n3.symm
 have c23:∀(f:Heap) (x y:Option Blk),upd (upd f i3 x) i2 y=upd (upd f i2 y) i3 x:=fun f x y=>cu f x y n32
 have m32:¬i3=i2:=n32;have m23:¬i2=i3:=n32.symm;simp only[go_sem,c3,ak,n3];refine .intro (fun m ρ H=>H=upd (upd (upd G i2 (some (.obj [.i 0,.s [],.b false,.i 0,.i 0,.i 0,.s []] 265))) i3 (some (.obj [.i a.cat,.s a.name,.b a.must,.i 0,.i 0,.i 0,.s []] 265))) id (some (PO st1))∧
  ∃i:Nat,i≤3∧m=3 - i∧(∀j (hj:j<ug.length),j<i→isD st1 ug[j]=false)∧lk ρ 0=some (.ptr id 0)∧lk ρ 2=some (.ptr i2 0)∧lk ρ 3=some (.ptr i3 0)∧lk ρ 9=some (.sl (ug.map AV.s) .full)∧lk ρ 10=some (.i 3)∧lk ρ 11=some (.i i)) 3 ?_ ?_
 ·refine⟨rfl,0,adK,rfl,fun j _ hj=>adK,?_,?_,?_,?_,?_,?_⟩<;>simp only[go_sem]<;>rfl
 ·rintro m ρ H ⟨rfl,i,hi,rfl,hb,r0,r2,r3,r9,r10,r11⟩
  simp only[go_sem,r10,r11];refine .intro (fun e=>?_) (fun e=>?_)
  ·have hlt:i<3:=by grind
   have hlo:i<ug.length:=hlt;have w1:IntKind.i64.wrap ((i:Int)+1)=((i+1:Nat):Int):=adY;have w2:IntKind.i64.wrap (1+(i:Int))=((i:Int)+1):=adL;simp only[go_sem,r9,r11];refine .at i adL ad0 ?_;simp only[go_sem,r0,adB];refine(j9 st1 ug[i] h1.1).run ?_;cases d1:isD st1 ug[i]
   ·have et:cm st1 ug[i]=(false,st1):=by grind [cm]
    rw[et];simp only[go_sem,r11,w1];refine⟨_,?_,rfl,i+1,adK,rfl,fun j hj hji=>?_,?_,?_,?_,?_,?_,?_⟩
    ·omega
    ·grind
    all_goals simp only[go_sem,r0,r2,r3,r9,r10]
   ·have et:cm st1 ug[i]=(true,bl st1):=by grind [cm]
    have eo:=SM i hlo hb d1;have h2:Ah st1 (bl st1):=eY h1.1 (dH d1);have en:gz st=(⟨a,(i:Int)+1,(aD (bl st1)).1⟩,(aD (bl st1)).2):=by grind [gz]
    have d2:(((i:Int)+1)==0)=false:=adV;rw[et];simp only[go_sem,c3,ak,n3,r0,r3,w2,d2];refine(uN (bl st1) h2.1).run ?_;exact aiT
  ·have hge:i=3:=by grind
   subst hge;have eo:=MQ fun j hj=>hb j hj hj
   have h2:Ah st1 (bn st1):=oI h1.1;have en:gz st=(⟨a,0,(aD (bn st1)).1⟩,(aD (bn st1)).2):=by grind [gz]
   simp only[go_sem,r0,r3,ak,n3];refine(lN st1 h1.1).run ?_;simp only[go_sem,r0];refine(uN (bn st1) h2.1).run ?_;exact aiT
theorem Tg:(U 265).sz=7:=adV
theorem Wk:(U 265).bytes=72:=adV
theorem IF(l:List bQ):Sized 7 (l.map dM):=fun z hz=>by
 obtain⟨c,_,rfl⟩:=List.mem_map.1 hz;rfl
theorem Tf:(U 266).sz=1:=adV
theorem Wi:(U 266).bytes=24:=adV
theorem IE(l:List (List bQ)):Sized 1 (l.map jb):=fun z hz=>by
 obtain⟨c,_,rfl⟩:=List.mem_map.1 hz;rfl
theorem Th:(U 262).sz=1:=adV
theorem Wm:(U 262).bytes=24:=adV
theorem II(l:List (List (List bQ))):Sized 1 (l.map cU):=fun z hz=>by
 obtain⟨c,_,rfl⟩:=List.mem_map.1 hz;rfl
theorem Qy(st:PS)(hw:WfP st):PC 235 [] st (jb (qo st).1) (qo st).2:=.of fun G id=>by
 have h1:=qx hw;have hm1:=Ic st hw;obtain⟨x0,st1,e1⟩:∃x0 st1,gz st=(x0,st1):=⟨_,_,rfl⟩;have ep:fR gz [44] 8 st.ts.length st1 [x0]=qo st:=by grind [qo]
 rw[e1]at h1 hm1;simp only[dM]at h1 hm1;refine adJ Tryz.func235 20 [.tmp 2] fun hwf=>?_
 simp only[go_sem];refine hm1.run ?_;simp only[go_sem];have hB:upd G id none id=none:=ah ..;refine .intro (fun m ρ H=>∃(f:Nat) (st' :PS) (l:List _) (y:AV),H id=some (PO st')∧Acc U 265 (upd G id none) H y (l.map dM)∧Ah st1 st'∧fR gz [44] 8 f st' l=qo st∧st1.ts.length≤f+st'.pos∧l.length≤st'.pos+1∧m=st1.ts.length - st'.pos∧lk ρ 0=some (.ptr id 0)∧lk ρ 3=some y) (st1.ts.length - st1.pos) ?_ ?_
 ·refine⟨st.ts.length,st1,[x0],.sl ([x0].map dM) .full,ah ..,.full (base_start G id _),.refl h1.1,ep,by rw[h1.2.1];omega,adR,rfl,?_,?_⟩<;>simp only[go_sem]<;>rfl
 ·rintro m ρ H ⟨f,st',l,y,hH,hy,ha,hfin,hf,hll,rfl,r0,r3⟩
  have hlen:=ha.1.2.2;have hpos:=ha.1.1;have htl:=ha.2.1;simp only[go_sem,r0];refine(j9 st' [44] ha.1).go hH ?_;cases d1:isD st' [44]
  ·have et:cm st' [44]=(false,st'):=by grind [cm]
   have ef:fR gz [44] 8 f st' l=(l,st'):=ahb;rw[et,bG hH];rw[ef]at hfin;simp only[go_sem,r3];exact .mk (h' :=upd G id (some (PO (qo st).2))) (jb l) hy.weak (by rw[←hfin];exact fu hy.1 hH) ⟨adL,rfl⟩
  ·have et:cm st' [44]=(true,bl st'):=by grind [cm]
   obtain⟨g,rfl⟩:∃g,f=g+1:=⟨f - 1,adL⟩;simp only[fR,d1,if_true]at hfin;have h2:=eY ha.1 (dH d1);have hone:=Ic (bl st') h2.1;have h3:=(fun _ h=>qx h:∀st,WfP st→Ah st (gz st).2) _ h2.1
   obtain⟨x,st2,e2⟩:∃x st2,gz (bl st')=(x,st2):=⟨_,_,rfl⟩;rw[e2]at hfin hone h3;simp only[dM]at hfin hone h3;have hdec:decide ((8:Int)<((l.length+1:Nat):Int))=decide (8<l.length+1):=by
    grind
   have h4:=lp (decide (8<l.length+1)) h3.1;have hnp:(bl st').pos=st'.pos+1:=rfl;have hp3:=h3.2.2;have hp4:=h4.2.2;rw[et];simp only[go_sem,r0,r3];refine hone.run ?_;simp only[go_sem];refine(hy.put hB hH _).app (zs:=[dM x]) (by grind [Tg]) (by grind [Wk]) (fun k hk=>hk) (by grind [Tg,IF]) (by rw[Tg];exact IF [x]) (by grind [Wk]) fun y' H2 hy' hk2=>?_
   exact ahY
theorem Qz(st:PS)(hw:WfP st):PC 199 [] st (cU (rZ st).1) (rZ st).2:=.of fun G id=>by
 have h0:=jt [40] hw;have h1:=B3 h0.1;have hm1:=Qy _ h0.1;obtain⟨x0,st1,e1⟩:∃x0 st1,qo (dU st [40])=(x0,st1):=⟨_,_,rfl⟩;obtain⟨M,eM⟩:∃M,fR qo orT 8 st.ts.length st1 [x0]=M:=⟨_,rfl⟩;have epp:(M.1,dU M.2 [41])=rZ st:=by grind [rZ]
 rw[e1]at h1 hm1;simp only[jb]at h1 hm1;refine adJ Tryz.func199 24 [.tmp 2] fun hwf=>?_
 simp only[go_sem];refine(kV st [40] hw).run ?_;simp only[go_sem];refine hm1.run ?_;simp only[go_sem];have hB:upd G id none id=none:=ah ..;refine .intro (fun m ρ H=>∃(f:Nat) (st' :PS) (l:List _) (y:AV),H id=some (PO st')∧Acc U 266 (upd G id none) H y (l.map jb)∧Ah st1 st'∧fR qo orT 8 f st' l=M∧st1.ts.length≤f+st'.pos∧l.length≤st'.pos+1∧m=st1.ts.length - st'.pos∧lk ρ 0=some (.ptr id 0)∧lk ρ 3=some y) (st1.ts.length - st1.pos) ?_ ?_
 ·refine⟨st.ts.length,st1,[x0],.sl ([x0].map jb) .full,ah ..,.full (base_start G id _),.refl h1.1,eM,by rw[h1.2.1,h0.2.1];omega,adR,rfl,?_,?_⟩<;>simp only[go_sem]<;>rfl
 ·rintro m ρ H ⟨f,st',l,y,hH,hy,ha,hfin,hf,hll,rfl,r0,r3⟩
  have hlen:=ha.1.2.2;have hpos:=ha.1.1;have htl:=ha.2.1;simp only[go_sem,r0];refine(j9 st' orT ha.1).go hH ?_;cases d1:isD st' orT
  ·have et:cm st' orT=(false,st'):=by grind [cm]
   have ef:fR qo orT 8 f st' l=(l,st'):=ahb;rw[et,bG hH];rw[ef]at hfin;simp only[go_sem,r0];refine(kV st' [41] ha.1).go hH ?_;simp only[go_sem,r3];exact .mk (h' :=upd G id (some (PO (rZ st).2))) (cU l) hy.weak (by rw[←epp,←hfin];exact fu (hy.1.put hB _) (ah ..)) ⟨adL,rfl⟩
  ·have et:cm st' orT=(true,bl st'):=by grind [cm]
   obtain⟨g,rfl⟩:∃g,f=g+1:=⟨f - 1,adL⟩;simp only[fR,d1,if_true]at hfin;have h2:=eY ha.1 (dH d1);have hone:=Qy (bl st') h2.1;have h3:=(fun _ h=>B3 h:∀st,WfP st→Ah st (qo st).2) _ h2.1
   obtain⟨x,st2,e2⟩:∃x st2,qo (bl st')=(x,st2):=⟨_,_,rfl⟩;rw[e2]at hfin hone h3;simp only[jb]at hfin hone h3;have hdec:decide ((8:Int)<((l.length+1:Nat):Int))=decide (8<l.length+1):=by
    grind
   have h4:=lp (decide (8<l.length+1)) h3.1;have hnp:(bl st').pos=st'.pos+1:=rfl;have hp3:=h3.2.2;have hp4:=h4.2.2;rw[et];simp only[go_sem,r0,r3];refine hone.run ?_;simp only[go_sem];refine(hy.put hB hH _).app (zs:=[jb x]) (by grind [Tf]) (by grind [Wi]) (fun k hk=>hk) (by grind [Tf,IE]) (by rw[Tf];exact IE [x]) (by grind [Wi]) fun y' H2 hy' hk2=>?_
   exact ahY
theorem Q9(st:PS)(hw:WfP st):PC 153 [] st (aV (gV st).1) (gV st).2:=.of fun G id=>by
 refine adJ Tryz.func153 23 [.tmp 2] fun hwf=>?_
 simp only[go_sem];refine(j9 st Fh hw).run ?_;cases d0:isD st Fh
 ·have et:cm st Fh=(false,st):=by grind [cm]
  have ep:gV st=([],st):=by grind [gV]
  rw[et];simp only[go_sem];exact .mk (h' :=upd G id (some (PO (gV st).2))) (aV []) (.sl _ _) (by rw[ep];exact .refl _) ⟨by rw[ep],rfl⟩
 have et:cm st Fh=(true,bl st):=by grind [cm]
 have h0:=eY hw (dH d0);have h1:=B4 h0.1;have hm1:=Qz _ h0.1;obtain⟨x0,st1,e1⟩:∃x0 st1,rZ (bl st)=(x0,st1):=⟨_,_,rfl⟩;obtain⟨M,eM⟩:∃M,fR rZ C5 8 st.ts.length st1 [x0]=M:=⟨_,rfl⟩;have ep:M=gV st:=by simp_all [gV,if_true]
 rw[e1]at h1 hm1;simp only[cU]at h1 hm1;rw[et];simp only[go_sem];refine hm1.run ?_;simp only[go_sem];have hB:upd G id none id=none:=ah ..;refine .intro (fun m ρ H=>∃(f:Nat) (st' :PS) (l:List _) (y:AV),H id=some (PO st')∧Acc U 262 (upd G id none) H y (l.map cU)∧Ah st1 st'∧fR rZ C5 8 f st' l=M∧st1.ts.length≤f+st'.pos∧l.length≤st'.pos+1∧m=st1.ts.length - st'.pos∧lk ρ 0=some (.ptr id 0)∧lk ρ 3=some y) (st1.ts.length - st1.pos) ?_ ?_
 ·refine⟨st.ts.length,st1,[x0],.sl ([x0].map cU) .full,ah ..,.full (base_start G id _),.refl h1.1,eM,by rw[h1.2.1,h0.2.1];omega,adR,rfl,?_,?_⟩<;>simp only[go_sem]<;>rfl
 ·rintro m ρ H ⟨f,st',l,y,hH,hy,ha,hfin,hf,hll,rfl,r0,r3⟩
  have hlen:=ha.1.2.2;have hpos:=ha.1.1;have htl:=ha.2.1;simp only[go_sem,r0];refine(j9 st' C5 ha.1).go hH ?_;cases d1:isD st' C5
  ·have et:cm st' C5=(false,st'):=by grind [cm]
   have ef:fR rZ C5 8 f st' l=(l,st'):=ahb;rw[et,bG hH];rw[ef]at hfin;simp only[go_sem,r3];exact .mk (h' :=upd G id (some (PO (gV st).2))) (aV l) hy.weak (by rw[←ep,←hfin];exact fu hy.1 hH) ⟨adL,rfl⟩
  ·have et:cm st' C5=(true,bl st'):=by grind [cm]
   obtain⟨g,rfl⟩:∃g,f=g+1:=⟨f - 1,adL⟩;simp only[fR,d1,if_true]at hfin;have h2:=eY ha.1 (dH d1);have hone:=Qz (bl st') h2.1;have h3:=(fun _ h=>B4 h:∀st,WfP st→Ah st (rZ st).2) _ h2.1
   obtain⟨x,st2,e2⟩:∃x st2,rZ (bl st')=(x,st2):=⟨_,_,rfl⟩;rw[e2]at hfin hone h3;simp only[cU]at hfin hone h3;have hdec:decide ((8:Int)<((l.length+1:Nat):Int))=decide (8<l.length+1):=by
    grind
   have h4:=lp (decide (8<l.length+1)) h3.1;have hnp:(bl st').pos=st'.pos+1:=rfl;have hp3:=h3.2.2;have hp4:=h4.2.2;rw[et];simp only[go_sem,r0,r3];refine hone.run ?_;simp only[go_sem];refine(hy.put hB hH _).app (zs:=[cU x]) (by grind [Th]) (by grind [Wm]) (fun k hk=>hk) (by grind [Th,II]) (by rw[Th];exact II [x]) (by grind [Wm]) fun y' H2 hy' hk2=>?_
   exact ahY
theorem Eo(op:Int)(h:Heap):ai Tryz.prog 311 [.i op] h fun r h' =>r= .sl ((opers op).map jU) .no∧h' =h:=by
 refine adJ Tryz.func311 15 [.tmp 2] fun hwf=>?_
 cases k3:(op==3)<;>cases k4:(op==4)<;>cases k5:(op==5)<;>cases k11:(op==11)
 all_goals
  simp only[go_sem,k3,k4,k5,k11];simp only[beq_iff_eq,beq_eq_false_iff_ne]at k3 k4 k5 k11;refine .mk _ (.sl _ _) (.refl _) ⟨?_,rfl⟩
  grind [opers,jU]
theorem Wn:(U 131).sz=3:=adV
theorem YH:(U 131).bytes=32:=adV
theorem IG(l:List cC):Sized 3 (l.map bu):=fun z hz=>by
 obtain⟨c,_,rfl⟩:=List.mem_map.1 hz;rfl
theorem tJ(st:PS)(hw:WfP st):PC 157 [] st (aA (gv st).1) (gv st).2:=.of fun G id=>by
 obtain⟨M,eM⟩:∃M,gv st=M:=⟨_,rfl⟩;have eM2:fR Aq wR 8 st.ts.length st []=M:=eM;refine adJ Tryz.func157 28 [.tmp 2] fun hwf=>?_
 simp only[go_sem];have hB:upd G id none id=none:=ah ..;refine .intro (fun m ρ H=>∃(f:Nat) (st' :PS) (l:List cC) (y:AV),H id=some (PO st')∧Acc U 131 (upd G id none) H y (l.map bu)∧Ah st st'∧fR Aq wR 8 f st' l=M∧st.ts.length≤f+st'.pos∧l.length≤st'.pos+1∧m=st.ts.length - st'.pos∧lk ρ 0=some (.ptr id 0)∧lk ρ 3=some y) (st.ts.length - st.pos) ?_ ?_
 ·refine⟨st.ts.length,st,[],.sl ([].map bu) .full,ah ..,.full (base_start G id _),.refl hw,eM2,adK,adR,rfl,?_,?_⟩<;>simp only[go_sem]<;>rfl
 ·rintro m ρ H ⟨f,st',l,y,hH,hy,ha,hfin,hf,hll,rfl,r0,r3⟩
  have hlen:=ha.1.2.2;have hpos:=ha.1.1;have htl:=ha.2.1;simp only[go_sem,r0];refine(j9 st' wR ha.1).go hH ?_;cases d1:isD st' wR
  ·have et:cm st' wR=(false,st'):=by grind [cm]
   have ef:fR Aq wR 8 f st' l=(l,st'):=ahb;rw[et,bG hH];rw[ef]at hfin;simp only[go_sem,r3];exact .mk (h' :=upd G id (some (PO (gv st).2))) (aA l) hy.weak (by rw[eM,←hfin];exact fu hy.1 hH) ⟨adL,rfl⟩
  ·have et:cm st' wR=(true,bl st'):=by grind [cm]
   obtain⟨g,rfl⟩:∃g,f=g+1:=⟨f - 1,adL⟩;simp only[fR,d1,if_true]at hfin;have h2:=eY ha.1 (dH d1);have ho1:=gE vA h2.1;have ho2:=gE mR ho1.1;have ho3:=nK ho2.1;have h3:Ah (bl st') (Aq (bl st')).2:=Li h2.1;have hdec:decide ((8:Int)<((l.length+1:Nat):Int))=decide (8<l.length+1):=by
    grind
   have h4:=lp (decide (8<l.length+1)) h3.1;have hnp:(bl st').pos=st'.pos+1:=rfl;have hp3:=h3.2.2;have hp4:=h4.2.2;have eX:(Aq (bl st'))=(⟨(aW (bl st') vA).1,(aW (aW (bl st') vA).2 mR).1,(ck (aW (aW (bl st') vA).2 mR).2).1⟩,(ck (aW (aW (bl st') vA).2 mR).2).2):=rfl;obtain⟨x,st2,e2⟩:∃x st2,Aq (bl st')=(x,st2):=⟨_,_,rfl⟩;rw[et];simp only[go_sem];intro i4 hi4;have n4:=aH hi4;have hH4:H i4=none:=ael;have c4:∀(f:Heap) (x y:Option Blk),upd (upd f id x) i4 y=upd (upd f i4 y) id x:=fun f x y=>cu f x y n4.symm
   simp only[go_sem,r0,c4];refine(oJ _ vA .full adO h2.1).run ?_;simp only[go_sem,r0,c4,ak,n4];refine(oJ _ mR .full adO ho1.1).run ?_;simp only[go_sem,r0,c4,ak,n4];refine(ur _ ho2.1).run ?_;simp only[go_sem,r3,c4,ak,n4];rw[e2]at hfin h3 h4 hp3 hp4;simp only at hfin h3 h4 hp3 hp4;have ex1:x=(Aq (bl st')).1:=by rw[e2]
   have ex2:st2=(ck (aW (aW (bl st') vA).2 mR).2).2:=by
    grind
   rw[←ex2];refine((hy.sub (Sub.aj (k:=_) hH4)).put hB (by rw[ag _ _ n4.symm];exact hH) _).app (zs:=[bu x]) adO adO (fun k hk=>by rw[ex1]at hk;exact hk) (by grind [Wn,IG]) (by rw[Wn];exact IG [x]) (by grind [YH]) fun y' H2 hy' hk2=>?_
   exact ahY
theorem tv{U:TypeId→TI}{e:TypeId}{B B' H:Heap}{y:AV}{xs:List AV}(hs:Sub B B')(ha:Acc U e B' H y xs):Acc U e B H y xs:=by
 obtain⟨h1,rfl|⟨k,i1,rfl,i2⟩⟩:=ha
 ·exact⟨hs.trans h1,.inl rfl⟩
 ·refine⟨hs.trans h1,.inr ⟨k,?_,rfl,i2⟩⟩
  cases hk:B k with
  |none=>rfl
  |some b=>rw[hs _ _ hk]at i1;omega
theorem xU{U:TypeId→TI}{e:TypeId}{B H:Heap}{y:AV}{xs:List AV}(ha:Acc U e B H y xs){i:Nat}(hi:H i=none)(b:Option Blk):Acc U e (upd B i b) (upd H i b) y xs:=by
 obtain⟨h1,rfl|⟨k,i1,rfl,i2⟩⟩:=ha
 ·exact⟨h1.both _ _,.inl rfl⟩
 ·have hne:k≠i:=fun hh=>by subst hh;rw[hi]at i2;cases i2
  exact⟨h1.both _ _,.inr ⟨k,ael,rfl,ael⟩⟩
theorem oH{U:TypeId→TI}{e:TypeId}{G K:Heap}{id:Nat}{st:PS}{y:AV}{xs:List AV}(ha:Acc U e (upd G id none) (upd K id (some (PO st))) y xs)(st' :PS):Acc U e (upd G id none) (upd K id (some (PO st'))) y xs:=by
 have:=ha.put (id:=id) (ah ..) (cs:=_) (t:=_) (ah ..) (some (PO st'));rw[cI]at this;exact aer
def XC(f:FuncId)(args:List AV)(st:PS)(l:List aQ)(mk:AV→AV)(st' :PS)(l' :List aQ):Prop:=
 ∀(G K:Heap) (id:Nat) (y:AV),Acc U 215 (upd G id none) (upd K id (some (PO st))) y (l.map dI)→ai Tryz.prog f (.ptr id 0::y::args) (upd K id (some (PO st))) fun r h' =>∃y',r=mk y'∧h' id=some (PO st')∧Acc U 215 (upd G id none) h' y' (l'.map dI)
theorem XC.run{f:FuncId}{args:List AV}{st st' :PS}{l l' :List aQ}{mk:AV→AV}(hc:XC f args st l mk st' l'){G K:Heap}{id:Nat}{y:AV}{Q:AV→Heap→Prop}(ha:Acc U 215 (upd G id none) (upd K id (some (PO st))) y (l.map dI))
  (k:∀y' K',Acc U 215 (upd G id none) (upd K' id (some (PO st'))) y' (l'.map dI)→Q (mk y') (upd K' id (some (PO st')))):ai Tryz.prog f (.ptr id 0::y::args) (upd K id (some (PO st))) Q:=
 (hc G K id y ha).mono fun r h' ⟨y',e1,e2,e3⟩=>by
  subst e1;have:=k y' h' (by grind [bG])
  rwa [bG e2]at this
def EH(ex:ExF)(f:Nat):Prop:=∀st l,WfP st→st.ts.length≤f+st.pos→l.length≤2*st.pos+1→XC 267 [] st l (fun y=> .tup [y,.v (.bool (ex st l).1.2)]) (ex st l).2 (ex st l).1.1
theorem IZ(st:PS)(ws:List Txt):0≤(aW st ws).1∧(aW st ws).1≤ws.length:=by
 unfold aW;cases ei:vl (aK st).s ws with
 |none=>simp
 |some i=>
  have:=Ct ei;simp only;split<;>simp<;>omega
theorem Bs{ex:ExF}(ho:Ft ex){f:Nat}(he:EH ex f)(st:PS)(l:List aQ)(b:Bool)(hw:WfP st)(hf:st.ts.length≤f+st.pos)(hl:l.length≤2*st.pos+1):XC 236 [.b b] st l (fun y=>y) (iG ex st l b).2 (iG ex st l b).1:=fun G K id y ha=>by
 refine adJ Tryz.func236 25 [.tmp 6] fun hwf=>?_
 simp only[go_sem];refine(mA st hw).run ?_;simp only[go_sem,fD];refine(he st l hw hf hl).run ha fun y' K' ha' =>?_
 cases db:((ex st l).1.2==b)
 ·have e1:(ex st l).1.2≠b:=by grind
  have en:iG ex st l b=((ex st l).1.1,bI (ex st l).2 5 (aK st).pos):=by grind [iG]
  simp only[go_sem,db,Bool.not_false];refine(rI _ 5 _).run ?_;simp only[go_sem];exact .mk (h' :=upd K' id (some (PO (bI (ex st l).2 5 (aK st).pos)))) y' (.refl _) (.refl _) ⟨y',rfl,ahO,by grind [oH]⟩
 ·have e1:(ex st l).1.2=b:=by grind
  have en:iG ex st l b=((ex st l).1.1,(ex st l).2):=by grind [iG]
  simp only[go_sem,db,Bool.not_true];exact .mk (h' :=upd K' id (some (PO (ex st l).2))) y' (.refl _) (.refl _) ⟨y',rfl,ahO,adL⟩
theorem F7{ex:ExF}(ho:Ft ex){f:Nat}(he:EH ex f)(st:PS)(l:List aQ)(hw:WfP st)(hf:st.ts.length≤f+st.pos)(hl:l.length+1≤2*st.pos):XC 293 [] st l (fun y=> .tup [y,dI (qQ ex st l).1.2]) (qQ ex st l).2 (qQ ex st l).1.1:=fun G K id y ha=>by
 have h1:=gE lY hw;have hrg:=IZ st lY;have hfl:lY.length=11:=rfl;have w2:IntKind.i64.wrap (2+(aW st lY).1)=2+(aW st lY).1:=adY;refine adJ Tryz.func293 36 [.tmp 4,.cell 5 215] fun hwf=>?_
 simp only[go_sem];intro i5 hi5;have n5:=aH hi5;have hK5:K i5=none:=ael;have c5:∀(f:Heap) (x y:Option Blk),upd (upd f id x) i5 y=upd (upd f i5 y) id x:=fun f x y=>cu f x y n5.symm
 simp only[go_sem,c5];refine(oJ _ lY .full adO hw).run ?_;simp only[go_sem,w2];intro i6 hi6;have n6:=aH hi6;have c6:∀(f:Heap) (x y:Option Blk),upd (upd f id x) i6 y=upd (upd f i6 y) id x:=fun f x y=>cu f x y n6.symm
 have hi6' :=hi6;rw[ag _ _ n6]at hi6';have n65:=aH hi6';have hK6:K i6=none:=ael;simp only[go_sem,c6,ak,n6];refine(Eo _ _).pthen ?_;simp only[go_sem];have h5f:=ha;obtain⟨bs,ebs⟩:∃bs,opers (2+(aW st lY).1)=bs:=⟨_,rfl⟩;obtain⟨M,eM⟩:∃M,jC ex bs (aW st lY).2 l=M:=⟨_,rfl⟩;have hb2:bs.length≤2:=by grind [Ep]
 have hMr:qQ ex st l=((M.1,⟨2+(aW st lY).1,⟨0,0,[]⟩,⟨0,[],false⟩⟩),dU M.2 [41]):=by grind [qQ]
 obtain⟨st1,es1⟩:∃st1,(aW st lY).2=st1:=⟨_,rfl⟩;have hac0:=xU (xU (oH ha st1) (by rw[ag _ _ n5];omega) (some (.obj [.i 0,.i 0,.i 0,.s [],.i 0,.s [],.b false] 215))) (by rw[ag _ _ n65,ag _ _ n6];omega) (some (.obj [.i (2+(aW st lY).1),.i 0,.i 0,.s [],.i 0,.s [],.b false] 215))
 simp only[c5,c6]at hac0;obtain⟨G',eG⟩:∃G',G' =upd (upd G i5 (some (.obj [.i 0,.i 0,.i 0,.s [],.i 0,.s [],.b false] 215))) i6 (some (.obj [.i (2+(aW st lY).1),.i 0,.i 0,.s [],.i 0,.s [],.b false] 215)):=⟨_,rfl⟩;have g5:upd G' id none i5=some (.obj [.i 0,.i 0,.i 0,.s [],.i 0,.s [],.b false] 215):=by simp_all [ag,Ne.symm,ah]
 have g6:upd G' id none i6=some (.obj [.i (2+(aW st lY).1),.i 0,.i 0,.s [],.i 0,.s [],.b false] 215):=by simp_all [ag,ah]
 rw[←eG]at hac0;have gi5:upd G id none i5=none:=by
  cases hk:upd G id none i5 with
  |none=>rfl
  |some b=>rw[ha.1 _ _ hk]at hi5;omega
 have hsG:Sub (upd G id none) (upd G' id none):=fun k b hk=>by
  have hs1:=ha.1 k b hk;have hk5:k≠i5:=fun e=>adL
  have hk6:k≠i6:=fun e=>by
   grind [ag]
  by_cases hkid:k=id
  ·subst hkid;rw[ah]at hk;cases hk
  ·rw[ag _ _ hkid]at hk⊢
   rw[eG,ag _ _ hk6,ag _ _ hk5];exact hk
 simp only[es1,ebs]at h1 eM⊢;refine .intro (fun m ρ H=>∃(i:Nat) (st' :PS) (l' :List aQ) (y' :AV) (K' :Heap),H=upd K' id (some (PO st'))∧Acc U 215 (upd G' id none) (upd K' id (some (PO st'))) y' (l'.map dI)∧Ah st1 st'∧i≤bs.length∧jC ex (bs.drop i) st' l' =M∧l'.length+1≤2*st'.pos+i∧m=bs.length - i∧lk ρ 0=some (.ptr id 0)∧lk ρ 1=some y'∧lk ρ 5=some (.ptr i5 0)∧lk ρ 6=some (.ptr i6 0)∧lk ρ 16=some (.sl (bs.map jU) .no)∧lk ρ 17=some (.i bs.length)∧lk ρ 18=some (.i i)) bs.length ?_ ?_
 ·refine⟨0,st1,l,y,_,rfl,hac0,.refl h1.1,adK,adL,by have:=h1.2.2;omega,rfl,?_,?_,?_,?_,?_,?_,?_⟩<;>simp only[go_sem]<;>(try rfl)<;>simp
 ·rintro m ρ H ⟨i,st',l',y',K',rfl,hac,hah,hi,hfin,hll,rfl,r0,r1,r5,r6,r16,r17,r18⟩
  simp only[go_sem,r17,r18];have k6:upd K' id (some (PO st')) i6=some (.obj [.i (2+(aW st lY).1),.i 0,.i 0,.s [],.i 0,.s [],.b false] 215):=hac.1 _ _ g6;have k5:upd K' id (some (PO st')) i5=some (.obj [.i 0,.i 0,.i 0,.s [],.i 0,.s [],.b false] 215):=hac.1 _ _ g5;rw[ag _ _ n6]at k6;rw[ag _ _ n5]at k5;refine .intro (fun e=>?_) (fun e=>?_)
  ·have hlt:i<bs.length:=adH e
   simp only[go_sem,r16,r18];refine .at i adL ad0 ?_;cases db:(st'.bad !=0)
   ·have e1:st'.bad=0:=by grind
    rw[List.drop_eq_getElem_cons hlt]at hfin;simp only[jC,e1,if_true]at hfin;simp only[go_sem,r0,r1,adB,jU,PO,db];have hpl:=hah.2.2;refine(Bs ho he st' l' bs[i] hah.1 (by rw[hah.2.1,h1.2.1];have:=h1.2.2;omega) adK).run hac fun y2 K2 hac2=>?_
    obtain⟨q1,q2⟩:=zi ho st' l' bs[i] hah.1;have w1:IntKind.i64.wrap ((i:Int)+1)=((i+1:Nat):Int):=adY;simp only[go_sem,r18,w1];refine⟨_,?_,i+1,(iG ex st' l' bs[i]).2,(iG ex st' l' bs[i]).1,y2,K2,rfl,hac2,hah.trans q1,hlt,hfin,adK,rfl,?_⟩
    ·omega
    refine⟨?_,?_,?_,?_,?_,?_,?_⟩
    all_goals simp only[go_sem,r0,r5,r6,r16,r17]
   ·have e1:st'.bad≠0:=by grind
    have hfin2:(l',st')=M:=by
     grind [List.drop_eq_getElem_cons,jC]
    clear hfin;have hfin:=hfin2;simp only[go_sem,r0,adB,jU,PO,db];refine(kV _ [41] hah.1).run ?_;simp only[go_sem,r1,r5,r6,ak,n5,n6,k5,k6];refine⟨.of adN,?_⟩;exact .mk (.tup [y',dI ⟨2+(aW st lY).1,⟨0,0,[]⟩,⟨0,[],false⟩⟩]) (.refl _) (.refl _) ⟨y',adV,by rw[hMr,←hfin];exact(ag _ _ (Ne.symm n5)).trans (ah ..),afe⟩
  ·have hge:i=bs.length:=by grind
   subst hge;rw[List.drop_length]at hfin;simp only[jC]at hfin;simp only[go_sem,r0];refine(kV _ [41] hah.1).run ?_;simp only[go_sem,r1,r5,r6,ak,n5,n6,k5,k6];refine⟨.of adN,?_⟩;exact .mk (.tup [y',dI ⟨2+(aW st lY).1,⟨0,0,[]⟩,⟨0,[],false⟩⟩]) (.refl _) (.refl _) ⟨y',adV,by rw[hMr,←hfin];simp_all [ag,Ne.symm,trans,ah],afe⟩
theorem td:(U 215).sz=7:=adV
theorem AI:(U 215).bytes=72:=adV
theorem ld(l:List aQ):Sized 7 (l.map dI):=fun z hz=>by
 obtain⟨c,_,rfl⟩:=List.mem_map.1 hz;rfl
theorem Sh(f:Nat)(ih:EH (eD f) f):EH (eD (f+1)) (f+1):=fun st l hw hf hl G K id y ha=>by
 refine adJ Tryz.func267 52 [.tmp 4,.tmp 5] fun hwf=>?_
 simp only[go_sem];intro i6 hi6;have n6:=aH hi6;have hK6:K i6=none:=by rw[ag _ _ n6]at hi6;exact hi6
 have c6:∀(f:Heap) (x y:Option Blk),upd (upd f id x) i6 y=upd (upd f i6 y) id x:=fun f x y=>cu f x y n6.symm
 have gi6:upd G id none i6=none:=by
  cases hk:upd G id none i6 with
  |none=>rfl
  |some b=>rw[ha.1 _ _ hk]at hi6;cases hi6
 have hac:=xU ha hi6 (some (.obj [.i 0,.i 0,.i 0,.s [],.i 0,.s [],.b false] 215));simp only[go_sem,c6];refine(mA st hw).run ?_;simp only[go_sem,fD];intro i7 hi7;have n7:=aH hi7;have hi7' :=hi7;rw[ag _ _ n7]at hi7';have n76:=aH hi7';have m76:¬i7=i6:=n76;have m67:¬i6=i7:=fun e=>n76 e.symm
 have hK7:K i7=none:=by rw[ag _ _ n76]at hi7';exact hi7'
 have c7:∀(f:Heap) (x y:Option Blk),upd (upd f id x) i7 y=upd (upd f i7 y) id x:=fun f x y=>cu f x y n7.symm
 have e6:upd (upd G id none) i6 (some (.obj [.i 0,.i 0,.i 0,.s [],.i 0,.s [],.b false] 215))=upd (upd G i6 (some (.obj [.i 0,.i 0,.i 0,.s [],.i 0,.s [],.b false] 215))) id none:=c6 G none _;have hac7:∀k,Acc U 215 (upd (upd G i6 (some (.obj [.i 0,.i 0,.i 0,.s [],.i 0,.s [],.b false] 215))) id none) (upd (upd (upd K i6 (some (.obj [.i 0,.i 0,.i 0,.s [],.i 0,.s [],.b false] 215))) i7 k) id (some (PO st))) y (l.map dI):=fun k=>by
  have:=hac.sub (Sub.aj (k:=k) (by rw[c6];exact hi7))
  rw[e6,c6 K,c7]at this;exact aer
 have hsG:Sub (upd G id none) (upd (upd G i6 (some (.obj [.i 0,.i 0,.i 0,.s [],.i 0,.s [],.b false] 215))) id none):=by
  rw[←e6];exact Sub.aj gi6
 have g6:upd (upd G i6 (some (.obj [.i 0,.i 0,.i 0,.s [],.i 0,.s [],.b false] 215))) id none i6=some (.obj [.i 0,.i 0,.i 0,.s [],.i 0,.s [],.b false] 215):=by rw[←e6,ah]
 simp only[go_sem,c7,ak,n7];refine(j9 st [40] hw).run ?_;have hacX:∀tk NB st',Acc U 215 (upd G id none) (upd (upd (upd (upd K i6 (some (.obj [.i 0,.i 0,.i 0,.s [],.i 0,.s [],.b false] 215))) i7 tk) i6 NB) id (some (PO st'))) y (l.map dI):=fun tk NB st' =>by
  have:=(oH (tv hsG (hac7 tk)) st').put gi6 ((ag _ _ n6).trans ((ag _ _ m67).trans (ah ..))) NB;rw[c6]at this;exact aer
 obtain⟨⟨⟨lh,n⟩,sth⟩,eh⟩:∃x,jl (eD f) st l=x:=⟨_,rfl⟩;obtain⟨hha,hhl⟩:=DM (qN f) st l hw;rw[eh]at hha hhl;simp only at hha hhl;have hwp:=hha.1.2.2;have hwq:=hha.1.1;have hpl:=hha.2.2;have hdec:decide ((32:Int)<((lh.length+1:Nat):Int))=decide (32<lh.length+1):=by
  by_cases h:32<lh.length+1
  ·simp only[h,decide_true];exact decide_eq_true adK
  ·simp only[h,decide_false];exact decide_eq_false adK
 cases d0:isD st [40]
 ·have et:cm st [40]=(false,st):=by simp[cm,d0]
  rw[et];cases d1:((aK st).kind==1)
  ·have en:jl (eD f) st l=((l,⟨1,(aD st).1,⟨0,[],false⟩⟩),(aD st).2):=by
    have:(aK st).kind≠1:=agK;simp[jl,d0,this]
   simp only[go_sem,ak,n7,d1];exact ahX
  ·have k1:(aK st).kind=1:=by simpa using d1
   cases d2:((aK st).s== [116,114,117,101])
   ·have k2:(aK st).s≠xj:=by unfold xj;simpa using d2
    cases d3:((aK st).s== [102,97,108,115,101])
    ·have k3:(aK st).s≠qO:=by unfold qO;simpa using d3
     have en:jl (eD f) st l=((l,⟨2,⟨0,0,[]⟩,(ga st).1⟩),(ga st).2):=by simp[jl,d0,k1,k2,k3]
     simp only[go_sem,ak,n7,d1,d2,d3,Bool.not_false];refine(Lr st hw).run ?_;rw[en]at eh;injection eh with eh1 eh2
     injection eh1 with eh3 eh4
     subst eh2;subst eh3;subst eh4;simp only[go_sem,c6,ak,n6,m67,C9];refine(hacX _ _ _).app (zs:=[dI (⟨2,⟨0,0,[]⟩,(ga st).1⟩:aQ)]) ahB ahA (fun k hk=>hk) agU (by rw[td];exact ld [(⟨2,⟨0,0,[]⟩,(ga st).1⟩:aQ)]) agA fun y3 H3 hy3 hk3=>?_
     have hH3:H3 id=some (PO (ga st).2):=hk3 _ _ _ (ah ..);have hb3:H3 i6=some (.obj [.v (.int .i64 (⟨2,⟨0,0,[]⟩,(ga st).1⟩:aQ).op),.v (.int .i64 (⟨2,⟨0,0,[]⟩,(ga st).1⟩:aQ).val.kind),.v (.int .i64 (⟨2,⟨0,0,[]⟩,(ga st).1⟩:aQ).val.n),.s (⟨2,⟨0,0,[]⟩,(ga st).1⟩:aQ).val.s,.v (.int .i64 (⟨2,⟨0,0,[]⟩,(ga st).1⟩:aQ).attr.cat),.s (⟨2,⟨0,0,[]⟩,(ga st).1⟩:aQ).attr.name,.v (.bool (⟨2,⟨0,0,[]⟩,(ga st).1⟩:aQ).attr.must)] 215):=hk3 _ _ _ ((ag _ _ n6).trans (ah ..));simp only[go_sem,hy3.len,adE,adA,List.length_cons,List.length_nil,Nat.zero_add,hdec];refine(cM (ga st).2 _ hha.1).go hH3 ?_;simp only[go_sem,ak,n6,hb3];refine⟨.of adN,?_⟩;have efin:eD (f+1) st l=((l++ [(⟨2,⟨0,0,[]⟩,(ga st).1⟩:aQ)],(⟨2,⟨0,0,[]⟩,(ga st).1⟩:aQ).op==2),bF (ga st).2 (decide (32<l.length+1))):=ahH;exact .mk (.tup [y3,.b ((⟨2,⟨0,0,[]⟩,(ga st).1⟩:aQ).op==2)]) (.refl _) (.refl _) ⟨y3,by rw[efin],agb,aex⟩
    ·have k3:(aK st).s=qO:=by unfold qO;simpa using d3
     have en:jl (eD f) st l=((l,⟨1,(aD st).1,⟨0,[],false⟩⟩),(aD st).2):=by simp[jl,d0,k1,k3]
     simp only[go_sem,ak,n7,d1,d2,d3,Bool.not_false,Bool.not_true];exact ahX
   ·have k2:(aK st).s=xj:=by unfold xj;simpa using d2
    have en:jl (eD f) st l=((l,⟨1,(aD st).1,⟨0,[],false⟩⟩),(aD st).2):=by simp[jl,d0,k1,k2]
    simp only[go_sem,ak,n7,d1,d2,Bool.not_true];exact ahX
 ·have et:cm st [40]=(true,bl st):=by simp[cm,d0]
  have h1:=eY hw (dH d0);have hnp:(bl st).pos=st.pos+1:=rfl;have hnt:(bl st).ts=st.ts:=rfl;rw[et];simp only[go_sem];have ef:qQ (eD f) (bl st) l=((lh,n),sth):=by rw[←eh];simp[jl,d0]
  have hfx:=F7 (qN f) ih (bl st) l h1.1 (by rw[hnt];omega) adK
  simp only[ef]at hfx;refine hfx.run (oH (hac7 _) _) fun y2 K2 hac2=>?_
  have k6:=hac2.1 _ _ g6;rw[ag _ _ n6]at k6;simp only[go_sem,c6,ak,n6,k6,dI];have hac3:=(tv hsG hac2).put gi6 ((ag _ _ n6).trans k6) (some (.obj [.i n.op,.i n.val.kind,.i n.val.n,.s n.val.s,.i n.attr.cat,.s n.attr.name,.b n.attr.must] 215));rw[c6]at hac3;refine(hac3).app (zs:=[dI n]) ahB ahA (fun k hk=>hk) agU (by rw[td];exact ld [n]) agA fun y3 H3 hy3 hk3=>?_
  have hH3:H3 id=some (PO sth):=hk3 _ _ _ (ah ..);have hb3:H3 i6=some (.obj [.i n.op,.i n.val.kind,.i n.val.n,.s n.val.s,.i n.attr.cat,.s n.attr.name,.b n.attr.must] 215):=hk3 _ _ _ ((ag _ _ n6).trans (ah ..));simp only[go_sem,hy3.len,adE,adA,List.length_cons,List.length_nil,Nat.zero_add,hdec];refine(cM sth _ hha.1).go hH3 ?_;simp only[go_sem,ak,n6,hb3];refine⟨.of adN,?_⟩;have efin:eD (f+1) st l=((lh++ [n],n.op==2),bF sth (decide (32<lh.length+1))):=by simp only[eD,eh]
  exact .mk (.tup [y3,.b (n.op==2)]) (.refl _) (.refl _) ⟨y3,by rw[efin],agb,aex⟩
theorem L0:∀f,EH (eD f) f
 |0=>fun st l hw hf _=>absurd hw.1 adK
 |f+1=>Sh f (L0 f)
theorem F3{P:Program}{f:FuncId}{args:List AV}{h:Heap}{Q Q' :AV→Heap→Prop}(hf:ai P f args h Q)(hq:∀x h1,Q x h1→∃y h2,Weak x y∧Sub h2 h1∧Q' y h2):ai P f args h Q' :=
 fun c vs h1 h2 h3 h4=>(hf c vs h1 h2 h3 h4).mono fun u w' ⟨c',x,h',g1,g2,g3,g4,g5,g6⟩=>by
  obtain⟨y,h'',k1,k2,k3⟩:=hq x h' g6;exact⟨c',y,h'',g1,g2,g3,g4.weak k1,k2.trans g5,k3⟩
def flat:AV→AV
 |.sl xs _=> .sl xs .no
 |x=>x
theorem gr(xs:List AV):Weak (.agg xs) (.agg (xs.map flat)):=.agg _ _ adR fun i h1 h2=>by
 rw[adB];cases xs[i]<;>first|exact .refl _|exact .sl _ _
theorem Kh(st:PS)(hw:WfP st):PC 236 [.sl [] .full,.b false] st (fy (iG (eD st.ts.length) st [] false).1) (iG (eD st.ts.length) st [] false).2:=.of fun G id=>by
 have hx:=Bs (qN st.ts.length) (L0 st.ts.length) st [] false hw adK adR;refine F3 (hx G G id (.sl [] .full) (.full (base_start G id _))) fun r h1 ⟨y',e1,e2,e3⟩=>⟨_,upd G id (some (PO (iG (eD st.ts.length) st [] false).2)),?_,fu e3.1 e2,rfl,rfl⟩
 subst e1;exact e3.weak
theorem Nk(deny:Bool)(st:PS)(hw:WfP st):PC 202 [.b deny] st (aC (qk deny st).1) (qk deny st).2:=.of fun G id=>by
 have h1:=nK hw;have h2:=B9 h1.1;have h3:=Hu h2.1;have h4:=B7 h3.1;have ht:=Q9 _ h1.1;simp only[aV]at ht;refine adJ Tryz.func202 23 [.cell 4 210] fun hwf=>?_
 simp only[go_sem];intro i4 hi4;have n4:=aH hi4;have hG4:G i4=none:=ael;have c4:∀(f:Heap) (x y:Option Blk),upd (upd f id x) i4 y=upd (upd f i4 y) id x:=fun f x y=>cu f x y n4.symm
 simp only[go_sem,c4];refine(ur st hw).run ?_;simp only[go_sem];refine ht.run ?_;simp only[go_sem];intro i5 hi5;have n5:=aH hi5;have hi5' :=hi5;rw[ag _ _ n5]at hi5';have n54:=aH hi5';have m54:¬i5=i4:=n54;have m45:¬i4=i5:=n54.symm;have hG5:G i5=none:=ael;have c5:∀(f:Heap) (x y:Option Blk),upd (upd f id x) i5 y=upd (upd f i5 y) id x:=fun f x y=>cu f x y n5.symm
 have c45:∀(f:Heap) (x y:Option Blk),upd (upd f i5 x) i4 y=upd (upd f i4 y) i5 x:=fun f x y=>cu f x y n54
 simp only[go_sem,c5,ak,n5];refine(j9 _ ifT h2.1).run ?_;cases d0:isD (gV (ck st).2).2 ifT
 ·have et:cm (gV (ck st).2).2 ifT=(false,(gV (ck st).2).2):=by grind [cm]
  have ec:qK (gV (ck st).2).2=([],(gV (ck st).2).2):=by grind [qK]
  have er:qk deny st=(⟨(ck st).1,deny,(gV (ck st).2).1,[],(gv (gV (ck st).2).2).1⟩,dU (gv (gV (ck st).2).2).2 [59]):=by grind [qk]
  rw[ec]at h4;have ho:=tJ _ h2.1;simp only[aA]at ho;rw[et];simp only[go_sem];refine ho.run ?_;simp only[go_sem,c5,ak,n5];refine(kV _ [59] h4.1).run ?_;simp only[go_sem,c4,c45,ak,n4,n5,m45];exact .mk (h' :=upd G id (some (PO (dU (gv (gV (ck st).2).2).2 [59])))) (aC ⟨(ck st).1,deny,(gV (ck st).2).1,[],(gv (gV (ck st).2).2).1⟩) (gr _) (Sub.both aed _ _) ⟨by rw[er],by rw[er]⟩
 ·have et:cm (gV (ck st).2).2 ifT=(true,bl (gV (ck st).2).2):=by grind [cm]
  obtain⟨⟨cn,stc⟩,ec⟩:∃x,qK (gV (ck st).2).2=x:=⟨_,rfl⟩;have er:qk deny st=(⟨(ck st).1,deny,(gV (ck st).2).1,cn,(gv stc).1⟩,dU (gv stc).2 [59]):=by grind [qk]
  have hcnd:=Kh (bl (gV (ck st).2).2) (eY h2.1 (dH d0)).1;have ec2:iG (eD (bl (gV (ck st).2).2).ts.length) (bl (gV (ck st).2).2) [] false=(cn,stc):=by rw[←ec];simp only[qK,d0,if_true];rfl
  rw[ec2]at hcnd;simp only[fy]at hcnd;rw[ec]at h3 h4;have ho:=tJ _ h3.1;simp only[aA]at ho;rw[et];simp only[go_sem];refine hcnd.run ?_;simp only[go_sem,c5,ak,n5];refine ho.run ?_;simp only[go_sem,c5,ak,n5];refine(kV _ [59] h4.1).run ?_;simp only[go_sem,c4,c45,ak,n4,n5,m45];exact .mk (h' :=upd G id (some (PO (dU (gv stc).2 [59])))) (aC ⟨(ck st).1,deny,(gV (ck st).2).1,cn,(gv stc).1⟩) (gr _) (Sub.both aed _ _) ⟨by rw[er],by rw[er]⟩
theorem Qh:(U 210).sz=5:=adV
theorem Wl:(U 210).bytes=96:=adV
theorem xL(l:List cR):Sized 5 (l.map aC):=fun z hz=>by
 obtain⟨c,_,rfl⟩:=List.mem_map.1 hz;rfl
theorem S0(st:PS)(hw:WfP st)(hr:st.rules≤64):PC 156 [] st (.sl ((j6 17 st []).1.map aC) .no) (j6 17 st []).2:=.of fun G id=>by
 obtain⟨M,eM⟩:∃M,j6 17 st []=M:=⟨_,rfl⟩;rw[eM];refine adJ Tryz.func156 51 [.tmp 2] fun hwf=>?_
 simp only[go_sem];have hB:upd G id none id=none:=ah ..;refine .intro (fun m ρ H=>∃(f:Nat) (st' :PS) (l:List cR) (y:AV),H id=some (PO st')∧Acc U 210 (upd G id none) H y (l.map aC)∧Ah st st'∧st'.rules≤64∧j6 f st' l=M∧f+l.length=17∧l.length≤16∧m=f∧lk ρ 0=some (.ptr id 0)∧lk ρ 3=some y) 17 ?_ ?_
 ·refine⟨17,st,[],.sl ([].map aC) .full,ah ..,.full (base_start G id _),.refl hw,hr,eM,adR,adR,rfl,?_,?_⟩<;>simp only[go_sem]<;>rfl
 ·rintro m ρ H ⟨f,st',l,y,hH,hy,ha,hru,hfin,hf,hll,rfl,r0,r3⟩
  have hlen:=ha.1.2.2;have hpos:=ha.1.1;obtain⟨g,rfl⟩:∃g,m=g+1:=⟨m - 1,adK⟩;simp only[go_sem,r0];refine(tX st' pS ha.1).go hH ?_;rw[bG hH];have fin:isD st' pS=false→isD st' jj=false→(l,st')=M:=fun d1 d2=>by
   grind [j6]
  have rest:isD st' pS=true∨isD st' jj=true→True:=fun _=>trivial
  cases d1:isD st' pS
  ·simp only[go_sem,r0]
   refine(tX st' jj ha.1).go hH ?_;rw[bG hH];cases d2:isD st' jj
   ·simp only[go_sem,r3]
    have e:=fin d1 d2;exact .mk (h' :=upd G id (some (PO M.2))) (.sl (M.1.map aC) .no) aeO (by rw[←e];exact fu hy.1 hH) ⟨rfl,rfl⟩
   ·exact ahW
  ·exact ahW
theorem Qg:(U 61).sz=7:=adV
theorem Wj:(U 61).bytes=128:=adV
theorem xK(l:List bJ):Sized 7 (l.map aM):=fun z hz=>by
 obtain⟨c,_,rfl⟩:=List.mem_map.1 hz;cases c;rfl
theorem St(pol:PoF)(d:Nat)(hd5:d≤5)(hp:∀st,WfP st→st.rules≤64→d≤4→PC 95 [.i d] st (aM (pol st).1) (pol st).2)(hpa:∀st,WfP st→Ah st (pol st).2)(hpr:∀st,oo st (pol st).2)
  (st:PS) (hw:WfP st) (hr:st.rules≤64):PC 155 [.i d] st (.sl ((jY pol (decide ((4:Int)<(d:Int))) 17 st []).1.map aM) .no) (jY pol (decide ((4:Int)<(d:Int))) 17 st []).2:=.of fun G id=>by
 obtain⟨M,eM⟩:∃M,jY pol (decide ((4:Int)<(d:Int))) 17 st []=M:=⟨_,rfl⟩;rw[eM];refine adJ Tryz.func155 33 [.tmp 4] fun hwf=>?_
 simp only[go_sem];have hB:upd G id none id=none:=ah ..;refine .intro (fun m ρ H=>∃(f:Nat) (st' :PS) (l:List bJ) (y:AV),H id=some (PO st')∧Acc U 61 (upd G id none) H y (l.map aM)∧Ah st st'∧st'.rules≤64∧jY pol (decide ((4:Int)<(d:Int))) f st' l=M∧f+l.length=17∧l.length≤16∧m=f∧lk ρ 0=some (.ptr id 0)∧lk ρ 1=some (.i d)∧lk ρ 5=some y) 17 ?_ ?_
 ·refine⟨17,st,[],.sl ([].map aM) .full,ah ..,.full (base_start G id _),.refl hw,hr,eM,adR,adR,rfl,?_,?_,?_⟩<;>simp only[go_sem]<;>rfl
 ·rintro m ρ H ⟨f,st',l,y,hH,hy,ha,hru,hfin,hf,hll,rfl,r0,r1,r5⟩
  have hlen:=ha.1.2.2;have hpos:=ha.1.1;obtain⟨g,rfl⟩:∃g,m=g+1:=⟨m - 1,adK⟩;simp only[go_sem,r0];refine(tX st' pT ha.1).go hH ?_;rw[bG hH];have fin:isD st' pT=false→isD st' GO=false→(l,st')=M:=fun d1 d2=>by
   grind [jY]
  cases d1:isD st' pT
  ·simp only[go_sem,r0]
   refine(tX st' GO ha.1).go hH ?_;rw[bG hH];cases d2:isD st' GO
   ·simp only[go_sem,r5]
    have e:=fin d1 d2;exact .mk (h' :=upd G id (some (PO M.2))) (.sl (M.1.map aM) .no) aeO (by rw[←e];exact fu hy.1 hH) ⟨rfl,rfl⟩
   ·have hd:isD st' pT=true∨isD st' GO=true:=by grind
    have eb:=(nc hd).1;have ek:=(nc hd).2;have db:(st'.bad !=0)=false:=adL;have gP:=hH;unfold PO at gP;have lim:l.length=16∨decide ((4:Int)<(d:Int))=true→(l,bF st' true)=M:=fun h=>by
     rw[←hfin];simp only[jY,if_pos hd,if_pos h]
    have hdl:bF st' true=bI st' 6 (aK st').pos:=rfl;have hlb:((bF st' true).bad !=0)=true:=by grind [bI]
    cases dA:((l.length:Int)==16)
    ·cases dB:decide ((4:Int)<(d:Int))
     ·have nA:l.length≠16:=fun e=>by grind
      have hno:¬(l.length=16∨decide ((4:Int)<(d:Int))=true):=fun h=>h.elim nA (fun e=>adL)
      simp only[jY,if_pos hd,if_neg hno]at hfin;rw[dB]at hfin;have hd4:d≤4:=adL;simp only[go_sem,r0,r1,r5,hy.len,adA,dA,dB];refine(cM st' false ha.1).go hH ?_;rw[show bF st' false=st' from rfl,bG hH]
      have h3:=hpa st' ha.1;have hrp:=hp st' ha.1 hru hd4;have hr3:=vH (hpr st') hru;obtain⟨x,st2,e2⟩:∃x st2,pol st' =(x,st2):=⟨_,_,rfl⟩;rw[e2]at hfin hrp h3 hr3;obtain⟨pid,pset,palg,ptgt,prules,pkids,pobls⟩:=x;simp only[aM]at hrp hfin h3 hr3;simp only[go_sem,r0,r1,r5,gP,db];refine hrp.go hH ?_;simp only[go_sem];refine(hy.put hB hH _).app (zs:=[aM ⟨pid,pset,palg,ptgt,prules,pkids,pobls⟩]) adO adO (fun k hk=>hk) (by grind [Qg,xK]) af3 (by grind [Wj]) fun y' H2 hy' hk2=>?_
      have hH2:H2 id=some (PO st2):=hk2 _ _ _ (ah ..);simp only[go_sem];refine⟨_,?_,g,st2,l++ [⟨pid,pset,palg,ptgt,prules,pkids,pobls⟩],y',hH2,adL,ha.trans h3,hr3,hfin,adL,adL,rfl,?_,?_,?_⟩
      ·omega
      all_goals simp only[go_sem,r0,r1]
     ·have e:=lim (.inr dB)
      simp only[go_sem,r0,r1,r5,hy.len,adA,dA,dB];refine(cM st' true ha.1).go hH ?_;have g3:upd H id (some (PO (bF st' true))) id=some (PO (bF st' true)):=ah ..;unfold PO at g3;simp only[go_sem,r0,r5,g3,hlb,PO];exact .mk (h' :=upd G id (some (PO M.2))) (.sl (M.1.map aM) .no) aeO aej ⟨rfl,rfl⟩
    ·have nA:l.length=16:=by grind
     have e:=lim (.inl nA);simp only[go_sem,r0,r5,hy.len,adA,dA];refine(cM st' true ha.1).go hH ?_;have g3:upd H id (some (PO (bF st' true))) id=some (PO (bF st' true)):=ah ..;unfold PO at g3;simp only[go_sem,r0,r5,g3,hlb,PO];exact .mk (h' :=upd G id (some (PO M.2))) (.sl (M.1.map aM) .no) aeO aej ⟨rfl,rfl⟩
  ·have hd:isD st' pT=true∨isD st' GO=true:=by grind
   have eb:=(nc hd).1;have ek:=(nc hd).2;have db:(st'.bad !=0)=false:=adL;have gP:=hH;unfold PO at gP;have lim:l.length=16∨decide ((4:Int)<(d:Int))=true→(l,bF st' true)=M:=fun h=>by
    rw[←hfin];simp only[jY,if_pos hd,if_pos h]
   have hdl:bF st' true=bI st' 6 (aK st').pos:=rfl;have hlb:((bF st' true).bad !=0)=true:=by grind [bI]
   cases dA:((l.length:Int)==16)
   ·cases dB:decide ((4:Int)<(d:Int))
    ·have nA:l.length≠16:=fun e=>by grind
     have hno:¬(l.length=16∨decide ((4:Int)<(d:Int))=true):=fun h=>h.elim nA (fun e=>adL)
     simp only[jY,if_pos hd,if_neg hno]at hfin;rw[dB]at hfin;have hd4:d≤4:=adL;simp only[go_sem,r0,r1,r5,hy.len,adA,dA,dB];refine(cM st' false ha.1).go hH ?_;rw[show bF st' false=st' from rfl,bG hH]
     have h3:=hpa st' ha.1;have hrp:=hp st' ha.1 hru hd4;have hr3:=vH (hpr st') hru;obtain⟨x,st2,e2⟩:∃x st2,pol st' =(x,st2):=⟨_,_,rfl⟩;rw[e2]at hfin hrp h3 hr3;obtain⟨pid,pset,palg,ptgt,prules,pkids,pobls⟩:=x;simp only[aM]at hrp hfin h3 hr3;simp only[go_sem,r0,r1,r5,gP,db];refine hrp.go hH ?_;simp only[go_sem];refine(hy.put hB hH _).app (zs:=[aM ⟨pid,pset,palg,ptgt,prules,pkids,pobls⟩]) adO adO (fun k hk=>hk) (by grind [Qg,xK]) af3 (by grind [Wj]) fun y' H2 hy' hk2=>?_
     have hH2:H2 id=some (PO st2):=hk2 _ _ _ (ah ..);simp only[go_sem];refine⟨_,?_,g,st2,l++ [⟨pid,pset,palg,ptgt,prules,pkids,pobls⟩],y',hH2,adL,ha.trans h3,hr3,hfin,adL,adL,rfl,?_,?_,?_⟩
     ·omega
     all_goals simp only[go_sem,r0,r1]
    ·have e:=lim (.inr dB)
     simp only[go_sem,r0,r1,r5,hy.len,adA,dA,dB];refine(cM st' true ha.1).go hH ?_;have g3:upd H id (some (PO (bF st' true))) id=some (PO (bF st' true)):=ah ..;unfold PO at g3;simp only[go_sem,r0,r5,g3,hlb,PO];exact .mk (h' :=upd G id (some (PO M.2))) (.sl (M.1.map aM) .no) aeO aej ⟨rfl,rfl⟩
   ·have nA:l.length=16:=by grind
    have e:=lim (.inl nA);simp only[go_sem,r0,r5,hy.len,adA,dA];refine(cM st' true ha.1).go hH ?_;have g3:upd H id (some (PO (bF st' true))) id=some (PO (bF st' true)):=ah ..;unfold PO at g3;simp only[go_sem,r0,r5,g3,hlb,PO];exact .mk (h' :=upd G id (some (PO M.2))) (.sl (M.1.map aM) .no) aeO aej ⟨rfl,rfl⟩
theorem EA(r:Nat)(d:Nat)(hrd:r+d=4)(hp:∀st,WfP st→st.rules≤64→d+1≤4→PC 95 [.i (d+1:Nat)] st (aM (gH r st).1) (gH r st).2)(st:PS)(hw:WfP st)(hr:st.rules≤64):
  PC 95 [.i d] st (aM (gH (r+1) st).1) (gH (r+1) st).2:=.of fun G id=>by
 have h1:=gE nh hw;have h2:=nK h1.1;have h3:=gE xZ h2.1;have h4:=B9 h3.1;have h5:Ah _ (cV st).2:=jt [123] h4.1;have ht:=Q9 _ h3.1;simp only[aV]at ht;have hrh:=vH (EJ st).big hr;have hset:(cV st).1.1=((aW st nh).1==2):=rfl;have w1:IntKind.i64.wrap ((d:Int)+1)=((d+1:Nat):Int):=adY;have hdp:(r==0)=decide ((4:Int)<((d+1:Nat):Int)):=by
  grind
 have hk:=St (gH r) (d+1) adK hp (fun _ h=>xW r _ h) (CK r) _ h5.1 hrh
 have hs:=S0 _ h5.1 hrh;refine adJ Tryz.func95 39 [.cell 4 61] fun hwf=>?_
 simp only[go_sem];intro i4 hi4;have n4:=aH hi4;have hG4:G i4=none:=ael;have c4:∀(f:Heap) (x y:Option Blk),upd (upd f id x) i4 y=upd (upd f i4 y) id x:=fun f x y=>cu f x y n4.symm
 simp only[go_sem,c4];intro i5 hi5;have n5:=aH hi5;have hi5' :=hi5;rw[ag _ _ n5]at hi5';have n54:=aH hi5';have m54:¬i5=i4:=n54;have m45:¬i4=i5:=n54.symm;have hG5:G i5=none:=ael;have c5:∀(f:Heap) (x y:Option Blk),upd (upd f id x) i5 y=upd (upd f i5 y) id x:=fun f x y=>cu f x y n5.symm
 have c45:∀(f:Heap) (x y:Option Blk),upd (upd f i5 x) i4 y=upd (upd f i4 y) i5 x:=fun f x y=>cu f x y n54
 simp only[go_sem,c5];refine(oJ st nh .full adO hw).run ?_;simp only[go_sem,c5,ak,n5];refine(ur _ h1.1).run ?_;simp only[go_sem,c5,ak,n5];refine(oJ _ xZ .full adO h2.1).run ?_;simp only[go_sem,c5,ak,n5];refine ht.run ?_;simp only[go_sem,c5,ak,n5];refine(kV _ [123] h4.1).run ?_;cases ds:((aW st nh).1==2)
 ·rw[ds]at hset
  simp only[go_sem,ak,n5];have eb:qf (gH r) (r==0) (cV st).1.1 (cV st).2=(((j6 17 (cV st).2 []).1,[]),(j6 17 (cV st).2 []).2):=by grind [qf]
  have hb:=B6 (fun _ h=>xW r _ h) (r==0) (cV st).1.1 h5.1
  obtain⟨⟨rl,stb⟩,er⟩:∃x,j6 17 (cV st).2 []=x:=⟨_,rfl⟩;rw[er]at eb hs;rw[eb]at hb;have ho:=tJ _ (jt [125] hb.1).1;simp only[aA]at ho hs;refine hs.run ?_;simp only[go_sem,c5,ak,n5];refine(kV _ [125] hb.1).run ?_;simp only[go_sem];refine ho.run ?_;simp only[go_sem,c4,c5,c45,ak,n4,n5,m45];have efin:gH (r+1) st=(.mk (cV st).1.2.1 false (cV st).1.2.2.1 (cV st).1.2.2.2 rl [] (gv (dU stb [125])).1,(gv (dU stb [125])).2):=by grind [gH]
  exact .mk (h' :=upd G id (some (PO (gv (dU stb [125])).2))) (aM (.mk (cV st).1.2.1 false (cV st).1.2.2.1 (cV st).1.2.2.2 rl [] (gv (dU stb [125])).1)) (gr _) (Sub.both aed _ _) ⟨adL,adL⟩
 ·rw[ds]at hset
  simp only[go_sem,ak,n5,w1];have eb:qf (gH r) (r==0) (cV st).1.1 (cV st).2=(([],(jY (gH r) (r==0) 17 (cV st).2 []).1),(jY (gH r) (r==0) 17 (cV st).2 []).2):=by grind [qf]
  have hb:=B6 (fun _ h=>xW r _ h) (r==0) (cV st).1.1 h5.1
  rw[←hdp]at hk;obtain⟨⟨kl,stb⟩,er⟩:∃x,jY (gH r) (r==0) 17 (cV st).2 []=x:=⟨_,rfl⟩;rw[er]at eb hk;rw[eb]at hb;have ho:=tJ _ (jt [125] hb.1).1;simp only[aA]at ho hk;refine hk.run ?_;simp only[go_sem,c5,ak,n5];refine(kV _ [125] hb.1).run ?_;simp only[go_sem];refine ho.run ?_;simp only[go_sem,c4,c5,c45,ak,n4,n5,m45];have efin:gH (r+1) st=(.mk (cV st).1.2.1 true (cV st).1.2.2.1 (cV st).1.2.2.2 [] kl (gv (dU stb [125])).1,(gv (dU stb [125])).2):=by grind [gH]
  exact .mk (h' :=upd G id (some (PO (gv (dU stb [125])).2))) (aM (.mk (cV st).1.2.1 true (cV st).1.2.2.1 (cV st).1.2.2.2 [] kl (gv (dU stb [125])).1)) (by simp only[aM,aY];exact gr _) (Sub.both aed _ _) ⟨adL,adL⟩
theorem Ez:∀(r d:Nat),r+d=4→∀st,WfP st→st.rules≤64→PC 95 [.i d] st (aM (gH (r+1) st).1) (gH (r+1) st).2
 |0,d,hrd=>fun st hw hr=>EA 0 d hrd adK st hw hr
 |r+1,d,hrd=>fun st hw hr=>EA (r+1) d hrd (fun st hw hr _=>Ez r (d+1) adK st hw hr) st hw hr
def Keeps(S:List Nat)(h h' :Heap):Prop:=∀j k,j∉S→h j=some k→h' j=some k
theorem Keeps.trans{S:List Nat}{a b c:Heap}(x:Keeps S a b)(y:Keeps S b c):Keeps S a c:=fun j k hj e=>y j k hj (x j k hj e)
theorem Keeps.of{S:List Nat}{a b:Heap}(x:Ab.Sub a b):Keeps S a b:=fun j k _ e=>x j k e
theorem Keeps.upd{S:List Nat}{a:Heap}{i:Nat}{b:Option Blk}(hi:i∈S):Keeps S a (Ab.upd a i b):=fun j k hj e=>by
 grind [ag]
def iu(h:Heap)(idw mid:Nat)(m:eu):Prop:=h idw=some (.obj [.mp mid,.i m.rules] 247)∧h mid=some (.mp (AA m.met))∧(∀l∈m.met,l.length≤16)∧m.rules≤64
theorem iu.ne{h:Heap}{idw mid:Nat}{m:eu}(hw:iu h idw mid m):idw≠mid:=fun e=>by
 have h1:=hw.1;have h2:=hw.2.1
 rw[e,h2]at h1;cases h1
theorem iu.keep{h h' :Heap}{idw mid:Nat}{m:eu}(hw:iu h idw mid m)(hs:Ab.Sub h h'):iu h' idw mid m:=⟨hs _ _ hw.1,hs _ _ hw.2.1,hw.2.2⟩
theorem YF:(U 352).sz=0:=adV
theorem Gv{s:Txt}(h:aX s=true):s.length≤16:=by
 grind [aX]
theorem zb{m:eu}{s:Txt}(h:s∈m.met∨aX s=false):jr m s=none:=by
 unfold jr
 grind
theorem Fi(idw mid:Nat)(m:eu)(s:Txt)(h:Heap)(hw:iu h idw mid m):ai Tryz.prog 237 [.ptr idw 0,.s s] h fun r h' =>match jr m s with
  |none=>r= .b false∧Ab.Sub h h'
  |some m' =>r= .b true∧Keeps [idw,mid] h h'∧iu h' idw mid m' :=by
 refine adJ Tryz.func237 28 [.tmp 4] fun hwf=>?_
 obtain⟨w1,w2,w3,w4⟩:=hw;have hlen:s.length≤maxLen:=by
  have:=hwf (.s s) adR;simp only[wfA,wf1,lim]at this;unfold maxLen;omega
 have hkeys:AP .str (AA m.met):=J0 fun l hl=>by grind [maxLen]
 simp only[go_sem,w1,w2];refine⟨hlen,.inr adV,hkeys,?_⟩;rw[J6 _ _ YF];simp only[go_sem];intro idv hidv;simp only[go_sem];cases d1:decide (s∈m.met)
 case true=>
  have hm:=zb (.inl (adC d1));simp only[go_sem];rw[hm];exact .mk _ (.refl _) (.aj hidv) ⟨rfl,.refl _⟩
 have e1:=adD d1;simp only[go_sem];refine(pM _ _).pthen ?_;cases d2:aX s
 ·have hm:=zb (m:=m) (.inr d2)
  simp only[go_sem];rw[hm];exact .mk _ (.refl _) (.aj hidv) ⟨rfl,.refl _⟩
 have hm:jr m s=some ⟨m.met++ [s],m.rules⟩:=by grind [jr]
 have w1' :upd h idv (some (.obj [] 352)) idw=some (.obj [.mp mid,.i m.rules] 247):=ael;have w2' :upd h idv (some (.obj [] 352)) mid=some (.mp (AA m.met)):=ael;simp only[go_sem,w1',w2'];refine⟨hlen,hkeys,?_⟩;rw[Nw e1];rw[hm];refine .same (.refl _) ⟨rfl,(Keeps.of (.aj hidv)).trans (.upd adR),?_,?_,?_,w4⟩
 ·grind [ag]
 ·rw[ah]
 grind [List.mem_singleton,Gv]
theorem N0(idw mid:Nat)(m:eu)(r:cR)(h:Heap)(hw:iu h idw mid m):ai Tryz.prog 204 [.ptr idw 0,aC r] h fun x h' =>x= .v (.int .i64 (gw m r).err)∧Keeps [idw,mid] h h'∧∀m',gw m r= .ok m'→iu h' idw mid m' :=by
 refine adJ Tryz.func204 39 [.tmp 4] fun hwf=>?_
 simp only[go_sem,aC,aV,fy,aA];intro id hid;have n1:idw≠id:=fun e=>by have:=hw.1;rw[e,hid]at this;cases this
 have n2:mid≠id:=fun e=>by have:=hw.2.1;rw[e,hid]at this;cases this
 have hwb:=hw.keep (Sub.aj (k:=some (.obj [.s r.id,.b r.deny,.sl (r.tgt.map cU) .no,.sl (r.cond.map dI) .no,.sl (r.obls.map bu) .no] 210)) hid);have hk0:Keeps [idw,mid] h (upd h id (some (.obj [.s r.id,.b r.deny,.sl (r.tgt.map cU) .no,.sl (r.cond.map dI) .no,.sl (r.obls.map bu) .no] 210))):=.of (.aj hid);simp only[go_sem];obtain⟨hb,ehb⟩:∃hb,upd h id (some (.obj [.s r.id,.b r.deny,.sl (r.tgt.map cU) .no,.sl (r.cond.map dI) .no,.sl (r.obls.map bu) .no] 210))=hb:=⟨_,rfl⟩;have hbid:hb id=some (.obj [.s r.id,.b r.deny,.sl (r.tgt.map cU) .no,.sl (r.cond.map dI) .no,.sl (r.obls.map bu) .no] 210):=ahd;rw[ehb]at hwb hk0⊢;refine(Fi idw mid m r.id hb hwb).mono fun x h2 hx=>?_
 cases hm:jr m r.id with
 |none=>
  rw[hm]at hx;obtain⟨rfl,hs⟩:=hx;have hr:gw m r= .bad 1:=by grind [gw]
  simp only[go_sem];exact .same (.refl _) ⟨ahP,hk0.trans (.of hs),fun m' h' =>adL⟩
 |some m1=>
  rw[hm]at hx;obtain⟨rfl,hk,hw2⟩:=hx;have g2:=hw2.1;have hle:=hw2.2.2.2;have hid2:h2 id=some (.obj [.s r.id,.b r.deny,.sl (r.tgt.map cU) .no,.sl (r.cond.map dI) .no,.sl (r.obls.map bu) .no] 210):=hk id _ adL hbid;have w1:IntKind.i64.wrap ((m1.rules:Int)+1)=((m1.rules+1:Nat):Int):=adY;have hk3:Keeps [idw,mid] h (upd h2 idw (some (.obj [.mp mid,.i ((m1.rules+1:Nat):Int)] 247))):=(hk0.trans hk).trans (.upd adR);have hid3:upd h2 idw (some (.obj [.mp mid,.i ((m1.rules+1:Nat):Int)] 247)) id=some (.obj [.s r.id,.b r.deny,.sl (r.tgt.map cU) .no,.sl (r.cond.map dI) .no,.sl (r.obls.map bu) .no] 210):=by
   grind [ag]
  cases d1:decide (64<((m1.rules+1:Nat):Int))
  case true=>
   have e1:m1.rules+1>64:=adL;have hr:gw m r= .bad 6:=by grind [gw]
   simp only[go_sem,g2,w1,d1];exact aiR
  have e1:¬m1.rules+1>64:=adL;have hr:gw m r=need (lP r.tgt) (need (kr r.cond) (need (iE r.obls) (.ok ⟨m1.met,m1.rules+1⟩))):=by grind [gw]
  simp only[go_sem,g2,w1,d1,hid3];refine(vN r.tgt _).pthen ?_;cases d2:(lP r.tgt !=0)
  case true=>
   have e2:lP r.tgt≠0:=adL;have hr:gw m r= .bad (lP r.tgt):=by grind [need]
   simp only[go_sem,d2];exact aiR
  have e2:lP r.tgt=0:=adL;rw[need,if_pos e2]at hr;simp only[go_sem,d2,hid3];refine(HJ r.cond _).pthen ?_;cases d3:(kr r.cond !=0)
  case true=>
   have e3:kr r.cond≠0:=adL;have hr:gw m r= .bad (kr r.cond):=by grind [need]
   simp only[go_sem,d3];exact aiR
  have e3:kr r.cond=0:=adL;rw[need,if_pos e3]at hr;simp only[go_sem,d3,hid3];refine(CE r.obls _).pthen ?_;simp only[go_sem]
  by_cases e4:iE r.obls=0
  ·rw[need,if_pos e4]at hr
   refine .same (.refl _) ⟨by rw[hr,e4];rfl,hk3,fun m' h' =>?_⟩
   rw[hr]at h';cases h';refine⟨ah ..,?_,hw2.2.2.1,adL⟩;rw[ag _ _ hw2.ne.symm];exact hw2.2.1
  ·rw[need,if_neg e4]at hr
   exact aiR
theorem yH{m:eu}{id:Txt}{set:Bool}{alg:Int}{tgt:gj}{nr nk:Nat}{obls:List cC}(h:jr m id=none):fk m id set alg tgt nr nk obls= .bad 1:=by
 grind [fk]
theorem NY(idw mid:Nat)(m:eu)(id:Txt)(set:Bool)(alg:Int)(tgt:gj)(rules:List cR)(kids:List bJ)(obls:List cC)(h:Heap)(hw:iu h idw mid m):
  ai Tryz.prog 203 [.ptr idw 0,aM (.mk id set alg tgt rules kids obls)] h fun x h' =>x= .v (.int .i64 (fk m id set alg tgt rules.length kids.length obls).err)∧Keeps [idw,mid] h h'∧∀m',fk m id set alg tgt rules.length kids.length obls= .ok m'→iu h' idw mid m' :=by
 refine adJ Tryz.func203 68 [.tmp 4] fun hwf=>?_
 simp only[go_sem,aM,aV,aA];intro ip hip;have n1:idw≠ip:=fun e=>by have:=hw.1;rw[e,hip]at this;cases this
 have n2:mid≠ip:=fun e=>by have:=hw.2.1;rw[e,hip]at this;cases this
 have hwb:=hw.keep (Sub.aj (k:=some (.obj [.s id,.b set,.i alg,.sl (tgt.map cU) .no,.sl (rules.map aC) .no,.sl (fH kids) .no,.sl (obls.map bu) .no] 61)) hip);have hk0:Keeps [idw,mid] h (upd h ip (some (.obj [.s id,.b set,.i alg,.sl (tgt.map cU) .no,.sl (rules.map aC) .no,.sl (fH kids) .no,.sl (obls.map bu) .no] 61))):=.of (.aj hip);simp only[go_sem];obtain⟨hb,ehb⟩:∃hb,upd h ip (some (.obj [.s id,.b set,.i alg,.sl (tgt.map cU) .no,.sl (rules.map aC) .no,.sl (fH kids) .no,.sl (obls.map bu) .no] 61))=hb:=⟨_,rfl⟩;have hbip:hb ip=some (.obj [.s id,.b set,.i alg,.sl (tgt.map cU) .no,.sl (rules.map aC) .no,.sl (fH kids) .no,.sl (obls.map bu) .no] 61):=ahd;rw[ehb]at hwb hk0⊢;refine(Fi idw mid m id hb hwb).mono fun x h2 hx=>?_
 cases hm:jr m id with
 |none=>
  rw[hm]at hx;obtain⟨rfl,hs⟩:=hx;simp only[go_sem];exact .same (.refl _) ⟨by rw[yH hm];rfl,hk0.trans (.of hs),fun m' h' =>by rw[yH hm]at h';cases h'⟩
 |some m1=>
  rw[hm]at hx;obtain⟨rfl,hk,hw2⟩:=hx;have hip2:h2 ip=some (.obj [.s id,.b set,.i alg,.sl (tgt.map cU) .no,.sl (rules.map aC) .no,.sl (fH kids) .no,.sl (obls.map bu) .no] 61):=hk ip _ (by simp[n1.symm,n2.symm]) hbip
  have hkk:=hk0.trans hk;have bad:∀e,fk m id set alg tgt rules.length kids.length obls= .bad e→(.i e:AV)= .v (.int .i64 (fk m id set alg tgt rules.length kids.length obls).err)∧Keeps [idw,mid] h h2∧∀m',fk m id set alg tgt rules.length kids.length obls= .ok m'→iu h2 idw mid m' :=
   fun e he=>⟨by rw[he];rfl,hkk,fun m' h' =>by rw[he]at h';cases h'⟩
  cases d1:decide (alg<1)
  case true=>
   have e1:=adC d1;simp only[go_sem,d1,hip2];exact .same (.refl _) (bad 1 (by simp[fk,hm,e1]))
  cases d2:decide (6<alg)
  case true=>
   have e2:=adC d2;simp only[go_sem,d1,d2,hip2];exact .same (.refl _) (bad 1 (by simp[fk,hm,e2]))
  have e1:¬(alg<1∨alg>6):=by have:=adD d1;have:=adD d2;omega
  have tail:∀(z:Unit),¬(set=true∧rules.length>0∨set=false∧(kids.length>0∨alg=4))→fk m id set alg tgt rules.length kids.length obls=need (lP tgt) (need (iE obls) (if rules.length>16∨kids.length>16 then .bad 6 else .ok m1)):=fun _ hh=>by
   simp only[fk,hm];rw[if_neg e1,if_neg hh]
  cases set
  ·cases d4:decide (0<(kids.length:Int))
   case true=>
    have f4:0<kids.length:=by have:=adC d4;omega
    simp -implicitDefEqProofs only[go_sem,d1,d2,hip2,aY,adA,d4];exact .same (.refl _) (bad 1 (by simp[fk,hm,e1,f4]))
   have g4:¬0<kids.length:=by have:=adD d4;omega
   cases d5:(alg==4)
   case true=>
    have f5:alg=4:=by simpa using d5
    simp -implicitDefEqProofs only[go_sem,d1,d2,hip2,aY,adA,d4,d5];exact .same (.refl _) (bad 1 (by simp[fk,hm,f5]))
   have g5:alg≠4:=by simpa using d5
   simp -implicitDefEqProofs only[go_sem,d1,d2,hip2,aY,adA,d4,d5];have e3:=tail () (by simp[g4,g5])
   refine(vN tgt _).pthen ?_;cases t1:(lP tgt !=0)
   case true=>
    exact aja
   have f1:lP tgt=0:=by simpa using t1
   simp only[go_sem,t1,hip2];refine(CE obls _).pthen ?_;cases t2:(iE obls !=0)
   case true=>
    exact ai6
   have f2:iE obls=0:=by simpa using t2
   cases t3:decide (16<(rules.length:Int))
   case true=>
    exact aiU
   have f3:¬16<rules.length:=by have:=adD t3;omega
   cases t4:decide (16<(kids.length:Int))
   case true=>
    exact aiS
   have f4:¬16<kids.length:=by have:=adD t4;omega
   simp only[go_sem,t2,hip2,adA,t3,aY,t4];have e4:fk m id false alg tgt rules.length kids.length obls= .ok m1:=by rw[e3];simp[need,f1,f2,f3,f4]
   exact ajq
  ·cases d3:decide (0<(rules.length:Int))
   case true=>
    have f3:0<rules.length:=by have:=adC d3;omega
    simp -implicitDefEqProofs only[go_sem,d1,d2,hip2,adA,d3];exact .same (.refl _) (bad 1 (by simp[fk,hm,e1,f3]))
   have g3:¬0<rules.length:=by have:=adD d3;omega
   simp -implicitDefEqProofs only[go_sem,d1,d2,hip2,adA,d3];have e3:=tail () (by simp[g3])
   refine(vN tgt _).pthen ?_;cases t1:(lP tgt !=0)
   case true=>
    exact aja
   have f1:lP tgt=0:=by simpa using t1
   simp only[go_sem,t1,hip2];refine(CE obls _).pthen ?_;cases t2:(iE obls !=0)
   case true=>
    exact ai6
   have f2:iE obls=0:=by simpa using t2
   cases t3:decide (16<(rules.length:Int))
   case true=>
    exact aiU
   have f3:¬16<rules.length:=by have:=adD t3;omega
   cases t4:decide (16<(kids.length:Int))
   case true=>
    exact aiS
   have f4:¬16<kids.length:=by have:=adD t4;omega
   simp only[go_sem,t2,hip2,adA,t3,aY,t4];have e4:fk m id true alg tgt rules.length kids.length obls= .ok m1:=by rw[e3];simp[need,f1,f2,f3,f4]
   exact ajq
theorem M3(k:bJ):(aM k).cells.length=7:=by
 cases k;rfl
theorem vC{m:eu}{d:Nat}{p:bJ}(h:4<d):kN m d p= .bad 6:=by
 cases p;grind [kN]
theorem vD{m:eu}{d:Nat}{id:Txt}{set:Bool}{alg:Int}{tgt:gj}{rules:List cR}{kids:List bJ}{obls:List cC}{e:Int}(h:¬4<d)
  (hh:fk m id set alg tgt rules.length kids.length obls= .bad e):kN m d (.mk id set alg tgt rules kids obls)= .bad e:=by
 grind [kN]
theorem zu{m m1:eu}{d:Nat}{id:Txt}{set:Bool}{alg:Int}{tgt:gj}{rules:List cR}{kids:List bJ}{obls:List cC}{e:Int}(h:¬4<d)
  (hh:fk m id set alg tgt rules.length kids.length obls= .ok m1) (hr:fC m1 rules= .bad e):kN m d (.mk id set alg tgt rules kids obls)= .bad e:=by
 grind [kN]
theorem Bx{m m1 m2:eu}{d:Nat}{id:Txt}{set:Bool}{alg:Int}{tgt:gj}{rules:List cR}{kids:List bJ}{obls:List cC}(h:¬4<d)
  (hh:fk m id set alg tgt rules.length kids.length obls= .ok m1) (hr:fC m1 rules= .ok m2):kN m d (.mk id set alg tgt rules kids obls)=iW m2 (d+1) kids:=by
 grind [kN]
theorem uu:∀(n d:Nat) (m:eu) (p:bJ) (e:Int),d+n=5→kN m d p= .bad e→e≠0
 |0,d,m,p,e,hd,h=>by grind [vC]
 |n+1,d,m,.mk id set alg tgt rules kids obls,e,hd,h=>by
  by_cases h4:4<d
  ·omega
  cases hh:fk m id set alg tgt rules.length kids.length obls with
  |bad e' =>grind [vD,Bc]
  |ok m1=>
   cases hr:fC m1 rules with
   |bad e' =>
    rw[zu h4 hh hr]at h;cases h
    clear hh hd
    induction rules generalizing m1 with
    |nil=>cases hr
    |cons r l ih=>
     grind [fC,gw,BI]
   |ok m2=>
    rw[Bx h4 hh hr]at h;have ih:=fun m p e=>uu n (d+1) m p e adK
    clear hh hr
    induction kids generalizing m2 with
    |nil=>cases h
    |cons k l ihk=>
     simp only[iW]at h;cases hx:kN m2 (d+1) k with
     |bad x=>rw[hx]at h;cases h;exact ih _ _ _ hx
     |ok m3=>rw[hx]at h;exact ihk m3 h
theorem Ij{e:Int}{w:Went}{m:eu}(h:need e w= .ok m):e=0∧w= .ok m:=by
 grind [need]
theorem Ma{m m1:eu}{id:Txt}{set:Bool}{alg:Int}{tgt:gj}{nr nk:Nat}{obls:List cC}(h:fk m id set alg tgt nr nk obls= .ok m1):
  jr m id=some m1∧1≤alg∧alg≤6∧(set=true→nr=0)∧(set=false→nk=0∧alg≠4)∧lP tgt=0∧iE obls=0∧nr≤16∧nk≤16:=by
 unfold fk at h;split at h
 ·cases h
 split at h
 ·cases h
 split at h
 ·cases h
 obtain⟨h3,h⟩:=Ij h;obtain⟨h4,h⟩:=Ij h
 grind
theorem IU:∀(n d:Nat),d+n=5→∀(idw mid:Nat) (m:eu) (p:bJ) (h:Heap),iu h idw mid m→
  ai Tryz.prog 158 [.ptr idw 0,aM p,.i d] h fun x h' =>x= .v (.int .i64 (kN m d p).err)∧Keeps [idw,mid] h h'∧∀m',kN m d p= .ok m'→iu h' idw mid m'
 |n,d,hd,idw,mid,m,.mk id set alg tgt rules kids obls,h,hw=>by
  refine adJ Tryz.func158 52 [.tmp 6] fun hwf=>?_
  simp only[go_sem,aM,aV,aA];intro ip hip;have n1:idw≠ip:=fun e=>by have:=hw.1;rw[e,hip]at this;cases this
  have n2:mid≠ip:=fun e=>by have:=hw.2.1;rw[e,hip]at this;cases this
  have hwb:=hw.keep (Sub.aj (k:=some (.obj [.s id,.b set,.i alg,.sl (tgt.map cU) .no,.sl (rules.map aC) .no,.sl (fH kids) .no,.sl (obls.map bu) .no] 61)) hip);have hk0:Keeps [idw,mid] h (upd h ip (some (.obj [.s id,.b set,.i alg,.sl (tgt.map cU) .no,.sl (rules.map aC) .no,.sl (fH kids) .no,.sl (obls.map bu) .no] 61))):=.of (.aj hip);obtain⟨hb,ehb⟩:∃hb,upd h ip (some (.obj [.s id,.b set,.i alg,.sl (tgt.map cU) .no,.sl (rules.map aC) .no,.sl (fH kids) .no,.sl (obls.map bu) .no] 61))=hb:=⟨_,rfl⟩;have hbip:hb ip=some (.obj [.s id,.b set,.i alg,.sl (tgt.map cU) .no,.sl (rules.map aC) .no,.sl (fH kids) .no,.sl (obls.map bu) .no] 61):=ahd;rw[ehb]at hwb hk0⊢;cases d0:decide (4<(d:Int))
  case true=>
   have e0:4<d:=adL;simp only[go_sem,d0];exact .same (.refl _) ⟨by rw[vC e0];rfl,hk0,fun m' h' =>by grind [vC]⟩
  have e0:¬4<d:=adL;simp only[go_sem,d0,hbip];have hhead:=NY idw mid m id set alg tgt rules kids obls hb hwb;simp only[aM,aV,aA]at hhead;refine hhead.mono fun x h2 ⟨ex,hk,hw2⟩=>?_
  subst ex;have hk2:=hk0.trans hk;cases hh:fk m id set alg tgt rules.length kids.length obls with
  |bad e=>
   have hne:=Bc hh;have t1:(e !=0)=true:=adL;simp only[go_sem,Went.err,t1];exact .same (.refl _) ⟨by rw[vD e0 hh];rfl,hk2,fun m' h' =>by grind [vD]⟩
  |ok m1=>
   have hw2:=hw2 _ hh;have hle:=(Ma hh).2.2.2.2.2.2.2;have hip2:=hk ip _ adL hbip;simp only[go_sem,Went.err,hip2,adA];refine .intro (fun k ρ h' =>∃(i:Nat) (mi:eu),i≤rules.length∧k=rules.length - i∧fC m1 (rules.take i)= .ok mi∧Keeps [idw,mid] h h'∧iu h' idw mid mi∧
    h' ip=some (.obj [.s id,.b set,.i alg,.sl (tgt.map cU) .no,.sl (rules.map aC) .no,.sl (fH kids) .no,.sl (obls.map bu) .no] 61)∧
    lk ρ 0=some (.ptr idw 0)∧lk ρ 2=some (.i d)∧lk ρ 4=some (.ptr ip 0)∧lk ρ 23=some (.sl (rules.map aC) .no)∧lk ρ 24=some (.i rules.length)∧lk ρ 25=some (.i i)) rules.length ?_ ?_
   ·refine⟨0,m1,adK,rfl,rfl,hk2,hw2,hip2,?_,?_,?_,?_,?_,?_⟩<;>simp only[go_sem]
   ·rintro k ρ h' ⟨i,mi,hi,rfl,hri,hki,hwi,hipi,r0,r2,r4,r23,r24,r25⟩
    simp only[go_sem,r24,r25];refine .intro (fun e=>?_) (fun e=>?_)
    ·have hlt:i<rules.length:=adH e
     have w1:IntKind.i64.wrap ((i:Int)+1)=((i+1:Nat):Int):=adY;simp only[go_sem,r23,r25];refine .at i adL ad0 ?_;simp only[go_sem,adB,aC];intro ir hir;have hrl:=N0 idw mid mi rules[i] _ (hwi.keep (Sub.aj (k:=some (.obj [.s rules[i].id,.b rules[i].deny,aV rules[i].tgt,fy rules[i].cond,aA rules[i].obls] 210)) hir));simp only[aC]at hrl;simp only[go_sem,r0];refine hrl.mono fun x h3 ⟨ex,hk3,hw3⟩=>?_
     subst ex;have hk4:=(hki.trans (.of (Sub.aj hir))).trans hk3;have hip3:=hk3 ip _ adL ((Sub.aj hir) _ _ hipi);cases hx:gw mi rules[i]with
     |bad x=>
      have t1:(x !=0)=true:=by grind [BI]
      simp only[go_sem,Went.err,t1];have hp:=zu (d:=d) (kids:=kids) e0 hh (ES hlt hri hx);exact .same (.refl _) ⟨by rw[hp];rfl,hk4,fun m' h' =>adL⟩
     |ok m3=>
      simp only[go_sem,r25,Went.err,w1];refine⟨_,?_,i+1,m3,adK,rfl,by grind [wY],hk4,hw3 _ hx,hip3,?_,?_,?_,?_,?_,?_⟩
      ·omega
      all_goals simp only[go_sem,r0,r2,r4,r23,r24]
    ·have hge:i=rules.length:=by grind
     subst hge;rw[List.take_length]at hri;have hpk:=Bx (d:=d) (kids:=kids) e0 hh hri;simp only[go_sem,r4,hipi,aY,adA];refine .intro (fun k ρ h' =>∃(i:Nat) (mj:eu),i≤kids.length∧k=kids.length - i∧iW mi (d+1) (kids.take i)= .ok mj∧Keeps [idw,mid] h h'∧iu h' idw mid mj∧
      lk ρ 0=some (.ptr idw 0)∧lk ρ 2=some (.i d)∧lk ρ 37=some (.sl (kids.map aM) .no)∧lk ρ 38=some (.i kids.length)∧lk ρ 39=some (.i i)) kids.length ?_ ?_
     ·refine⟨0,mi,adK,rfl,rfl,hki,hwi,?_,?_,?_,?_,?_⟩<;>simp only[go_sem,r0,r2]
     ·rintro k ρ h' ⟨i,mj,hi,rfl,hkj,hki,hwi,r0,r2,r37,r38,r39⟩
      simp only[go_sem,r38,r39];refine .intro (fun e=>?_) (fun e=>?_)
      ·have hlt:i<kids.length:=adH e
       have w1:IntKind.i64.wrap ((i:Int)+1)=((i+1:Nat):Int):=adY;have w2:IntKind.i64.wrap ((d:Int)+1)=((d+1:Nat):Int):=adY;obtain⟨n',rfl⟩:∃n',n=n' +1:=⟨n - 1,adK⟩;have hrec:=IU n' (d+1) adK idw mid mj kids[i];cases hki' :kids[i]with
       |mk kid kset kalg ktgt krules kkids kobls=>
       rw[hki']at hrec;simp only[aM,aV,aA]at hrec;simp only[go_sem,r37,r39];refine .at i adL (by grind [M3]) ?_
       simp only[go_sem,adB,hki',aM,aV,aA];intro ir hir;simp only[go_sem,r0,r2,w2];refine(hrec _ (hwi.keep (Sub.aj hir))).mono fun x h3 ⟨ex,hk3,hw3⟩=>?_
       subst ex;have hk4:=(hki.trans (.of (Sub.aj hir))).trans hk3;cases hx:kN mj (d+1) (.mk kid kset kalg ktgt krules kkids kobls)with
       |bad x=>
        have t1:(x !=0)=true:=by simpa using uu n' (d+1) _ _ _ adK hx
        simp only[go_sem,Went.err,t1];have hp:=Gl hlt hkj (by rw[hki'];exact hx)
        exact .same (.refl _) ⟨by rw[hpk,hp];rfl,hk4,fun m' h' =>adL⟩
       |ok m3=>
        simp only[go_sem,r39,Went.err,w1];refine⟨_,?_,i+1,m3,adK,rfl,by grind [yO],hk4,hw3 _ hx,?_,?_,?_,?_,?_⟩
        ·omega
        all_goals simp only[go_sem,r0,r2,r37,r38]
      ·have hge:i=kids.length:=by grind
       subst hge;rw[List.take_length]at hkj;simp only[go_sem];exact .same (.refl _) ⟨by rw[hpk,hkj];rfl,hki,fun m' h' =>adL⟩
theorem Gw{h:Heap}{i j:Nat}{b:Blk}(e:upd h i (some b) j=none):j≠i:=fun hh=>by
 subst hh;rw[ah]at e;cases e
theorem uB(p:bJ)(h:Heap):ai Tryz.prog 98 [aM p] h fun r h' =>r= .i (gC p)∧h' =h:=by
 cases p with
 |mk id set alg tgt rules kids obls=>
 refine adJ Tryz.func98 10 [.tmp 2] fun hwf=>?_
 simp only[go_sem,aM,aV,aA];intro ip hip;simp only[go_sem];intro im him;simp only[go_sem];intro iw hiw;have n1:=Gw him;have n2:=Gw hiw;have hiw1:=hiw;rw[ag _ _ n2]at hiw1;have n3:=Gw hiw1;have s1:Ab.Sub h (upd (upd (upd h ip (some (.obj [.s id,.b set,.i alg,.sl (tgt.map cU) .no,.sl (rules.map aC) .no,.sl (fH kids) .no,.sl (obls.map bu) .no] 61))) im (some (.mp []))) iw (some (.obj [.mp im,.i 0] 247))):=
  ((Sub.aj hip).trans (.aj him)).trans (.aj hiw)
 obtain⟨h3,e3⟩:∃h3,upd (upd (upd h ip (some (.obj [.s id,.b set,.i alg,.sl (tgt.map cU) .no,.sl (rules.map aC) .no,.sl (fH kids) .no,.sl (obls.map bu) .no] 61))) im (some (.mp []))) iw (some (.obj [.mp im,.i 0] 247))=h3:=⟨_,rfl⟩;have g1:h3 ip=some (.obj [.s id,.b set,.i alg,.sl (tgt.map cU) .no,.sl (rules.map aC) .no,.sl (fH kids) .no,.sl (obls.map bu) .no] 61):=by
  rw[←e3,ag _ _ n3.symm,ag _ _ n1.symm,ah]
 have g2:iu h3 iw im ⟨[],0⟩:=by
  refine⟨by rw[←e3,ah];rfl,by rw[←e3,ag _ _ n2.symm,ah];rfl,fun l hl=>adL,adO⟩
 have hi0:h im=none:=ael;have hw0:h iw=none:=ael;simp only[go_sem];rw[e3]at s1⊢;simp only[go_sem,g1];have hp:=IU 4 1 rfl iw im ⟨[],0⟩ (.mk id set alg tgt rules kids obls) h3 g2;refine hp.mono fun x h4 ⟨ex,hk,_⟩=>?_
 subst ex;simp only[go_sem];refine .mk _ (.refl _) (fun j k hj=>?_) ⟨rfl,rfl⟩
 refine hk j k ?_ (s1 _ _ hj)
 grind
def j5(x:bJ×Int×Int):AV:=.tup [aM x.1,.i x.2.1,.i x.2.2]
theorem jG(a b c:AV)(h:Weak a b)(d:AV):Weak (.tup [a,c,d]) (.tup [b,c,d]):=.tup _ _ rfl fun i h1 h2=>by
 rcases i with _|_|_|i
 ·exact h
 ·exact ae4
 ·exact ae4
 grind
theorem zl(s:Txt)(h:Heap)(he:ja h):ai Tryz.prog 49 [.s s] h fun r h' =>r=j5 (aR s)∧h' =h:=by
 refine adJ Tryz.func49 61 [.cell 2 61,.tmp 3,.tmp 4] fun hwf=>?_
 simp only[go_sem];intro i2 hi2;simp only[go_sem];refine(ya s _ (he.sub (.aj hi2))).pthen ?_;cases el:pK s with
 |bad e a=>
  have e1:=ua el;have d1:(e !=0)=true:=by
   grind
  have efin:aR s=(oZ,e,a):=by grind [aR]
  simp only[go_sem,Gp,d1];rw[efin];exact .mk (h' :=h) (j5 (oZ,e,a)) (jG _ _ _ (gr _) _) (.aj hi2) ⟨rfl,rfl⟩
 |ok ts=>
  have efin:aR s=zk s ts:=by grind [aR]
  have hw:=KT el 0 0 0;have hpol:=Ez 3 1 rfl ⟨ts,0,0,0,0⟩ hw (Nat.zero_le _);have hap:=xW 4 ⟨ts,0,0,0,0⟩ hw;obtain⟨⟨⟨pid,pset,palg,ptgt,prules,pkids,pobls⟩,st1⟩,ep⟩:∃x,gH 4 ⟨ts,0,0,0,0⟩=x:=⟨_,rfl⟩;rw[show 3+1=4 from rfl,ep]at hpol
  rw[ep]at hap;simp only[aM]at hpol hap;simp only[zk,ep]at efin;simp only[go_sem,Gp];intro i8 hi8;have n8:=aH hi8;have m82:¬i8=i2:=n8;have m28:¬i2=i8:=fun e=>n8 e.symm
  have hh8:h i8=none:=ael;simp only[go_sem];refine hpol.go (ah ..) ?_;rw[cI];simp only[go_sem];intro i9 hi9;have n9:=aH hi9;have hi9' :=hi9;rw[ag _ _ n9]at hi9';have n92:=aH hi9';have m92:¬i9=i2:=n92;have m29:¬i2=i9:=fun e=>n92 e.symm
  have m98:¬i9=i8:=n9;have m89:¬i8=i9:=fun e=>n9 e.symm
  have hh9:h i9=none:=ael;have c9:∀(f:Heap) (x y:Option Blk),upd (upd f i8 x) i9 y=upd (upd f i9 y) i8 x:=fun f x y=>cu f x y n9.symm
  simp only[go_sem,c9,ak,m98];refine(mA st1 hap.1).run ?_;have subs:∀x y z,Sub h (upd (upd (upd h i2 x) i9 y) i8 z):=fun x y z=>((Sub.aj hi2).put hh9 _).put hh8 _
  cases d1:((aK st1).kind !=7)
  ·have k1:(aK st1).kind=7:=by grind
   have e2:(if(aK st1).kind=7 then st1 else bn st1)=st1:=if_pos k1
   simp only[go_sem,fD,d1];cases db:((st1).bad==0)
   ·have eb:(st1).bad≠0:=by grind
    simp only[go_sem,PO,db];have eend:qp s (.mk pid pset palg ptgt prules pkids pobls,st1)=st1:=by
     simp_all [qp,if_neg]
    have hbb:(st1).bad≠0:=eb;have dn:((st1).bad !=0)=true:=adL;simp only[go_sem,dn];refine .calls (hm1 i8 (PO (st1))) [0,1,2,3,4,5,6,7,8,9,10,11] (.hm1 (ah ..)) adN rfl ?_;simp only[go_sem,ak,m28,m29,PO,gp];refine⟨.hm1 ((ag _ _ n8).trans (ah ..)),?_⟩;have efin2:aR s=(oZ,(st1).bad,(st1).place):=adL;rw[efin2];exact .mk (h' :=h) (j5 (oZ,(st1).bad,(st1).place)) (jG _ _ _ (gr _) _) (Sub.put (subs _ _ _) hi2 _) ⟨rfl,rfl⟩
   ·have eb:(st1).bad=0:=by grind
    simp only[go_sem,ak,m98,PO,db];refine(uB (.mk pid pset palg ptgt prules pkids pobls) _).pthen ?_;cases dr:(gC (.mk pid pset palg ptgt prules pkids pobls) !=0)
    ·have er:gC (.mk pid pset palg ptgt prules pkids pobls)=0:=by grind
     have dn:((st1).bad !=0)=false:=adL;simp only[go_sem,ak,m28,m29,m98,dr,dn];have eend:qp s (.mk pid pset palg ptgt prules pkids pobls,st1)=st1:=by
      simp_all [qp,if_neg]
     exact ajA
    ·have er:gC (.mk pid pset palg ptgt prules pkids pobls)≠0:=by grind
     simp only[go_sem,dr];refine(rI (st1) 5 s.length).run ?_;have eend:qp s (.mk pid pset palg ptgt prules pkids pobls,st1)=bI (st1) 5 s.length:=by
      simp_all [qp,if_pos]
     have hwb:bI (st1) 5 s.length= {(st1)with bad:=5,place:=s.length}:=by rw[bI,if_pos eb]
     have hbb:(bI (st1) 5 s.length).bad≠0:=adL;have dn:((bI (st1) 5 s.length).bad !=0)=true:=adL;simp only[go_sem,PO,dn];refine .calls (hm1 i8 (PO (bI (st1) 5 s.length))) [0,1,2,3,4,5,6,7,8,9,10,11] (.hm1 (ah ..)) adN rfl ?_;simp only[go_sem,ak,m28,m29,PO,gp];refine⟨.hm1 ((ag _ _ n8).trans (ah ..)),?_⟩;have efin2:aR s=(oZ,(bI (st1) 5 s.length).bad,(bI (st1) 5 s.length).place):=adL;rw[efin2];exact .mk (h' :=h) (j5 (oZ,(bI (st1) 5 s.length).bad,(bI (st1) 5 s.length).place)) (jG _ _ _ (gr _) _) (Sub.put (subs _ _ _) hi2 _) ⟨rfl,rfl⟩
  ·have k1:(aK st1).kind≠7:=by grind
   have e2:(if(aK st1).kind=7 then st1 else bn st1)=bn st1:=if_neg k1
   simp only[go_sem,fD,d1];refine(lN st1 hap.1).run ?_;simp only[go_sem];cases db:((bn st1).bad==0)
   ·have eb:(bn st1).bad≠0:=by grind
    simp only[go_sem,PO,db];have eend:qp s (.mk pid pset palg ptgt prules pkids pobls,st1)=bn st1:=by
     simp_all [qp,if_neg]
    have hbb:(bn st1).bad≠0:=eb;have dn:((bn st1).bad !=0)=true:=adL;simp only[go_sem,dn];refine .calls (hm1 i8 (PO (bn st1))) [0,1,2,3,4,5,6,7,8,9,10,11] (.hm1 (ah ..)) adN rfl ?_;simp only[go_sem,ak,m28,m29,PO,gp];refine⟨.hm1 ((ag _ _ n8).trans (ah ..)),?_⟩;have efin2:aR s=(oZ,(bn st1).bad,(bn st1).place):=adL;rw[efin2];exact .mk (h' :=h) (j5 (oZ,(bn st1).bad,(bn st1).place)) (jG _ _ _ (gr _) _) (Sub.put (subs _ _ _) hi2 _) ⟨rfl,rfl⟩
   ·have eb:(bn st1).bad=0:=by grind
    simp only[go_sem,ak,m98,PO,db];refine(uB (.mk pid pset palg ptgt prules pkids pobls) _).pthen ?_;cases dr:(gC (.mk pid pset palg ptgt prules pkids pobls) !=0)
    ·have er:gC (.mk pid pset palg ptgt prules pkids pobls)=0:=by grind
     have dn:((bn st1).bad !=0)=false:=adL;simp only[go_sem,ak,m28,m29,m98,dr,dn];have eend:qp s (.mk pid pset palg ptgt prules pkids pobls,st1)=bn st1:=by
      simp_all [qp,if_neg]
     exact ajA
    ·have er:gC (.mk pid pset palg ptgt prules pkids pobls)≠0:=by grind
     simp only[go_sem,dr];refine(rI (bn st1) 5 s.length).run ?_;have eend:qp s (.mk pid pset palg ptgt prules pkids pobls,st1)=bI (bn st1) 5 s.length:=by
      simp_all [qp,if_pos]
     have hwb:bI (bn st1) 5 s.length= {(bn st1)with bad:=5,place:=s.length}:=by rw[bI,if_pos eb]
     have hbb:(bI (bn st1) 5 s.length).bad≠0:=adL;have dn:((bI (bn st1) 5 s.length).bad !=0)=true:=adL;simp only[go_sem,PO,dn];refine .calls (hm1 i8 (PO (bI (bn st1) 5 s.length))) [0,1,2,3,4,5,6,7,8,9,10,11] (.hm1 (ah ..)) adN rfl ?_;simp only[go_sem,ak,m28,m29,PO,gp];refine⟨.hm1 ((ag _ _ n8).trans (ah ..)),?_⟩;have efin2:aR s=(oZ,(bI (bn st1) 5 s.length).bad,(bI (bn st1) 5 s.length).place):=adL;rw[efin2];exact .mk (h' :=h) (j5 (oZ,(bI (bn st1) 5 s.length).bad,(bI (bn st1) 5 s.length).place)) (jG _ _ _ (gr _) _) (Sub.put (subs _ _ _) hi2 _) ⟨rfl,rfl⟩
end Go.Proofs.YtfdgemhnlennbaaGreatDoor
namespace Go.Ab
open Go
theorem OwE.keepb{tb:TypeId}{h0 h h' :Heap}{sz:Nat}{y:AV}{xs:List AV}(hw:OwE tb h0 h sz y xs)(hk:∀id,h0 id=Option.none→h id≠Option.none→h' id=h id):OwE tb h0 h' sz y xs:=
 hw.keep fun id e=>hk id (hw.nid e).1 (hw.nid e).2.1
end Go.Ab
namespace Go.Proofs.YtfdgemhnlennbaaGreatDoor
open Go Go.Ab Go.Bf
theorem fq.keepb{h0 h h' :Heap}{ys:List AV}{x:AV}{c:aL}(hm:fq h0 h ys x c)(hk:∀id,h0 id=none→h id≠none→h' id=h id):fq h0 h' ys x c:=by
 obtain⟨f,l,e,a,b,c,d⟩:=hm;exact⟨f,l,e,a.keepb hk,b.keepb hk,c,d⟩
theorem mq.keepb{h0 h h' :Heap}{ys:List AV}{y:AV}{cs:List aL}{i0:Nat}(ho:mq h0 h ys y cs i0)(hk:∀id,h0 id=none→h id≠none→h' id=h id):mq h0 h' ys y cs i0:=by
 obtain⟨xs,a,b,c,d⟩:=ho;exact⟨xs,a.keepb hk,b,c,fun h1 h2=>(d h1 h2).keepb hk⟩
theorem tr.keepb{h0 h h' :Heap}{x:AV}{s:aq}{i0:Nat}(ho:tr h0 h x s i0)(hk:∀id,h0 id=none→h id≠none→h' id=h id):tr h0 h' x s i0:=by
 obtain⟨y1,y2,y3,y4,e,a,b,c,d,r⟩:=ho;exact⟨y1,y2,y3,y4,e,a.keepb hk,b.keepb hk,c.keepb hk,d.keepb hk,r⟩
theorem mq.keepx{h0 h h' :Heap}{ys:List AV}{y z:AV}{cs:List aL}{i0:Nat}(ho:mq h0 h ys y cs i0)(hz:z∈ys)(hy:apart y z)(hk:∀id,h0 id=none→h id≠none→nid z≠some id→h' id=h id):mq h0 h' ys y cs i0:=by
 obtain⟨xs,a,b,c,d⟩:=ho;refine⟨xs,a.keep fun id e=>hk id (a.nid e).1 (a.nid e).2.1 (hy id e),b,c,fun h1 h2=>?_⟩
 obtain⟨f,l,e,of,ol,hap,hys⟩:=d h1 h2;exact⟨f,l,e,of.keep fun id e=>hk id (of.nid e).1 (of.nid e).2.1 ((hys z hz).1 id e),ol.keep fun id e=>hk id (ol.nid e).1 (ol.nid e).2.1 ((hys z hz).2 id e),hap,hys⟩
theorem fq.frz{g h0 h:Heap}{ys:List AV}{x:AV}{c:aL}(hm:fq h0 h ys x c)(hg:Ab.Sub g h0):Frz g h x (cr c):=by
 obtain⟨f,l,rfl,a,b,_⟩:=hm;refine .agg _ _ rfl fun j h1 h2=>?_
 rcases j with _|_|_|_|_|j
 ·exact ad4
 ·exact ad4
 ·exact ad4
 ·exact(a.less hg).frz (bw (fun _=>rfl) _)
 ·exact(b.less hg).frz (bw (fun _=>rfl) _)
 ·simp at h1;omega
theorem JE{g h0 h:Heap}{y:AV}{xs:List AV}{cs:List aL}(hw:OwE 122 h0 h 5 y xs)(hg:Ab.Sub g h0)(hn:xs.length=cs.length)(hx:∀j (h1:j<xs.length) (h2:j<cs.length),Frz g h xs[j] (cr cs[j])):Frz g h y (gm cs):=by
 rcases hw with⟨rfl,rfl⟩|⟨id,h1,hw⟩
 ·have:cs= []:=by grind
  subst this;exact .sl [] [] .full rfl adK adR
 ·have hsz:∀i (h1:i<xs.length),xs[i].cells.length=5:=fun i h1=>hw.rd.1 _ adR
  refine hw.frz (hg.none h1) adL (fun i h1 h2=>by rw[hsz i h1,adB];rfl) fun i h1 h2 j h3 h4=>?_
  have h2' :i<cs.length:=adK;have hf:=hx i h1 h2';have key:∀x y:AV,Frz g h x y→bC y=true→cN y=true→∀j (h3:j<x.cells.length) (h4:j<y.cells.length),Frz g h x.cells[j] y.cells[j]:=by
   intro x y hf ha hp j h3 h4;cases hf with
   |keep x hx=>exact .pure (nZ hp _ (adF h4))
   |agg xs ys hn hr=>exact hr j h3 h4
   |_=>cases ha
  have e:(cs.map cr)[i]'h2=cr cs[i]:=adR;simp only[e]at h4⊢;exact key _ _ hf rfl (by simp only[cr,nO,cN,ic,gy,sQ,Bool.and_true,Bool.true_and,Bool.and_eq_true];exact⟨bw (fun _=>rfl) _,bw (fun _=>rfl) _⟩) j h3 h4
theorem mq.frz{g h0 h:Heap}{ys:List AV}{y:AV}{cs:List aL}{i0:Nat}(ho:mq h0 h ys y cs i0)(hg:Ab.Sub g h0):Frz g h y (gm cs):=by
 obtain⟨xs,a,b,c,d⟩:=ho;refine JE a hg b fun j h1 h2=>?_
 by_cases e:j=i0
 ·subst e;exact(d h1 h2).frz hg
 grind [DE]
theorem M4{g h:Heap}(p:bJ):∀x∈gb p,Frz g h x x:=fun x hx=>by
 refine .pure (nZ (x:=aM p) (EC p) x ?_);rw[PE];exact hx
theorem DF{g h:Heap}{xs:List AV}(hx:∀x∈xs,Frz g h x x):∀i (h1:i<xs.length) (h2:i<xs.length),Frz g h xs[i] xs[i]:=fun i h1 _=>hx _ (adF h1)
theorem HQ{g h:Heap}{ps bs cs ds:List AV}(n1:ps.length=bs.length)(n2:cs.length=ds.length)(h1:∀i (a:i<ps.length) (b:i<bs.length),Frz g h ps[i] bs[i])(h2:∀i (a:i<cs.length) (b:i<ds.length),Frz g h cs[i] ds[i]):
  ∀i (a:i<(ps++cs).length) (b:i<(bs++ds).length),Frz g h (ps++cs)[i] (bs++ds)[i]:=fun i a b=>by
 by_cases e:i<ps.length
 ·rw[List.getElem_append_left e,List.getElem_append_left adK];exact h1 i e adK
 ·rw[List.getElem_append_right adK,List.getElem_append_right adK]
  simp only[adE]at a b;have:=h2 (i - ps.length) adK adK;simp only[n1]at this⊢;exact aer
theorem vg{g h:Heap}{s:aq}{y1 y2 y3 y4:AV}(a:Frz g h y1 (gm s.cases))(b:Frz g h y2 (kE s.reviews))(c:Frz g h y3 (lH s.notices))(d:Frz g h y4 (dZ s.roles)):
  Frz g h (.agg ([.i s.tick,y1,y2,y3,y4]++gb s.policy++ [.i s.version])) (cO s):=by
 refine .agg _ _ adR (HQ adR rfl (HQ rfl rfl (fun i h1 h2=>?_) (DF (M4 _))) (DF fun x hx=>by rw[List.mem_singleton.1 hx];exact .pure rfl))
 rcases i with _|_|_|_|_|i
 ·exact ad4
 ·exact a
 ·exact b
 ·exact c
 ·exact d
 ·simp at h1;omega
theorem mq.rd{h0 h:Heap}{ys:List AV}{y:AV}{cs:List aL}{i0:Nat}(ho:mq h0 h ys y cs i0):Ae h y cs:=by
 obtain⟨xs,a,b,c,d⟩:=ho;refine⟨xs,a.rd,b,fun j h1 h2=>?_⟩
 by_cases e:j=i0
 ·subst e
  obtain⟨f,l,e,a,b,_⟩:=d h1 h2;exact⟨f,l,e,a.rd,b.rd⟩
 grind [rdC]
theorem tr.rd{h0 h:Heap}{x:AV}{s:aq}{i0:Nat}(ho:tr h0 h x s i0):RdS h x s:=by
 obtain⟨y1,y2,y3,y4,rfl,a,b,c,d,r⟩:=ho;exact⟨y1,y2,y3,y4,rfl,a.rd,b.rd,c.rd,d.rd⟩
end Go.Proofs.YtfdgemhnlennbaaGreatDoor
namespace Go.Ab
open Go
theorem OwE.bM{tb:TypeId}{h0 h1 h:Heap}{sz:Nat}{y:AV}{xs:List AV}(hw:OwE tb h1 h sz y xs)(hs:∀i,h1 i=Option.none→h0 i=Option.none):OwE tb h0 h sz y xs:=by
 rcases hw with hw|⟨id,e,hw⟩
 ·exact ahJ
 ·exact .inr ⟨id,hs _ e,hw⟩
end Go.Ab
namespace Go.Proofs.YtfdgemhnlennbaaGreatDoor
open Go Go.Ab Go.Bf
theorem fq.bM{g h0 h:Heap}{ys:List AV}{x:AV}{c:aL}(hm:fq h0 h ys x c)(hg:∀i,h0 i=none→g i=none):fq g h ys x c:=by
 obtain⟨f,l,e,a,b,c⟩:=hm;exact⟨f,l,e,a.bM hg,b.bM hg,c⟩
theorem mq.bM{g h0 h:Heap}{ys:List AV}{y:AV}{cs:List aL}{i0:Nat}(ho:mq h0 h ys y cs i0)(hg:∀i,h0 i=none→g i=none):mq g h ys y cs i0:=by
 obtain⟨xs,a,b,c,d⟩:=ho;exact⟨xs,a.bM hg,b,c,fun h1 h2=>(d h1 h2).bM hg⟩
theorem tr.bM{g h0 h:Heap}{x:AV}{s:aq}{i0:Nat}(ho:tr h0 h x s i0)(hg:∀i,h0 i=none→g i=none):tr g h x s i0:=by
 obtain⟨y1,y2,y3,y4,e,a,b,c,d,r⟩:=ho;exact⟨y1,y2,y3,y4,e,a.bM hg,b.bM hg,c.bM hg,d.bM hg,r⟩
theorem pR{g K:Heap}{S:aq}{j:Nat}{y1 y2 y3 y4:AV}{tk ver palg:Int}{pid:Txt}{pset:Bool}{ptgt:gj}{prules:List cR}{pkids:List bJ}{pobls:List cC}(h1:S.tick=tk)(h2:S.policy= .mk pid pset palg ptgt prules pkids pobls)(h3:S.version=ver)
  (a:mq g K [y1,y2,y3,y4] y1 S.cases j) (b:OwE 135 g K 7 y2 (S.reviews.map iU)) (c:OwE 138 g K 3 y3 (S.notices.map nH)) (d:OwE 141 g K 2 y4 (S.roles.map eJ)) (ap:apart y1 y2∧apart y1 y3∧apart y1 y4∧apart y2 y3∧apart y2 y4∧apart y3 y4):
  tr g K (.agg [.i tk,y1,y2,y3,y4,.s pid,.b pset,.i palg,aV ptgt,.sl (prules.map aC) .no,.sl (pkids.map aM) .no,aA pobls,.i ver]) S j:=by
 refine⟨y1,y2,y3,y4,?_,a,b,c,d,ap⟩;rw[h1,h2,h3,show gb (.mk pid pset palg ptgt prules pkids pobls)= [.s pid,.b pset,.i palg,aV ptgt,.sl (prules.map aC) .no,.sl (pkids.map aM) .no,aA pobls] by simp[gb,aY]]
 rfl
theorem mq.move{h0 h h' :Heap}{ys ys' :List AV}{y z:AV}{cs:List aL}{i0:Nat}(ho:mq h0 h ys y cs i0)(hz:z∈ys)(hy:apart y z)(hk:∀id,h0 id=none→h id≠none→nid z≠some id→h' id=h id)
  (hr:∀y'∈ys',∀k,nid y' =some k→h k=none∨∃w∈ys,nid w=some k):mq h0 h' ys' y cs i0:=by
 obtain⟨xs,a,b,c,d⟩:=ho;refine⟨xs,a.keep fun id e=>hk id (a.nid e).1 (a.nid e).2.1 (hy id e),b,c,fun h1 h2=>?_⟩
 obtain⟨f,l,e,of,ol,hap,hys⟩:=d h1 h2;refine⟨f,l,e,of.keep fun id e=>hk id (of.nid e).1 (of.nid e).2.1 ((hys z hz).1 id e),ol.keep fun id e=>hk id (ol.nid e).1 (ol.nid e).2.1 ((hys z hz).2 id e),hap,fun w hw=>⟨fun k e1 e2=>?_,fun k e1 e2=>?_⟩⟩
 ·rcases hr w hw k e2 with hn|⟨v,hv,e3⟩
  ·exact(of.nid e1).2.1 hn
  ·exact(hys v hv).1 k e1 e3
 ·rcases hr w hw k e2 with hn|⟨v,hv,e3⟩
  ·exact(ol.nid e1).2.1 hn
  ·exact(hys v hv).2 k e1 e3
theorem PD{g K:Heap}{r X:AV}{A B:List aL}{C:aL}{ys:List AV}{j:Nat}(hj:A.length=j)(hw:OwE 122 g K 5 r (A.map cr++([X]++B.map cr)))(hX:fq g K ys X C):mq g K ys r (A++ [C]++B) j:=by
 refine⟨_,hw,adR,fun k h1 h2 hk=>?_,fun h1 h2=>?_⟩
 ·grind
 grind
theorem CG{g K:Heap}{z:AV}{xs:List AV}{cs:List aL}{j:Nat}{X:AV}{F:aL→aL}{ys:List AV}(hw:OwE 122 g K 5 z (xs.set j X))(hn:xs.length=cs.length)(hlo:∀k (h1:k<xs.length) (h2:k<cs.length),k≠j→xs[k]=cr cs[k])(hX:∀h:j<cs.length,fq g K ys X (F cs[j])):mq g K ys z (cs.modify j F) j:=by
 refine⟨_,hw,adL,fun k h1 h2 e=>?_,fun h1 h2=>?_⟩
 ·grind
 grind
theorem tO{xs:List AV}{j:Nat}(hj:j<xs.length)(x:AV):au (xs.set j x)=au (xs.take j)++(x.cells++au (xs.drop (j+1))):=by
 simp_all [List.set_eq_take_append_cons_drop,if_pos,mF,au]
theorem Cn{xs:List AV}{j:Nat}(hj:j<xs.length):au xs=au (xs.take j)++(xs[j].cells++au (xs.drop (j+1))):=by
 grind [tO,List.set_getElem_self]
theorem zB{s:aq}{o:OpD}(h:bN s o=0)(hk:o.kind=3∨o.kind=4):bY s.cases o.case=true:=by
 grind [bY,bN,bX]
theorem LR{g:Heap}{x:AV}{s:aq}(hb:RdS g x s)(o:OpD)(hf:Few s)(hp:nq 1 s.policy)(hr:i64 o.review)(ht:i64 s.tick)(hver:0≤s.version∧s.version≤1000000)(he:ja g):
  ai Tryz.prog 57 [x,opA o] g fun r h' =>Ab.Sub g h'∧∃j,tr g h' r (dR aR s o) j∧(bN s o=0→j=findD s.cases o.case):=by
 obtain⟨i0,ei0⟩:∃i0,(if o.kind=1 then s.cases.length else findD s.cases o.case)=i0:=⟨_,rfl⟩
 have hown:=fun(G:Heap) (hG:Ab.Sub g G)=>SQ (hb.sub hG) i0 hf hp
 have hrdy:=fun(G:Heap) (hG:Ab.Sub g G)=>EO (hb.sub hG) o hf hr ht
 obtain⟨y1,y2,y3,y4,rfl,hb'⟩:=hb;cases hpp:s.policy with
 |mk pid pset palg ptgt prules pkids pobls=>
 have hcC:gb (.mk pid pset palg ptgt prules pkids pobls)= [.s pid,.v (.bool pset),.v (.int .i64 palg),aV ptgt,.sl (prules.map aC) .no,.sl (pkids.map aM) .no,aA pobls]:=agO;rw[hpp,hcC]at hown hrdy;simp only[opA,opC,List.cons_append,List.nil_append]at hown hrdy;refine adJ Tryz.func57 138 [.cell 4 63] fun hwf=>?_
 simp only[go_sem,hcC,opA,opC,List.cons_append,List.nil_append];intro i2 h2;simp only[go_sem];intro i3 h3;have n32:=aH h3;have h3' :=aB h3;simp only[go_sem];intro i4 h4;have n43:=aH h4;have h4a:=aB h4;have n42:=aH h4a;have h4' :=aB h4a;simp only[go_sem,ak,n32.symm,n42.symm];obtain⟨H,eH⟩:∃H,upd (upd (upd g i2 (some (.obj [.v (.int .i64 s.tick),y1,y2,y3,y4,.s pid,.v (.bool pset),.v (.int .i64 palg),aV ptgt,.sl (prules.map aC) .no,.sl (pkids.map aM) .no,aA pobls,.v (.int .i64 s.version)] 63))) i3 (some (.obj (opC o) 39))) i4 (some (.obj [.v (.int .i64 0),.sl [] .full,.sl [] .full,.sl [] .full,.sl [] .full,.s [],.v (.bool false),.v (.int .i64 0),.sl [] .full,.sl [] .full,.sl [] .full,.sl [] .full,.v (.int .i64 0)] 63))=H:=⟨_,rfl⟩;have hH:Ab.Sub g H:=by rw[←eH];exact(((Sub.refl g).put h2 _).put h3' _).put h4' _
 have g2:H i2=some (.obj [.v (.int .i64 s.tick),y1,y2,y3,y4,.s pid,.v (.bool pset),.v (.int .i64 palg),aV ptgt,.sl (prules.map aC) .no,.sl (pkids.map aM) .no,aA pobls,.v (.int .i64 s.version)] 63):=by rw[←eH,ag _ _ n42.symm,ag _ _ n32.symm,ah]
 have g3:H i3=some (.obj (opC o) 39):=by rw[←eH,ag _ _ n43.symm,ah]
 have g4:H i4=some (.obj [.v (.int .i64 0),.sl [] .full,.sl [] .full,.sl [] .full,.sl [] .full,.s [],.v (.bool false),.v (.int .i64 0),.sl [] .full,.sl [] .full,.sl [] .full,.sl [] .full,.v (.int .i64 0)] 63):=afc;simp only[opC]at eH g3;rw[eH];clear eH;refine(hown H hH).mono fun r H1 ⟨hS,s1⟩=>?_
 obtain⟨z1,z2,z3,z4,er,hS1⟩:=id hS;subst er;rw[hpp,hcC]at hS⊢;obtain⟨hC,w2,w3,w4,a12,a13,a14,a23,a24,a34⟩:=hS1;obtain⟨xs,w1,hnx,hlo,hmy⟩:=id hC;simp only[go_sem,List.cons_append,List.nil_append];intro i5 h5;simp only[go_sem];have q2:=s1 _ _ g2;have q3:=s1 _ _ g3;have q4:=s1 _ _ g4;have n52:i2≠i5:=fun e=>by rw[←e,q2]at h5;cases h5
 have n53:i3≠i5:=fun e=>by rw[←e,q3]at h5;cases h5
 have n54:i4≠i5:=fun e=>by rw[←e,q4]at h5;cases h5
 obtain⟨K,eK⟩:∃K,upd H1 i5 (some (.obj [.v (.int .i64 s.tick),z1,z2,z3,z4,.s pid,.v (.bool pset),.v (.int .i64 palg),aV ptgt,.sl (prules.map aC) .no,.sl (pkids.map aM) .no,aA pobls,.v (.int .i64 s.version)] 63))=K:=⟨_,rfl⟩;have sK:Ab.Sub H1 K:=by rw[←eK];exact .aj h5
 have k5:K i5=some (.obj [.v (.int .i64 s.tick),z1,z2,z3,z4,.s pid,.v (.bool pset),.v (.int .i64 palg),aV ptgt,.sl (prules.map aC) .no,.sl (pkids.map aM) .no,aA pobls,.v (.int .i64 s.version)] 63):=by rw[←eK,ah]
 rw[eK];have hz5:∀k,H k=none→H1 k≠none→k≠i5:=fun k _ hk e=>hk (by rw[e];exact h5)
 have k2:=sK _ _ q2;have k3:=sK _ _ q3;have k4:=sK _ _ q4;clear eK;have sg:Ab.Sub g K:=hH.trans (s1.trans sK);simp only[go_sem,k2,k3];refine(hrdy K sg).pthen ?_;have g5:g i5=none:=(hH.trans s1).none h5;have kK:∀k,H1 k≠none→K k=H1 k:=fun k hk=>by
  cases e:H1 k with
  |none=>exact(hk e).elim
  |some b=>exact sK _ _ e
 have hz4:∀k,H k=none→k≠i4:=fun k hk e=>by rw[e,g4]at hk;cases hk
 by_cases p0:bN s o=0
 ·have d0:(bN s o !=0)=false:=by simp[p0]
  simp only[go_sem,d0];simp only[go_sem,k5,k3];have hSK:tr H K (.agg ([.v (.int .i64 s.tick),z1,z2,z3,z4]++gb s.policy++ [.v (.int .i64 s.version)])) s i0:=by
   rw[hpp,hcC];exact hS.keepb fun k _ hk=>kK k hk
  have hfi:=Cm hSK.rd o.case hf.cases;rw[hpp,hcC]at hfi;simp only[List.cons_append,List.nil_append]at hfi;refine hfi.pthen ?_;simp only[go_sem,k3];have hform:cB o=true:=by
   cases e:cB o
   ·simp[bN,e]at p0
   ·rfl
  have hdone:dR aR s o=doD aR s o:=by simp[dR,p0]
  rw[hdone]
  by_cases p1:o.kind=1
  ·have k1:(o.kind==1)=true:=by simp[p1]
   simp only[go_sem,k1];simp only[go_sem,k3];intro i8 h8;have n82:i2≠i8:=fun e=>by rw[←e,k2]at h8;cases h8
   have n83:i3≠i8:=fun e=>by rw[←e,k3]at h8;cases h8
   have n84:i4≠i8:=fun e=>by rw[←e,k4]at h8;cases h8
   have n85:i5≠i8:=fun e=>by rw[←e,k5]at h8;cases h8
   simp only[go_sem];obtain⟨K2,eK2⟩:∃K2,upd K i8 (some (.obj [.s o.case,.s o.subj,.s [111,112,101,110],.sl [] .full,.sl [] .full] 122))=K2:=⟨_,rfl⟩;have sK2:Ab.Sub K K2:=by rw[←eK2];exact .aj h8
   have e8:K2 i8=some (.obj [.s o.case,.s o.subj,.s [111,112,101,110],.sl [] .full,.sl [] .full] 122):=by rw[←eK2,ah]
   rw[eK2];clear eK2;have m3:=sK2 _ _ k3;have m4:=sK2 _ _ k4;have m5:=sK2 _ _ k5;simp only[go_sem,m3,m5];have hha:=sJ (h0:=H) (s:=s) z1 z2 z3 z4 (k:=i8) (o:=0) (A:=[]) (B:=[]) (t:=122) (c:=⟨o.case,o.subj,jN,[],[]⟩) (f:=.sl [] .full) (l:=.sl [] .full) rfl e8 adO (.inl ⟨rfl,rfl⟩) (s1.trans (sK.trans sK2)) (Nat.zero_le _) o.subj [110,101,119];rw[hpp,hcC]at hha;simp only[List.cons_append,List.nil_append]at hha;refine hha.mono fun r K3 ⟨l',ol,e8',fr3,ap3⟩=>?_
   have kK3:∀k,K2 k≠none→k≠i8→K3 k=K2 k:=fun k hk hk8=>fr3 k hk hk8 (by simp[nid])
   have m3' :K3 i3=_:=(kK3 i3 (by rw[m3];simp) n83).trans m3
   have m4' :K3 i4=_:=(kK3 i4 (by rw[m4];simp) n84).trans m4
   have m5' :K3 i5=_:=(kK3 i5 (by rw[m5];simp) n85).trans m5
   simp only[cg,List.append_nil]at e8';simp only[go_sem];simp only[go_sem,m5',e8'];have kk2:∀k,H1 k≠none→K2 k=H1 k:=fun k hk=>by
    have:=kK k hk;cases e:K k with
    |none=>rw[e]at this;exact(hk this.symm).elim
    |some b=>rw[sK2 _ _ e,←e,this]
   have k8:∀k,H1 k≠none→k≠i8:=fun k hk e=>hk (by have:=kK k hk;rw[e,h8]at this;rw[e];exact this.symm)
   have kk3:∀k,H1 k≠none→K3 k=H1 k:=fun k hk=>(kK3 k (by rw[kk2 k hk];exact hk) (k8 k hk)).trans (kk2 k hk)
   have sH3:Ab.Sub H1 K3:=fun k b hk=>by rw[kk3 k (by rw[hk];simp)];exact hk
   have hfl:findD s.cases o.case≤s.cases.length:=List.findIdx_le_length;have hfc:=hf.cases;refine(Gf z1 xs (.agg [.s o.case,.s o.subj,.s jN,.sl [] .full,l']) (findD s.cases o.case) H K3 (w1.keepb fun k _ hk=>kk3 k hk) (s1.trans sH3) adK adK rfl (by simp[Ab.fit])).mono fun r K4 ⟨ow5,fr4,ap4⟩=>?_
   have m4'' :K4 i4=_:=(fr4 i4 (by rw[m4'];simp) (fun e=>by have:=(w1.nid e).1;rw[g4]at this;cases this)).trans m4'
   have m5'' :K4 i5=_:=(fr4 i5 (by rw[m5'];simp) (fun e=>(w1.nid e).2.1 h5)).trans m5'
   simp only[go_sem,m5'',ow5.rd.fit,ow5.rd.cells];simp only[go_sem,ak,n54,m4''];have hi0:i0=s.cases.length:=by rw[←ei0,if_pos p1]
   have hxs:xs=s.cases.map cr:=List.ext_getElem (by simpa using hnx) fun j a b=>by rw[hlo j a adK adK,adB]
   have kk4:∀k,H1 k≠none→nid z1≠some k→K4 k=H1 k:=fun k hk hz=>(fr4 k (by rw[kk3 k hk];exact hk) hz).trans (kk3 k hk)
   obtain⟨K5,eK5⟩:∃K5,upd (upd K4 i5 (some (.obj [.v (.int .i64 s.tick),r,z2,z3,z4,.s pid,.v (.bool pset),.v (.int .i64 palg),aV ptgt,.sl (prules.map aC) .no,.sl (pkids.map aM) .no,aA pobls,.v (.int .i64 s.version)] 63))) i4 (some (.obj [.v (.int .i64 s.tick),r,z2,z3,z4,.s pid,.v (.bool pset),.v (.int .i64 palg),aV ptgt,.sl (prules.map aC) .no,.sl (pkids.map aM) .no,aA pobls,.v (.int .i64 s.version)] 63))=K5:=⟨_,rfl⟩;rw[eK5];have o5:∀k,k≠i4→k≠i5→K5 k=K4 k:=fun k a b=>by rw[←eK5,ag _ _ a,ag _ _ b]
   have kk5:∀k,H k=none→H1 k≠none→nid z1≠some k→K5 k=H1 k:=fun k a b c=>(o5 k (hz4 k a) (hz5 k a b)).trans (kk4 k b c)
   have ow:OwE 122 H K5 5 r (List.take (findD s.cases o.case) xs++([.agg [.s o.case,.s o.subj,.s jN,.sl [] .full,l']]++List.drop (findD s.cases o.case) xs)):=ow5.keep fun id e=>o5 id (hz4 id (ow5.nid e).1) fun e5=>by
    subst e5;rcases ap4 _ e with h|h
    ·rw[m5']at h;cases h
    ·exact(w1.nid h).2.1 h5
   have ol5:OwE 191 H K5 3 l' _:=ol.keep fun id e=>by
    have h2n:K2 id=none:=(ap3 id e).resolve_right (by simp[nid])
    have hz:nid z1≠some id:=fun e1=>by
     have:=kk2 id (w1.nid e1).2.1;rw[h2n]at this;exact(w1.nid e1).2.1 this.symm
    rw[o5 id (hz4 id (ol.nid e).1) (fun e5=>by rw[e5,m5]at h2n;cases h2n),fr4 id (ol.nid e).2.1 hz]
   have hmc:fq H K5 [] (.agg [.s o.case,.s o.subj,.s jN,.sl [] .full,l']) (jA s ⟨o.case,o.subj,jN,[],[]⟩ o.subj [110,101,119]):=⟨.sl [] .full,l',rfl,.inl ⟨rfl,rfl⟩,ol5,(fun i e=>ad8),fun y hy=>by cases hy⟩
   have sg4:Ab.Sub g K4:=fun k b hk=>by
    have h1:=hH _ _ hk;have h2:=s1 _ _ h1;rw[kk4 k (by rw[h2];simp) (fun e=>by have:=(w1.nid e).1;rw[h1]at this;cases this)]
    exact ahR
   have sg5:Ab.Sub g K5:=by rw[←eK5];exact(sg4.put g5 _).put h4' _
   have hdo:doD aR s o= {s with cases:=s.cases.take (findD s.cases o.case)++ [jA s ⟨o.case,o.subj,jN,[],[]⟩ o.subj [110,101,119]]++s.cases.drop (findD s.cases o.case)}:=by simp[doD,p1]
   refine .mk _ (.refl _) (.refl _) ⟨sg5,_,?_,fun _=>rfl⟩
   rw[hdo];have apr:∀k,nid r=some k→H1 k=none∨nid z1=some k:=fun k e=>(ap4 k e).imp (fun h=>sH3.none h) id
   have hro:∀ {w:AV},apart z1 w→(∀k,nid w=some k→H1 k≠none)→apart r w:=fun ha hw k e1 e2=>(apr k e1).elim (fun h=>hw k e2 h) (fun h=>ha k h e2)
   have hl0:∀k,nid l' =some k→H1 k=none:=fun k e=>(sK.trans sK2).none ((ap3 k e).resolve_right (by simp[nid]))
   have hlr:apart l' r:=fun k e1 e2=>(ap4 k e2).elim (fun h=>(ol.nid e1).2.1 h) (fun h=>(w1.nid h).2.1 (hl0 k e1))
   rw[hxs,←List.map_take,←List.map_drop]at ow;refine pR rfl hpp rfl (PD afJ (ow.bM (fun _ e=>hH.none e)) ⟨.sl [] .full,l',rfl,.inl ⟨rfl,rfl⟩,ol5.bM (fun _ e=>hH.none e),(fun i e=>ad8),fun y hy=>⟨(fun i e=>ad8),?_⟩⟩) ((w2.keep fun id e=>kk5 id (w2.nid e).1 (w2.nid e).2.1 fun e1=>a12 id e1 e).bM fun _ e=>hH.none e) ((w3.keep fun id e=>kk5 id (w3.nid e).1 (w3.nid e).2.1 fun e1=>a13 id e1 e).bM fun _ e=>hH.none e) ((w4.keep fun id e=>kk5 id (w4.nid e).1 (w4.nid e).2.1 fun e1=>a14 id e1 e).bM fun _ e=>hH.none e) ⟨hro a12 fun k e=>(w2.nid e).2.1,hro a13 fun k e=>(w3.nid e).2.1,hro a14 fun k e=>(w4.nid e).2.1,a23,a24,a34⟩
   simp only[List.mem_cons,List.not_mem_nil,or_false]at hy;rcases hy with rfl|rfl|rfl|rfl
   ·exact hlr
   ·exact fun k e1 e2=>(w2.nid e2).2.1 (hl0 k e1)
   ·exact fun k e1 e2=>(w3.nid e2).2.1 (hl0 k e1)
   ·exact fun k e1 e2=>(w4.nid e2).2.1 (hl0 k e1)
  have k1:(o.kind==1)=false:=by simp[p1]
  have hi0:i0=findD s.cases o.case:=by rw[←ei0,if_neg p1]
  simp only[go_sem,k1]
  by_cases p3:o.kind=3
  ·have k3' :(o.kind==3)=true:=by simp[p3]
   simp only[go_sem,k3'];have hth:=zB p0 (.inl p3);have hlt:=jP hth;obtain⟨j,ej⟩:∃j,findD s.cases o.case=j:=⟨_,rfl⟩;have hj:j<s.cases.length:=by rw[←ej];exact hlt
   have hjx:j<xs.length:=adK;rw[ej]at hi0;subst hi0;obtain⟨f,l,ex,of,ol,hap,hys⟩:=hmy hjx hj;obtain⟨id1,hg1,o1⟩:=w1.ow agD;have o1' :=o1;obtain⟨cap,rest,ey,hid,hrl,hcap,hsz⟩:=o1';have lA:i0*5=(au (xs.take i0)).length:=aeP;have hidK:K id1=some (.obj (au (xs.take i0)++(cg s.cases[i0] f l++(au (xs.drop (i0+1))++rest))) 122):=by
    rw[sK _ _ hid,Cn hjx,ex];simp[cg,AV.cells]
   have n14:id1≠i4:=hz4 id1 hg1;have n13:id1≠i3:=fun e=>by rw[e,g3]at hg1;cases hg1
   have n15:id1≠i5:=fun e=>o1.none (by rw[e];exact h5)
   have nf4:∀k,nid f=some k→k≠i3∧k≠i4∧k≠i5∧k≠id1:=fun k e=>⟨(fun e' =>agx),hz4 k (of.nid e).1,hz5 k (of.nid e).1 (of.nid e).2.1,fun e' =>(hys z1 adR).1 k e ahf⟩
   have nl4:∀k,nid l=some k→k≠i3∧k≠i4∧k≠i5∧k≠id1:=fun k e=>⟨(fun e' =>agy),hz4 k (ol.nid e).1,hz5 k (ol.nid e).1 (ol.nid e).2.1,fun e' =>(hys z1 adR).2 k e ahf⟩
   have hff:=hf.fields _ (adF hj);have hfl:=hf.log _ (adF hj);rw[ej];refine .calls (pick K [i3,i5]) [0,1,2,3,4,5,6,7,8] bA adN rfl ?_;simp only[go_sem,bD (show i5∈ [i3,i5] by simp),k3,k5]
   refine(o1.sub sK).idx (U:=U) (e:=122) i0 rfl hjx oe adO ?_;simp only[go_sem,bD (show i3∈ [i3,i5] by simp),k3,k5]
   refine(show ai Tryz.prog 117 [.ptr id1 (i0*5),.s o.field,.agg [.v (.int .i64 o.val.kind),.v (.int .i64 o.val.n),.s o.val.s]] K _ from NZ lA hidK adO (of.sub sK) (s1.trans sK) hff o.field o.val).mono fun r K3 ⟨f',of',e1',fr3,ap3⟩=>?_
   have kk3:∀k,H1 k≠none→k≠id1→nid f≠some k→K3 k=H1 k:=fun k a b c=>(fr3 k (by rw[kK k a];exact a) b c).trans (kK k a)
   have m3:K3 i3=_:=(fr3 i3 (by rw[k3];simp) n13.symm fun e=>(nf4 _ e).1 rfl).trans k3
   have m4:K3 i4=_:=(fr3 i4 (by rw[k4];simp) n14.symm fun e=>(nf4 _ e).2.1 rfl).trans k4
   have m5:K3 i5=_:=(fr3 i5 (by rw[k5];simp) n15.symm fun e=>(nf4 _ e).2.2.1 rfl).trans k5
   refine⟨iT fun k hk=>?_,?_⟩
   ·simp only[List.mem_cons,List.not_mem_nil,or_false]at hk
    rcases hk with rfl|rfl
    ·rw[m3,k3]
    ·rw[m5,k5]
   simp only[go_sem];have sH3:Ab.Sub H K3:=fun k b hk=>aes
   have ol3:OwE 191 H K3 3 l (s.cases[i0].log.map iQ):=ol.keep fun k e=>kk3 k (ol.nid e).2.1 (nl4 k e).2.2.2 (fun e1=>hap k e1 e)
   have hX5:∀y1 y2:AV,Sized 5 (xs.set i0 (.agg (cg s.cases[i0] y1 y2))):=fun y1 y2 z hz=>by
    exact aiB
   have mkO:∀ {G:Heap} {y1 y2:AV},G id1=some (.obj (au (xs.take i0)++(cg s.cases[i0] y1 y2++(au (xs.drop (i0+1))++rest))) 122)→Ow 122 G 5 id1 z1 (xs.set i0 (.agg (cg s.cases[i0] y1 y2))):=fun {G y1 y2} hG=>⟨cap,rest,af0,by rw[hG,tO hjx];simp[AV.cells],agV,afT,hX5 _ _⟩
   have hjs:∀x:AV,i0<(xs.set i0 x).length:=fun x=>by rw[List.length_set];exact hjx
   refine .calls (pick K3 [i3,i5]) [0,1,2,3,4,5,6,7] bA adN rfl ?_;simp only[go_sem,bD (show i5∈ [i3,i5] by simp),m3,m5]
   refine(mkO e1').idx (U:=U) (e:=122) i0 rfl (hjs _) oe adO ?_;simp only[go_sem,bD (show i3∈ [i3,i5] by simp),m3,m5]
   have hha:=sJ (h0:=H) (h:=K3) (s:=s) z1 z2 z3 z4 (k:=id1) (c:=s.cases[i0]) (f:=f') (l:=l) lA e1' adO ol3 sH3 hfl o.subj [119,114,105,116,101];rw[hpp,hcC]at hha;simp only[List.cons_append,List.nil_append]at hha;refine hha.mono fun r K4 ⟨l',ol',e1'',fr4,ap4⟩=>?_
   have m3' :K4 i3=_:=(fr4 i3 (by rw[m3];simp) n13.symm fun e=>(nl4 _ e).1 rfl).trans m3
   have m4' :K4 i4=_:=(fr4 i4 (by rw[m4];simp) n14.symm fun e=>(nl4 _ e).2.1 rfl).trans m4
   have m5' :K4 i5=_:=(fr4 i5 (by rw[m5];simp) n15.symm fun e=>(nl4 _ e).2.2.1 rfl).trans m5
   refine⟨iT fun k hk=>?_,?_⟩
   ·simp only[List.mem_cons,List.not_mem_nil,or_false]at hk
    rcases hk with rfl|rfl
    ·rw[m3',m3]
    ·rw[m5',m5]
   simp only[go_sem];simp only[go_sem,m5',m4'];obtain⟨K5,eK5⟩:∃K5,upd K4 i4 (some (.obj [.v (.int .i64 s.tick),z1,z2,z3,z4,.s pid,.v (.bool pset),.v (.int .i64 palg),aV ptgt,.sl (prules.map aC) .no,.sl (pkids.map aM) .no,aA pobls,.v (.int .i64 s.version)] 63))=K5:=⟨_,rfl⟩;rw[eK5];have o5:∀k,k≠i4→K5 k=K4 k:=fun k a=>by rw[←eK5,ag _ _ a]
   have kk5:∀k,H k=none→H1 k≠none→k≠id1→nid f≠some k→nid l≠some k→K5 k=H1 k:=fun k a b c d e=>by
    exact ajJ
   have of5:OwE 201 H K5 4 f' _:=of'.keep fun id e=>by
    exact aif
   have ol5:OwE 191 H K5 3 l' _:=ol'.keep fun id e=>o5 id (hz4 id (ol'.nid e).1)
   have sg4:Ab.Sub g K4:=fun k b hk=>by
    exact aiK
   have sg5:Ab.Sub g K5:=by rw[←eK5];exact sg4.put h4' _
   have n1' :nid z1=some id1:=o1.nid;have hdo:doD aR s o= {s with cases:=s.cases.modify i0 fun c=>jA s {c with fields:=fj c.fields o.field o.val} o.subj [119,114,105,116,101]}:=by simp[doD,p3,ej]
   refine .mk _ (.refl _) (.refl _) ⟨sg5,_,?_,fun _=>rfl⟩
   rw[hdo];have thr:∀w∈ [z1,z2,z3,z4],∀k,nid w=some k→H1 k≠none:=fun w hw k e=>by
    exact aiH
   refine pR rfl hpp rfl ?_ ((w2.keep fun id e=>kk5 id (w2.nid e).1 (w2.nid e).2.1 (fun e1=>a12 id1 n1' agu) (fun e1=>(hys z2 adR).1 id e1 e) (fun e1=>(hys z2 adR).2 id e1 e)).bM fun _ e=>hH.none e) ((w3.keep fun id e=>kk5 id (w3.nid e).1 (w3.nid e).2.1 (fun e1=>a13 id1 n1' agu) (fun e1=>(hys z3 adR).1 id e1 e) (fun e1=>(hys z3 adR).2 id e1 e)).bM fun _ e=>hH.none e) ((w4.keep fun id e=>kk5 id (w4.nid e).1 (w4.nid e).2.1 (fun e1=>a14 id1 n1' agu) (fun e1=>(hys z4 adR).1 id e1 e) (fun e1=>(hys z4 adR).2 id e1 e)).bM fun _ e=>hH.none e) ⟨a12,a13,a14,a23,a24,a34⟩
   refine CG (X:=.agg (cg s.cases[i0] f' l')) ((show OwE 122 H K5 5 z1 _ from .inr ⟨id1,hg1,mkO ((o5 id1 n14).trans e1'')⟩).bM (fun _ e=>hH.none e)) hnx (fun k h1 h2 hk=>hlo k h1 h2 hk) fun hh=>⟨f',l',rfl,of5.bM (fun _ e=>hH.none e),ol5.bM (fun _ e=>hH.none e),fun k e1 e2=>?_,fun w hw=>⟨fun k e1 e2=>?_,fun k e1 e2=>?_⟩⟩
   ·rcases ap4 k e2 with h|h
    ·exact(of'.nid e1).2.1 h
    ·rcases ap3 k e1 with h' |h'
     ·exact(ol.nid h).2.1 (sK.none h')
     ·exact hap k h' h
   ·rcases ap3 k e1 with h|h
    ·exact thr w hw k e2 (sK.none h)
    ·exact(hys w hw).1 k h e2
   ·rcases ap4 k e1 with h|h
    ·by_cases h1:k=id1
     ·subst h1;rw[e1']at h;cases h
     ·have:=kk3 k (thr w hw k e2) h1 (fun e=>(hys w hw).1 k e e2)
      rw[h]at this;exact thr w hw k e2 this.symm
    ·exact(hys w hw).2 k h e2
  have k3' :(o.kind==3)=false:=by simp[p3]
  simp only[go_sem,k3']
  by_cases p4:o.kind=4
  ·have k4' :(o.kind==4)=true:=by simp[p4]
   simp only[go_sem,k4'];have hth:=zB p0 (.inr p4);have hlt:=jP hth;obtain⟨j,ej⟩:∃j,findD s.cases o.case=j:=⟨_,rfl⟩;have hj:j<s.cases.length:=by rw[←ej];exact hlt
   have hjx:j<xs.length:=adK;rw[ej]at hi0;subst hi0;obtain⟨f,l,ex,of,ol,hap,hys⟩:=hmy hjx hj;obtain⟨id1,hg1,o1⟩:=w1.ow agD;have o1' :=o1;obtain⟨cap,rest,ey,hid,hrl,hcap,hsz⟩:=o1';have lA:i0*5=(au (xs.take i0)).length:=aeP;have hidK:K id1=some (.obj (au (xs.take i0)++(cg s.cases[i0] f l++(au (xs.drop (i0+1))++rest))) 122):=by
    rw[sK _ _ hid,Cn hjx,ex];simp[cg,AV.cells]
   have n14:id1≠i4:=hz4 id1 hg1;have n13:id1≠i3:=fun e=>by rw[e,g3]at hg1;cases hg1
   have n15:id1≠i5:=fun e=>o1.none (by rw[e];exact h5)
   have nf4:∀k,nid f=some k→k≠i3∧k≠i4∧k≠i5∧k≠id1:=fun k e=>⟨(fun e' =>agx),hz4 k (of.nid e).1,hz5 k (of.nid e).1 (of.nid e).2.1,fun e' =>(hys z1 adR).1 k e ahf⟩
   have nl4:∀k,nid l=some k→k≠i3∧k≠i4∧k≠i5∧k≠id1:=fun k e=>⟨(fun e' =>agy),hz4 k (ol.nid e).1,hz5 k (ol.nid e).1 (ol.nid e).2.1,fun e' =>(hys z1 adR).2 k e ahf⟩
   have hff:=hf.fields _ (adF hj);have hfl:=hf.log _ (adF hj);rw[ej];simp only[go_sem,k5,k3];refine(o1.sub sK).idx (U:=U) (e:=122) i0 rfl hjx oe adO ?_;simp only[go_sem,hidK];have e2:List.take (i0*5+2) (au (xs.take i0)++(cg s.cases[i0] f l++(au (xs.drop (i0+1))++rest)))++ [.s o.to]++List.drop (i0*5+2+1) (au (xs.take i0)++(cg s.cases[i0] f l++(au (xs.drop (i0+1))++rest)))=au (xs.take i0)++(cg {s.cases[i0]with state:=o.to} f l++(au (xs.drop (i0+1))++rest)):=by
    have:=pL (A:=au (xs.take i0)++ [.s s.cases[i0].id,.s s.cases[i0].owner]) (B:=[.s s.cases[i0].state]) (C:=f::l::(au (xs.drop (i0+1))++rest)) (X:=[.s o.to]) (k:=i0*5+2) (m:=1) (by rw[lA];simp) rfl rfl
    exact ajE
   rw[e2];obtain⟨K3,eK3⟩:∃K3,upd K id1 (some (.obj (au (xs.take i0)++(cg {s.cases[i0]with state:=o.to} f l++(au (xs.drop (i0+1))++rest))) 122))=K3:=⟨_,rfl⟩
   rw[eK3];refine⟨by simp only[adE,←lA,cg,List.length_cons,List.length_nil];omega,?_⟩
   have e1' :K3 id1=some (.obj (au (xs.take i0)++(cg {s.cases[i0]with state:=o.to} f l++(au (xs.drop (i0+1))++rest))) 122):=by rw[←eK3,ah]
   have fr3:∀k,K k≠none→k≠id1→nid f≠some k→K3 k=K k:=fun k _ hk _=>by rw[←eK3,ag _ _ hk]
   have ap3:∀k,nid f=some k→K k=none∨nid f=some k:=fun k hk=> .inr hk
   have kk3:∀k,H1 k≠none→k≠id1→nid f≠some k→K3 k=H1 k:=fun k a b c=>(fr3 k (by rw[kK k a];exact a) b c).trans (kK k a)
   have m3:K3 i3=_:=(fr3 i3 (by rw[k3];simp) n13.symm fun e=>(nf4 _ e).1 rfl).trans k3
   have m4:K3 i4=_:=(fr3 i4 (by rw[k4];simp) n14.symm fun e=>(nf4 _ e).2.1 rfl).trans k4
   have m5:K3 i5=_:=(fr3 i5 (by rw[k5];simp) n15.symm fun e=>(nf4 _ e).2.2.1 rfl).trans k5
   obtain⟨f',of',ef'⟩:∃f',OwE 201 H K3 4 f' (s.cases[i0].fields.map bO)∧f=f' :=⟨f,of.keep fun k e=>by rw[←eK3,ag _ _ (nf4 k e).2.2.2,kK k (of.nid e).2.1],rfl⟩
   rw[ef']at e1';replace ap3:∀k,nid f' =some k→K k=none∨nid f=some k:=by rw[←ef'];exact ap3
   have sH3:Ab.Sub H K3:=fun k b hk=>aes
   have ol3:OwE 191 H K3 3 l (s.cases[i0].log.map iQ):=ol.keep fun k e=>kk3 k (ol.nid e).2.1 (nl4 k e).2.2.2 (fun e1=>hap k e1 e)
   have hX5:∀y1 y2:AV,Sized 5 (xs.set i0 (.agg (cg ({s.cases[i0]with state:=o.to}:aL) y1 y2))):=fun y1 y2 z hz=>by
    exact aiB
   have mkO:∀ {G:Heap} {y1 y2:AV},G id1=some (.obj (au (xs.take i0)++(cg ({s.cases[i0]with state:=o.to}:aL) y1 y2++(au (xs.drop (i0+1))++rest))) 122)→Ow 122 G 5 id1 z1 (xs.set i0 (.agg (cg ({s.cases[i0]with state:=o.to}:aL) y1 y2))):=fun {G y1 y2} hG=>⟨cap,rest,af0,by rw[hG,tO hjx];simp[AV.cells],agV,afT,hX5 _ _⟩
   have hjs:∀x:AV,i0<(xs.set i0 x).length:=fun x=>by rw[List.length_set];exact hjx
   refine .calls (pick K3 [i3,i5]) [0,1,2,3,4,5,6,7,8,9] bA adN rfl ?_;simp only[go_sem,bD (show i5∈ [i3,i5] by simp),m3,m5]
   refine(mkO e1').idx (U:=U) (e:=122) i0 rfl (hjs _) oe adO ?_;simp only[go_sem,bD (show i3∈ [i3,i5] by simp),m3,m5]
   have hha:=sJ (h0:=H) (h:=K3) (s:=s) z1 z2 z3 z4 (k:=id1) (c:=({s.cases[i0]with state:=o.to}:aL)) (f:=f') (l:=l) lA e1' adO ol3 sH3 hfl o.subj o.to
   rw[hpp,hcC]at hha;simp only[List.cons_append,List.nil_append]at hha;refine hha.mono fun r K4 ⟨l',ol',e1'',fr4,ap4⟩=>?_
   have m3' :K4 i3=_:=(fr4 i3 (by rw[m3];simp) n13.symm fun e=>(nl4 _ e).1 rfl).trans m3
   have m4' :K4 i4=_:=(fr4 i4 (by rw[m4];simp) n14.symm fun e=>(nl4 _ e).2.1 rfl).trans m4
   have m5' :K4 i5=_:=(fr4 i5 (by rw[m5];simp) n15.symm fun e=>(nl4 _ e).2.2.1 rfl).trans m5
   refine⟨iT fun k hk=>?_,?_⟩
   ·simp only[List.mem_cons,List.not_mem_nil,or_false]at hk
    rcases hk with rfl|rfl
    ·rw[m3',m3]
    ·rw[m5',m5]
   simp only[go_sem];simp only[go_sem,m5',m4'];obtain⟨K5,eK5⟩:∃K5,upd K4 i4 (some (.obj [.v (.int .i64 s.tick),z1,z2,z3,z4,.s pid,.v (.bool pset),.v (.int .i64 palg),aV ptgt,.sl (prules.map aC) .no,.sl (pkids.map aM) .no,aA pobls,.v (.int .i64 s.version)] 63))=K5:=⟨_,rfl⟩;rw[eK5];have o5:∀k,k≠i4→K5 k=K4 k:=fun k a=>by rw[←eK5,ag _ _ a]
   have kk5:∀k,H k=none→H1 k≠none→k≠id1→nid f≠some k→nid l≠some k→K5 k=H1 k:=fun k a b c d e=>by
    exact ajJ
   have of5:OwE 201 H K5 4 f' _:=of'.keep fun id e=>by
    exact aif
   have ol5:OwE 191 H K5 3 l' _:=ol'.keep fun id e=>o5 id (hz4 id (ol'.nid e).1)
   have sg4:Ab.Sub g K4:=fun k b hk=>by
    exact aiK
   have sg5:Ab.Sub g K5:=by rw[←eK5];exact sg4.put h4' _
   have n1' :nid z1=some id1:=o1.nid;have hdo:doD aR s o= {s with cases:=s.cases.modify i0 fun c=>jA s {c with state:=o.to} o.subj o.to}:=by simp[doD,p4,ej]
   refine .mk _ (.refl _) (.refl _) ⟨sg5,_,?_,fun _=>rfl⟩
   rw[hdo];have thr:∀w∈ [z1,z2,z3,z4],∀k,nid w=some k→H1 k≠none:=fun w hw k e=>by
    exact aiH
   refine pR rfl hpp rfl ?_ ((w2.keep fun id e=>kk5 id (w2.nid e).1 (w2.nid e).2.1 (fun e1=>a12 id1 n1' agu) (fun e1=>(hys z2 adR).1 id e1 e) (fun e1=>(hys z2 adR).2 id e1 e)).bM fun _ e=>hH.none e) ((w3.keep fun id e=>kk5 id (w3.nid e).1 (w3.nid e).2.1 (fun e1=>a13 id1 n1' agu) (fun e1=>(hys z3 adR).1 id e1 e) (fun e1=>(hys z3 adR).2 id e1 e)).bM fun _ e=>hH.none e) ((w4.keep fun id e=>kk5 id (w4.nid e).1 (w4.nid e).2.1 (fun e1=>a14 id1 n1' agu) (fun e1=>(hys z4 adR).1 id e1 e) (fun e1=>(hys z4 adR).2 id e1 e)).bM fun _ e=>hH.none e) ⟨a12,a13,a14,a23,a24,a34⟩
   refine CG (X:=.agg (cg ({s.cases[i0]with state:=o.to}:aL) f' l')) ((show OwE 122 H K5 5 z1 _ from .inr ⟨id1,hg1,mkO ((o5 id1 n14).trans e1'')⟩).bM (fun _ e=>hH.none e)) hnx (fun k h1 h2 hk=>hlo k h1 h2 hk) fun hh=>⟨f',l',rfl,of5.bM (fun _ e=>hH.none e),ol5.bM (fun _ e=>hH.none e),fun k e1 e2=>?_,fun w hw=>⟨fun k e1 e2=>?_,fun k e1 e2=>?_⟩⟩
   ·rcases ap4 k e2 with h|h
    ·exact(of'.nid e1).2.1 h
    ·rcases ap3 k e1 with h' |h'
     ·exact(ol.nid h).2.1 (sK.none h')
     ·exact hap k h' h
   ·rcases ap3 k e1 with h|h
    ·exact thr w hw k e2 (sK.none h)
    ·exact(hys w hw).1 k h e2
   ·rcases ap4 k e1 with h|h
    ·by_cases h1:k=id1
     ·subst h1;rw[e1']at h;cases h
     ·have:=kk3 k (thr w hw k e2) h1 (fun e=>(hys w hw).1 k e e2)
      rw[h]at this;exact thr w hw k e2 this.symm
    ·exact(hys w hw).2 k h e2
  have k4' :(o.kind==4)=false:=by simp[p4]
  simp only[go_sem,k4'];have kkK:∀k,H k=none→H1 k≠none→K k=H1 k:=fun k _ b=>kK k b
  by_cases p5:o.kind=5
  ·have k5' :(o.kind==5)=true:=by simp[p5]
   simp only[go_sem,k5'];have hrv:0<o.review:=by
    simp only[cB,dj,Bool.and_eq_true]at hform;simpa[okD,p5]using hform.2.1.2
   obtain⟨n,en⟩:∃n:Nat,o.review=((n:Nat):Int)+1:=⟨(o.review - 1).toNat,adK⟩;have w5:IntKind.i64.wrap (o.review - 1)=((n:Nat):Int):=by rw[bh _ (by have:=hr.2;omega)];omega
   have hn5:n<s.reviews.length:=by
    have:fS s o=0:=by simpa[bN,hform,p5]using p0
    unfold fS at this;have e1:wX s.reviews o.review=s.reviews[n]? :=by unfold wX;rw[if_pos adK,show(o.review - 1).toNat=n by omega]
    rw[e1]at this
    by_cases hlt:n<s.reviews.length
    ·exact hlt
    ·rw[List.getElem?_eq_none adK]at this;cases this
   have hnm:n<(s.reviews.map iU).length:=by simpa using hn5
   obtain⟨id2,hg2,o2⟩:=w2.ow (by intro e;rw[e]at hnm;cases hnm)
   have o2' :=o2;obtain⟨cap,rest,ey,hid,hrl,hcap,hsz⟩:=o2';have n24:id2≠i4:=hz4 id2 hg2;have n25:id2≠i5:=hz5 id2 hg2 o2.none;have hidK:=sK _ _ hid;simp only[go_sem,k5,k3,w5];refine(o2.sub sK).idx (U:=U) (e:=135) n rfl hnm adU adO ?_;simp only[go_sem,hidK];have e2:List.take (n*7+6) (au (s.reviews.map iU)++rest)++ [.v (.bool false)]++List.drop (n*7+6+1) (au (s.reviews.map iU)++rest)=au ((s.reviews.modify n fun r=> {r with isOpen:=false}).map iU)++rest:=by
    refine(lJ hsz n hnm 6 [.v (.bool false)] (adz rfl)).trans ?_
    congr 2
    refine List.ext_getElem adR fun j h1 h2=>?_
    by_cases e:j=n
    ·subst e;simp[iU,AV.cells,Ab.over]
    ·rw[List.getElem_set_ne (Ne.symm e)];simp[Ne.symm e]
   rw[e2];refine⟨by rw[adE,aZ hsz];omega,?_⟩
   have k5b:∀b,upd K id2 b i5=_:=fun b=>(ag _ _ n25.symm).trans k5
   have k4b:∀b,upd K id2 b i4=_:=fun b=>(ag _ _ n24.symm).trans k4
   simp only[go_sem,k5b,k4b];have hdo:doD aR s o= {s with reviews:=s.reviews.modify n fun r=> {r with isOpen:=false}}:=by simp[doD,p5,en]
   have kz:∀a b k,H k=none→H1 k≠none→nid z2≠some k→upd (upd K id2 a) i4 b k=H1 k:=fun a b k c d e=>by rw[ag _ _ (hz4 k c),ag _ _ (fun e' =>e (by rw[e'];exact o2.nid)),kK k d]
   refine .mk _ (.refl _) (.refl _) ⟨(Sub.put (i:=id2) sg (hH.none hg2) _).put h4' _,_,?_,fun _=>hi0⟩
   rw[hdo];exact pR rfl hpp rfl ((hC.keepx (z:=z2) adR a12 (kz _ _)).bM (fun _ e=>hH.none e)) (.inr ⟨id2,hH.none hg2,cap,rest,by rw[ey];simp,by rw[ag _ _ n24,ah],by rw[hrl];simp,by simpa using hcap,bx (f:=iU) (n:=7) (fun _=>rfl) _⟩) ((w3.keep fun id e=>kz _ _ id (w3.nid e).1 (w3.nid e).2.1 fun e1=>a23 id e1 e).bM fun _ e=>hH.none e) ((w4.keep fun id e=>kz _ _ id (w4.nid e).1 (w4.nid e).2.1 fun e1=>a24 id e1 e).bM fun _ e=>hH.none e) ⟨a12,a13,a14,a23,a24,a34⟩
  have k5' :(o.kind==5)=false:=by simp[p5]
  simp only[go_sem,k5']
  by_cases p6:o.kind=6
  ·have k6' :(o.kind==6)=true:=by simp[p6]
   simp only[go_sem,k6'];simp only[go_sem,k5,k3];have hha6:=Gd hSK.rd o.case o.field (Nat.le_trans hf.roles adO);rw[hpp,hcC]at hha6;simp only[List.cons_append,List.nil_append]at hha6;refine hha6.pthen ?_;cases dha:yG s.roles ⟨o.case,o.field⟩
   ·simp only[go_sem]
    simp only[go_sem,k5,k3];have hap1:Rd K 2 (.sl [eJ ⟨o.case,o.field⟩] .full) [eJ ⟨o.case,o.field⟩]:=.sl aew .full;have hfr:=hf.roles;refine OwE.app (U:=U) (tb:=141) (w4.sub sK) (s1.trans sK) hap1 adU adO adP adU adR aei fun id4 y' K3 g4' hor hw ho2=>?_
    have hor' :K id4=none∨nid z4=some id4:=by
     exact aiu
    have n44:i4≠id4:=fun e=>by rw[←e,g4]at g4';cases g4'
    have n45:i5≠id4:=fun e=>by
     rcases hor' with hor|hor
     ·rw[←e,k5]at hor;cases hor
     ·exact(w4.nid hor).2.1 (by rw[←e];exact h5)
    have m4:K3 i4=_:=(ho2 i4 n44).trans k4;have m5:K3 i5=_:=(ho2 i5 n45).trans k5;simp only[go_sem,m5,hw.rd.fit,hw.rd.cells];simp only[go_sem,ak,n54,m4];have hdo:doD aR s o= {s with roles:=s.roles++ [⟨o.case,o.field⟩]}:=by simp[doD,p6,dha]
    have gid4:g id4=none:=hH.none g4';have kz:∀a b k,H k=none→H1 k≠none→nid z4≠some k→upd (upd K3 i5 a) i4 b k=H1 k:=fun a b k c d e=>by
     have:k≠id4:=fun e' =>by
      rcases hor' with hor|hor
      ·have:=kK k d;rw[e',hor]at this;exact d (by rw[e'];exact this.symm)
      ·exact e (by rw[e'];exact hor)
     rw[ag _ _ (hz4 k c),ag _ _ (hz5 k c d),ho2 k this,kK k d]
    have sg3:Ab.Sub g K3:=fun k b hk=>by rw[ho2 k (fun e=>by rw[e,gid4]at hk;cases hk)];exact sg _ _ hk
    refine .mk _ (.refl _) (.refl _) ⟨(sg3.put g5 _).put h4' _,_,?_,fun _=>hi0⟩
    rw[hdo];have hw' :OwE 141 g K3 2 y' ((s.roles++ [(⟨o.case,o.field⟩:ij)]).map eJ):=by rw[List.map_append];exact .inr ⟨id4,gid4,hw⟩
    have hry:∀k,nid y' =some k→H1 k=none∨nid z4=some k:=fun k e=>by
     have:id4=k:=by have:=hw.nid;rw[e]at this;exact(Option.some.inj this).symm
     subst this;exact hor'.imp (fun h=>sK.none h) id
    have har:∀ {w:AV},apart w z4→(∀k,nid w=some k→H1 k≠none)→apart w y' :=fun ha hh k e1 e2=>(hry k e2).elim (fun h=>hh k e1 h) (fun h=>ha k e1 h)
    refine pR rfl hpp rfl ((hC.move (z:=z4) adR a14 (kz _ _) fun w hw k e=>?_).bM (fun _ e=>hH.none e)) ((w2.keep fun id e=>kz _ _ id (w2.nid e).1 (w2.nid e).2.1 fun e1=>a24 id e e1).bM fun _ e=>hH.none e) ((w3.keep fun id e=>kz _ _ id (w3.nid e).1 (w3.nid e).2.1 fun e1=>a34 id e e1).bM fun _ e=>hH.none e) (hw'.keep fun id e=>?_) ⟨a12,a13,har a14 fun k e=>(w1.nid e).2.1,a23,har a24 fun k e=>(w2.nid e).2.1,har a34 fun k e=>(w3.nid e).2.1⟩
    ·simp only[List.mem_cons,List.not_mem_nil,or_false]at hw
     rcases hw with rfl|rfl|rfl|rfl
     ·exact .inr ⟨w,adR,e⟩
     ·exact .inr ⟨w,adR,e⟩
     ·exact .inr ⟨w,adR,e⟩
     ·exact(hry k e).imp id fun h=>⟨z4,adR,h⟩
    ·have:id=id4:=by have:=hw.nid;rw[e]at this;exact Option.some.inj this
     rw[this,ag _ _ n44.symm,ag _ _ n45.symm]
   ·simp only[go_sem]
    simp only[go_sem,k5,k4];have hdo:doD aR s o=s:=by simp[doD,p6,dha]
    rw[hdo];refine .mk _ (.refl _) (.refl _) ⟨sg.put h4' _,_,(hS.keepb fun k hk hk1=>?_).bM fun _ e=>hH.none e,fun _=>hi0⟩
    rw[ag _ _ (hz4 k hk),kK k hk1]
  have k6' :(o.kind==6)=false:=by simp[p6]
  simp only[go_sem,k6']
  by_cases p7:o.kind=7
  ·have k7' :(o.kind==7)=true:=by simp[p7]
   simp only[go_sem,k7'];simp only[go_sem,k3];refine(zl o.text _ (he.sub sg)).pthen ?_;obtain⟨⟨pp,e,a⟩,epp⟩:∃x,aR o.text=x:=⟨_,rfl⟩;obtain⟨qid,qset,qalg,qtgt,qrules,qkids,qobls⟩:=pp;rw[epp];simp only[go_sem,j5,aM,aY];intro i9 h9;have n95:i5≠i9:=fun e=>by rw[←e,k5]at h9;cases h9
   have n94:i4≠i9:=fun e=>by rw[←e,k4]at h9;cases h9
   simp only[go_sem];have g9:g i9=none:=sg.none h9;have sg9:∀b,Ab.Sub g (upd K i9 b):=fun b=>sg.put g9 b
   have hz9:∀k,H1 k≠none→k≠i9:=fun k hk e=>hk (by have:=kK k hk;rw[e,h9]at this;rw[e];exact this.symm)
   by_cases pe:e=0
   ·have de:(e==0)=true:=by simp[pe]
    have wv:IntKind.i64.wrap (s.version+1)=s.version+1:=bh _ adK;simp only[go_sem,de];simp only[go_sem,ak,n95,n94,n54,k5,k4,wv];have hdo:doD aR s o= {s with policy:=.mk qid qset qalg qtgt qrules qkids qobls,version:=s.version+1}:=by simp[doD,p7,epp,pe]
    have kz:∀a b c k,H k=none→H1 k≠none→upd (upd (upd K i9 a) i5 b) i4 c k=H1 k:=fun a b c k d e=>by rw[ag _ _ (hz4 k d),ag _ _ (hz5 k d e),ag _ _ (hz9 k e),kK k e]
    refine .mk _ (.refl _) (.refl _) ⟨((sg9 _).put g5 _).put h4' _,_,?_,fun _=>hi0⟩
    rw[hdo];exact pR rfl rfl rfl ((hC.keepb (kz _ _ _)).bM (fun _ e=>hH.none e)) ((w2.keepb (kz _ _ _)).bM (fun _ e=>hH.none e)) ((w3.keepb (kz _ _ _)).bM (fun _ e=>hH.none e)) ((w4.keepb (kz _ _ _)).bM (fun _ e=>hH.none e)) ⟨a12,a13,a14,a23,a24,a34⟩
   ·have de:(e==0)=false:=by simp[pe]
    simp only[go_sem,de];simp only[go_sem,ak,n95,n94,k5,k4];have hdo:doD aR s o=s:=by simp[doD,p7,epp,pe]
    rw[hdo];refine .mk _ (.refl _) (.refl _) ⟨(sg9 _).put h4' _,_,(hS.keepb fun k hk hk1=>?_).bM fun _ e=>hH.none e,fun _=>hi0⟩
    rw[ag _ _ (hz4 k hk),ag _ _ (hz9 k hk1),kK k hk1]
  have k7' :(o.kind==7)=false:=by simp[p7]
  simp only[go_sem,k7']
  by_cases p8:o.kind=8
  ·have k8' :(o.kind==8)=true:=by simp[p8]
   simp only[go_sem,k8'];have hrv:0<o.review∧o.review≤1099511627776:=by
    simp only[cB,dj,Bool.and_eq_true]at hform;simpa[okD,p8]using hform.2.1.2
   have htk:¬s.tick>1099511627776 - o.review:=by
    intro hgt;simp[bN,hform,p8,hgt]at p0
   have w8:IntKind.i64.wrap (s.tick+o.review)=s.tick+o.review:=bh _ (by have:=ht.1;omega)
   simp only[go_sem,k5,k3,w8];simp only[go_sem,ak,n54,k4];have hdo:doD aR s o= {s with tick:=s.tick+o.review}:=by simp[doD,p8]
   have kz:∀a b k,H k=none→H1 k≠none→upd (upd K i5 a) i4 b k=H1 k:=fun a b k c d=>by rw[ag _ _ (hz4 k c),ag _ _ (hz5 k c d),kK k d]
   refine .mk _ (.refl _) (.refl _) ⟨(sg.put g5 _).put h4' _,_,?_,fun _=>hi0⟩
   rw[hdo];exact pR rfl hpp rfl ((hC.keepb (kz _ _)).bM (fun _ e=>hH.none e)) ((w2.keepb (kz _ _)).bM (fun _ e=>hH.none e)) ((w3.keepb (kz _ _)).bM (fun _ e=>hH.none e)) ((w4.keepb (kz _ _)).bM (fun _ e=>hH.none e)) ⟨a12,a13,a14,a23,a24,a34⟩
  have k8' :(o.kind==8)=false:=by simp[p8]
  simp only[go_sem,k8'];simp only[go_sem,k5,k4];have hdo:doD aR s o=s:=by simp[doD,p1,p3,p4,p5,p6,p7,p8]
  rw[hdo];refine .mk _ (.refl _) (.refl _) ⟨sg.put h4' _,_,(hS.keepb fun k hk hk1=>?_).bM fun _ e=>hH.none e,fun _=>hi0⟩
  rw[ag _ _ (hz4 k hk),kK k hk1]
 ·have d0:(bN s o !=0)=true:=by simp[p0]
  simp only[go_sem,d0];simp only[go_sem,k5,k4];have hdone:dR aR s o=s:=by simp[dR,p0]
  rw[hdone];refine .mk _ (.refl _) (.refl _) ⟨sg.put h4' _,_,(hS.keepb fun k hk hk1=>?_).bM fun _ e=>hH.none e,fun h=>(p0 h).elim⟩
  rw[ag _ _ (hz4 k hk),kK k hk1]
end Go.Proofs.YtfdgemhnlennbaaGreatDoor
namespace Go.Bf
def Mu:Txt:=[112,111,108,105,99,121,32,111,112,101,110,32,112,101,114,109,105,116,117,110,108,101,115,115,32,123,32,125]
def l8:bJ:=.mk jN false 6 [] [] [] []
def zf:aq:=⟨0,[],[],[],[],l8,0⟩
end Go.Bf
namespace Go.Proofs.YtfdgemhnlennbaaGreatDoor
open Go Go.Ab Go.Bf
theorem OQ{g K:Heap}{S:aq}{y1 y2 y3 y4:AV}{tk ver palg:Int}{pid:Txt}{pset:Bool}{ptgt:gj}{prules:List cR}{pkids:List bJ}{pobls:List cC}(h1:S.tick=tk)(h2:S.policy= .mk pid pset palg ptgt prules pkids pobls)(h3:S.version=ver)
  (a:Frz g K y1 (gm S.cases)) (b:Frz g K y2 (kE S.reviews)) (c:Frz g K y3 (lH S.notices)) (d:Frz g K y4 (dZ S.roles)):
  Frz g K (.agg [.i tk,y1,y2,y3,y4,.s pid,.b pset,.i palg,aV ptgt,.sl (prules.map aC) .no,.sl (pkids.map aM) .no,aA pobls,.i ver]) (cO S):=by
 have:=vg a b c d;rw[h1,h2,h3,show gb (.mk pid pset palg ptgt prules pkids pobls)= [.s pid,.b pset,.i palg,aV ptgt,.sl (prules.map aC) .no,.sl (pkids.map aM) .no,aA pobls] by simp[gb,aY]]at this
 exact aer
theorem KQ{H:Heap}{i j:Nat}{a b:Option Blk}(c:Option Blk)(h:i≠j):upd (upd (upd H i a) j b) i c=upd (upd H i c) j b:=by
 grind [ah,ag]
theorem Mv:aR Mu=(l8,0,0):=adV
theorem SG(h:Heap)(he:ja h):ai Tryz.prog 17 [] h fun r h' =>r=cO zf∧h' =h:=
 ai.freeze fun g hg _=>by
 replace he:=he.sub hg;refine adJ Tryz.func17 11 [.cell 0 63] fun hwf=>?_
 simp only[go_sem];intro i1 h1;simp only[go_sem];refine(zl Mu _ (he.sub (.aj h1))).pthen ?_;rw[Mv];simp only[go_sem,j5,l8,aM,aV,aA,fH,jN,List.map_nil];intro i2 h2;have n21:=aH h2;have n2:=aB h2;simp only[go_sem,ak,n21.symm];refine .mk _ (.refl _) (.refl _) ⟨?_,cO zf,OQ (S:=zf) rfl rfl rfl mG mG mG mG,rfl⟩;rw[KQ _ n21.symm];exact((Sub.refl g).put h1 _).put n2 _
theorem sn(s:Txt)(h:Heap):ai Tryz.prog 106 [.s s] h fun r h' =>r=aP (idV s)∧h' =h:=by
 refine adJ Tryz.func106 5 [.cell 2 33] fun hwf=>?_
 exact ajo
theorem dO(cat:Int)(name:Txt)(xs:List AV)(q:Perm)(h:Heap):ai Tryz.prog 107 [.i cat,.s name,.sl xs q] h fun r h' =>r= .agg [.i cat,.s name,.sl xs q]∧h' =h:=by
 refine adJ Tryz.func107 11 [.cell 6 182] fun hwf=>?_
 exact ajo
theorem Mf{α:Type}(y:AV)(xs:List AV)(ds:List α)(q:α→Bool)(g:FuncId)(cap:List AV)(h:Heap)(hb:Rd h 3 y xs)(hn:xs.length=ds.length)(hl:xs.length≤1000000000)(hx:∀x∈xs,bC x=true)
  (hp:∀i (h1:i<xs.length) (h2:i<ds.length),ai Tryz.prog g (xs[i]::cap) h fun r h' =>r= .b (q ds[i])∧h' =h):
  ai Tryz.prog 249 [y,.fn g cap] h fun r h' =>r= .i (ixD q ds)∧h' =h:=by
 refine adJ Tryz.func249 19 [.tmp 4] fun hwf=>?_
 simp only[go_sem,hb.len];refine .intro (fun m ρ h' =>h' =h∧∃i:Nat,i≤xs.length∧m=xs.length - i∧(∀j (hj:j<i) (h2:j<ds.length),q ds[j]=false)∧lk ρ 0=some y∧lk ρ 1=some (.fn g cap)∧lk ρ 7=some (.i xs.length)∧lk ρ 8=some (.i i)) xs.length ?_ ?_
 ·refine⟨rfl,0,adK,rfl,fun j hj=>adK,?_,?_,?_,?_⟩<;>simp only[go_sem]
 ·rintro m ρ h' ⟨rfl,i,hi,rfl,hc,r0,r1,r7,r8⟩
  simp only[go_sem,r7,r8];refine .intro (fun e=>?_) (fun e=>?_)
  ·have hlt:i<xs.length:=adH e
   have hlt2:i<ds.length:=adK;have w1:IntKind.i64.wrap ((i:Int)+1)=((i+1:Nat):Int):=adY;simp only[go_sem,r0,r1,r8];refine hb.idx (e:=191) i rfl hlt adV adO fun p hp1=>?_
   have hld:=hp1.all (U:=U) (ty:=191) adO aeE afz;simp only[go_sem,hld];refine(show ai Tryz.prog g (xs[i]::cap) _ _ from hp i hlt hlt2).pthen ?_
   cases d1:q ds[i]
   ·simp only[go_sem,r8,w1]
    refine⟨_,?_,rfl,i+1,adK,rfl,fun j hj h2=>?_,?_,?_,?_,?_⟩
    ·omega
    ·grind
    all_goals simp only[go_sem,r0,r1,r7]
   ·simp only[go_sem]
    exact .same (.refl _) ⟨aet,rfl⟩
  ·have hge:i=xs.length:=by grind
   simp only[go_sem];exact .same (.refl _) ⟨aee,rfl⟩
theorem NJ{h:Heap}(x:xR){k:Nat}{subj:Txt}(hk:h k=some (.obj [.s subj] 9)):ai Tryz.prog 212 [iQ x,.ptr k 0] h fun r h' =>r= .b (x.actor==subj)∧h' =h:=by
 refine adJ Tryz.func212 8 [.tmp 3] fun hwf=>?_
 simp only[go_sem,iQ];exact aia
theorem uX{α:Type}(q:α→Bool)(l:List α):decide ((0:Int)≤ixD q l)=l.any q:=by
 unfold ixD
 grind
theorem JO(y:AV)(ds:List xR)(q:xR→Bool)(g:FuncId)(cap:List AV)(h:Heap)(hb:Rd h 3 y (ds.map iQ))(hl:ds.length≤1000000000)
  (hp:∀i (h2:i<ds.length),ai Tryz.prog g (iQ ds[i]::cap) h fun r h' =>r= .b (q ds[i])∧h' =h):
  ai Tryz.prog 211 [y,.fn g cap] h fun r h' =>r= .b (ds.any q)∧h' =h:=by
 refine adJ Tryz.func211 9 [.tmp 4] fun hwf=>?_
 simp only[go_sem];refine(Mf y _ ds q g cap h hb adR adL (o7 (fun _=>rfl) _) fun i a b=>by rw[adB];exact hp i b).pthen ?_
 simp only[go_sem,uX];exact adT
theorem Qa{h:Heap}{x:AV}{c:aL}(hb:RdC h x c)(subj:Txt)(hl:c.log.length≤1000000000):ai Tryz.prog 165 [x,.s subj] h fun r h' =>r=aP (uJ c.log subj)∧h' =h:=by
 obtain⟨f,l,rfl,hf,hlg⟩:=hb;refine adJ Tryz.func165 13 [.cell 4 33] fun hwf=>?_
 simp only[go_sem];intro i1 h1;simp only[go_sem];intro i2 h2;have n21:=aH h2;have n2:=aB h2;simp only[go_sem];intro i3 h3;have h3' :=aB h3;have n31:=aH h3';have n3:=aB h3';simp only[go_sem];intro i4 h4;have n43:=aH h4;have h4' :=aB h4;have h4'' :=aB h4';have n41:=aH h4'';have n4:=aB h4'';have hs:∀a b d e,Ab.Sub h (upd (upd (upd (upd h i1 a) i2 b) i3 d) i4 e):=fun a b d e=>((((Sub.refl h).put h1 a).put n2 b).put n3 d).put n4 e
 simp only[go_sem,ak,n21.symm,n31.symm,n41.symm];refine(JO l c.log (fun x=>x.actor==subj) _ [.ptr i2 0] _ (hlg.sub (hs _ _ _ _)) hl fun i b=>NJ _ (by grind [ak,gq,not_false_eq_true])).pthen ?_
 cases d1:c.log.any fun x=>x.actor==subj
 ·exact ai3
 ·exact ai3
def Aj(g:bp)(q:Perm):AV:=.agg [.i g.cat,.s g.name,.sl (g.bag.map aP) q]
def GRow(ys:List AV)(gs:List bp):Prop:=ys.length=gs.length∧∀j (h1:j<ys.length) (h2:j<gs.length),∃q,ys[j]=Aj gs[j] q
theorem GRow.sized{ys:List AV}{gs:List bp}(h:GRow ys gs):Sized 3 ys:=fun z hz=>by
 obtain⟨i,hi,rfl⟩:=List.mem_iff_getElem.1 hz;obtain⟨q,e⟩:=h.2 i hi (by rw[←h.1];omega)
 rw[e];rfl
theorem GRow.one(g:bp)(q:Perm):GRow [Aj g q] [g]:=⟨rfl,fun j h1 h2=>by
 grind⟩
theorem GRow.app{ys zs:List AV}{gs ks:List bp}(h:GRow ys gs)(k:GRow zs ks):GRow (ys++zs) (gs++ks):=⟨by simp[h.1,k.1],fun j h1 h2=>by
 have hl:=h.1
 by_cases e:j<ys.length
 ·rw[List.getElem_append_left e,List.getElem_append_left adK];exact h.2 j e adK
 ·rw[List.getElem_append_right adK,List.getElem_append_right adK]
  simp only[adE]at h1 h2;obtain⟨q,e'⟩:=k.2 (j - ys.length) adK adK;exact⟨q,adL⟩⟩
theorem GRow.weak{ys:List AV}{gs:List bp}(h:GRow ys gs)(q:Perm):Weak (.sl ys q) (bL gs):=by
 refine .deep _ _ q (by simp[h.1]) (fun k h1 h2=>?_) fun k h1 h2 j h3 h4=>?_
 ·obtain⟨q',e'⟩:=h.2 k h1 adL
  rw[e',adB];rfl
 ·obtain⟨q',e'⟩:=h.2 k h1 adL
  simp only[e',adB];simp only[e',Aj,AV.cells]at h3;rcases j with _|_|_|j
  ·exact ae4
  ·exact ae4
  ·exact agp
  ·simp at h3;omega
theorem GRow.givs(gs:List bp):GRow (gs.map lB) gs:=⟨adR,fun j h1 h2=>⟨.no,ad0⟩⟩
theorem ct:(U 182).sz=3:=adV
theorem fN(g:bp)(q:Perm):Sized 3 [Aj g q]:=fun z hz=>agE
def sM(c:aL)(subj:Txt):List bp:=[⟨3,idT,[idV c.id]⟩,⟨3,[111,119,110,101,114],[idV c.owner]⟩,⟨3,[115,116,97,116,101],[idV c.state]⟩,⟨3,[101,118,101,110,116,115],[⟨2,c.log.length,[]⟩]⟩,⟨3,[116,111,111,107],[uJ c.log subj]⟩]
def sO(c:aL):List bp:=match c.log.getLast? with
 |some x=>[⟨3,[108,97,115,116],[idV x.actor]⟩]
 |none=>[]
def fP(l:List di):List bp:=(l.filter fun f=>decide (f.name.length≤14)).map fun f=>⟨3,[102,95]++f.name,[f.val]⟩
theorem mw(l:List di)(i:Nat)(h:i<l.length):fP (l.take (i+1))=fP (l.take i)++(if l[i].name.length≤14 then [⟨3,[102,95]++l[i].name,[l[i].val]⟩]else []):=by
 grind [fP,List.take_succ_eq_append_getElem]
theorem qB(c:aL)(subj:Txt):cE c subj=sM c subj++sO c++fP c.fields:=rfl
theorem FA{h:Heap}(c:aL)(subj:Txt)(hl:c.log.length≤1000000)(hlf:c.fields.length≤1000000):ai Tryz.prog 108 [cr c,.s subj] h fun r h' =>r=bL (cE c subj)∧h' =h:=by
 refine adJ Tryz.func108 77 [.tmp 4] fun hwf=>?_
 simp only[go_sem,cr,nO,gy,sQ];intro i1 h1;simp only[go_sem];refine .quiet adN ?_;simp only[go_sem];refine⟨_,sn _ _,?_⟩;simp only[go_sem,aP,idV];refine⟨_,dO _ _ _ _ _,?_⟩;simp only[go_sem];refine⟨_,sn _ _,?_⟩;simp only[go_sem,aP,idV];refine⟨_,dO _ _ _ _ _,?_⟩;simp only[go_sem];refine⟨_,sn _ _,?_⟩;simp only[go_sem,aP,idV];refine⟨_,dO _ _ _ _ _,?_⟩;simp only[go_sem];refine⟨_,dO _ _ _ _ _,?_⟩;simp only[go_sem];refine⟨_,Qa (show RdC _ (.agg [.s c.id,.s c.owner,.s c.state,.sl (c.fields.map bO) .no,.sl (c.log.map iQ) .no]) c from rdC _ c) subj adK,?_⟩
 simp only[go_sem,aP];refine⟨_,dO _ _ _ _ _,?_⟩;simp only[go_sem,adA];have hs1:∀b,Ab.Sub h (upd h i1 b):=fun b=>(Sub.refl h).put h1 b
 have hrow5:GRow [.agg [.i 3,.s [105,100],.sl [.agg [.i 5,.i 0,.s c.id]] .full],.agg [.i 3,.s [111,119,110,101,114],.sl [.agg [.i 5,.i 0,.s c.owner]] .full],.agg [.i 3,.s [115,116,97,116,101],.sl [.agg [.i 5,.i 0,.s c.state]] .full],.agg [.i 3,.s [101,118,101,110,116,115],.sl [.agg [.i 2,.i c.log.length,.s []]] .full],.agg [.i 3,.s [116,111,111,107],.sl [aP (uJ c.log subj)] .full]] (sM c subj):=(GRow.one ⟨3,idT,[idV c.id]⟩ .full).app ((GRow.one ⟨3,[111,119,110,101,114],[idV c.owner]⟩ .full).app ((GRow.one ⟨3,[115,116,97,116,101],[idV c.state]⟩ .full).app ((GRow.one ⟨3,[101,118,101,110,116,115],[⟨2,c.log.length,[]⟩]⟩ .full).app (GRow.one ⟨3,[116,111,111,107],[uJ c.log subj]⟩ .full))));simp only[aP]at hrow5;cases d1:decide ((0:Int)<(c.log.length:Int))
 ·have hl0:c.log= []:=List.length_eq_zero_iff.1 adL
  simp only[go_sem];simp only[go_sem,adA];refine .intro (fun m ρ H=>∃(i:Nat) (y:AV) (ys:List AV),Acc U 182 h H y ys∧H i1=some (.obj [.s c.id,.s c.owner,.s c.state,.sl (c.fields.map bO) .no,.sl (c.log.map iQ) .no] 122)∧GRow ys (sM c subj++fP (c.fields.take i))∧i≤c.fields.length∧m=c.fields.length - i∧lk ρ 5=some y∧lk ρ 2=some (.ptr i1 0)∧lk ρ 55=some (.sl (c.fields.map bO) .no)∧lk ρ 56=some (.i c.fields.length)∧lk ρ 57=some (.i i)) c.fields.length ?_ ?_
  ·refine⟨0,_,_,.full (hs1 _),ah ..,(by have:=hrow5;simpa[fP]using this),adK,rfl,?_,?_,?_,?_,?_⟩<;>simp only[go_sem]
  ·rintro m ρ H ⟨i,y,ys,hy,g1,hrow,hi,rfl,r5,r2,r55,r56,r57⟩
   simp only[go_sem,r56,r57];refine .intro (fun e=>?_) (fun e=>?_)
   ·have hlt:i<c.fields.length:=adH e
    have w1:IntKind.i64.wrap ((i:Int)+1)=((i+1:Nat):Int):=adY;simp only[go_sem,r55,r57];refine .at i adL ad0 ?_;simp only[go_sem,adB,bO];intro i8 h8;have n81:i1≠i8:=fun e=>adL
    simp only[go_sem];cases d2:decide ((c.fields[i].name.length:Int)≤14)
    ·exact aie
    ·simp only[go_sem,r5]
     have h14:c.fields[i].name.length≤14:=adL;refine⟨by grind [Nat,lim],?_⟩
     refine(dO _ _ _ _ _).pthen ?_;simp only[go_sem];refine(hy.sub (.aj h8)).app (zs:=[Aj ⟨3,[102,95]++c.fields[i].name,[c.fields[i].val]⟩ .full]) adO adO (fun k hk=>(Rd.sl (fN _ _) .full:Rd _ 3 _ _).src ct hk) (by rw[ct];exact hrow.sized) (by grind [ct,fN]) (by
      have hln:(fP (c.fields.take i)).length≤i:=afP;simp only[go_sem,hrow.1,List.length_cons,List.length_nil,sM];omega) fun y' H' hy' kp=>?_
     exact aiA
   ·have hge:i=c.fields.length:=by grind
    subst hge;rw[List.take_length]at hrow;obtain⟨q,rfl⟩:=hy.row;simp only[go_sem,r5];exact .mk (bL (cE c subj)) (show Weak (.sl ys q) _ by rw[qB,sO,hl0];simpa using hrow.weak q) hy.1 ⟨rfl,rfl⟩
 ·have hl1:0<c.log.length:=by grind
  simp only[go_sem];have w0:IntKind.i64.wrap ((c.log.length:Int) - 1)=((c.log.length - 1:Nat):Int):=adY;simp only[go_sem,w0];refine .at (c.log.length - 1) adL ad0 ?_;simp only[go_sem,adB,iQ];rw[if_neg (fun hh=>hh.1)]
  refine(sn _ _).pthen ?_;simp only[go_sem,aP,idV];refine(dO _ _ _ _ _).pthen ?_;simp only[go_sem];have hgl:c.log.getLast? =some c.log[c.log.length - 1]:=adL;have hlast:GRow [.agg [.i 3,.s [108,97,115,116],.sl [.agg [.i 5,.i 0,.s c.log[c.log.length - 1].actor]] .full]] (sO c):=by
   unfold sO;rw[hgl];exact GRow.one ⟨3,[108,97,115,116],[idV c.log[c.log.length - 1].actor]⟩ .full
  refine .accs (hs1 _) fun y0 H0 hy0 kp0=>?_
  simp only[go_sem,kp0 _ _ _ (ah ..),adA];refine .intro (fun m ρ H=>∃(i:Nat) (y:AV) (ys:List AV),Acc U 182 h H y ys∧H i1=some (.obj [.s c.id,.s c.owner,.s c.state,.sl (c.fields.map bO) .no,.sl (c.log.map iQ) .no] 122)∧GRow ys ((sM c subj++sO c)++fP (c.fields.take i))∧i≤c.fields.length∧m=c.fields.length - i∧lk ρ 5=some y∧lk ρ 2=some (.ptr i1 0)∧lk ρ 55=some (.sl (c.fields.map bO) .no)∧lk ρ 56=some (.i c.fields.length)∧lk ρ 57=some (.i i)) c.fields.length ?_ ?_
  ·refine⟨0,_,_,hy0,kp0 _ _ _ (ah ..),(by have:=hrow5.app hlast;simpa[fP]using this),adK,rfl,?_,?_,?_,?_,?_⟩<;>simp only[go_sem]
  ·rintro m ρ H ⟨i,y,ys,hy,g1,hrow,hi,rfl,r5,r2,r55,r56,r57⟩
   simp only[go_sem,r56,r57];refine .intro (fun e=>?_) (fun e=>?_)
   ·have hlt:i<c.fields.length:=adH e
    have w1:IntKind.i64.wrap ((i:Int)+1)=((i+1:Nat):Int):=adY;simp only[go_sem,r55,r57];refine .at i adL ad0 ?_;simp only[go_sem,adB,bO];intro i8 h8;have n81:i1≠i8:=fun e=>adL
    simp only[go_sem];cases d2:decide ((c.fields[i].name.length:Int)≤14)
    ·exact aie
    ·simp only[go_sem,r5]
     have h14:c.fields[i].name.length≤14:=adL;refine⟨by grind [Nat,lim],?_⟩
     refine(dO _ _ _ _ _).pthen ?_;simp only[go_sem];refine(hy.sub (.aj h8)).app (zs:=[Aj ⟨3,[102,95]++c.fields[i].name,[c.fields[i].val]⟩ .full]) adO adO (fun k hk=>(Rd.sl (fN _ _) .full:Rd _ 3 _ _).src ct hk) (by rw[ct];exact hrow.sized) (by grind [ct,fN]) (by
      have hln:(fP (c.fields.take i)).length≤i:=afP;simp only[go_sem,hrow.1,List.length_cons,List.length_nil,sM,sO,hgl];omega) fun y' H' hy' kp=>?_
     exact aiA
   ·have hge:i=c.fields.length:=by grind
    subst hge;rw[List.take_length]at hrow;obtain⟨q,rfl⟩:=hy.row;simp only[go_sem,r5];exact .mk (bL (cE c subj)) (show Weak (.sl ys q) _ by rw[qB];exact hrow.weak q) hy.1 ⟨rfl,rfl⟩
end Go.Proofs.YtfdgemhnlennbaaGreatDoor
