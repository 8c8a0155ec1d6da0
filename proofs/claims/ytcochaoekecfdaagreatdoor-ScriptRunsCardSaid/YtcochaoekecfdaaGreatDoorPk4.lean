/- The law ScriptRuns: pack 4 of its texts. -/
import Derived.Lib.AtoiAll
import Derived.Shelf.Small.Strs
import Derived.Shelf.Small.Wraps
import Derived.Shelf.Strconv.AtoiAll
import Derived.Shelf.Strconv.ErrVarAll
import Derived.Shelf.Strings.Search1
import Derived.Test.YtcochaoekecfdaaGreatDoorProg
import Derived.KernelRfl
import Derived.WalkKit
import Derived.BigCall
import Derived.Test.YtcochaoekecfdaaGreatDoorPk1
import Derived.Test.YtcochaoekecfdaaGreatDoorPk2
import Derived.Test.YtcochaoekecfdaaGreatDoorPk3
set_option linter.unusedSimpArgs false
set_option linter.unusedVariables false
set_option maxRecDepth 100000
namespace Go.Ab
open Go
noncomputable def pick (H:Heap) (l:List Nat):Heap:=fun j=>if j∈l then H j else none
theorem bB{H:Heap}{l:List Nat}{j:Nat}(hj:j∈l):pick H l j=H j:=if_pos hj
theorem iK{H h' :Heap}{l:List Nat}(hs:∀j∈l,h' j=H j):Sub (pick H l) h' :=fun j b hb=>by
 simp_all [bB,pick,if_neg]
theorem bQ{H:Heap}{l:List Nat}:Sub (pick H l) H:=iK fun _ _=>rfl
end Go.Ab
namespace Go.Proofs.YtcochaoekecfdaaGreatDoor
open Go Go.Ab Go.Bf
def cc(c:aK)(f l:AV):List AV:=[.s c.id,.s c.owner,.s c.state,f,l]
theorem sk{h0 h:Heap}{s:an}(y1 y2 y3 y4:AV){k o:Nat}{A B:List AV}{t:TypeId}{c:aK}{f l:AV}(ho:o=A.length)(hk:h k=some (.obj (A++(cc c f l++B)) t))(ht:t≠205)
  (hlo:OwE 205 h0 h 3 l (c.log.map iH)) (hs0:Ab.Sub h0 h) (hll:c.log.length≤1000000) (actor what:Txt):
  ai Tryz.prog 134 [.agg ([.i s.tick,y1,y2,y3,y4]++fT s.policy++ [.i s.version]),.ptr k o,.s actor,.s what] h fun r h' =>∃l',OwE 205 h0 h' 3 l' ((c.log++ [(⟨s.tick,actor,what⟩:xz)]).map iH)∧h' k=some (.obj (A++(cc c f l' ++B)) t)∧(∀j,h j≠none→j≠k→nid l≠some j→h' j=h j)∧∀j,nid l' =some j→h j=none∨nid l=some j:=by
 cases hpp:s.policy with
 |mk pid pset palg ptgt prules pkids pobls=>
 have hcC:fT (.mk pid pset palg ptgt prules pkids pobls)= [.s pid,.b pset,.i palg,aU ptgt,.sl (prules.map aB) .no,.sl (pkids.map aL) .no,az pobls]:=afC;refine acs Tryz.func134 22 [] fun hwf=>?_
 simp only[go_sem,hcC,List.cons_append,List.nil_append];intro i1 h1;simp only[go_sem];obtain⟨H,eH⟩:∃H,upd h i1 (some (.obj [.i s.tick,y1,y2,y3,y4,.s pid,.b pset,.i palg,aU ptgt,.sl (prules.map aB) .no,.sl (pkids.map aL) .no,az pobls,.i s.version] 67))=H:=⟨_,rfl⟩;have n1k:k≠i1:=fun e=>by rw[e,h1]at hk;cases hk
 have g1:H i1=some (.obj [.i s.tick,y1,y2,y3,y4,.s pid,.b pset,.i palg,aU ptgt,.sl (prules.map aB) .no,.sl (pkids.map aL) .no,az pobls,.i s.version] 67):=adX;have gk:H k=some (.obj (A++(cc c f l++B)) t):=by rw[←eH,ag _ _ n1k];exact hk
 have hH:Ab.Sub h H:=by rw[←eH];exact(Sub.refl h).put h1 _
 have hoj:∀j,j≠i1→H j=h j:=fun j hj=>by rw[←eH];exact ag _ _ hj
 rw[eH];clear eH;refine .stage (hm2 k (.obj (A++(cc c f l++B)) t) i1 (.obj [.i s.tick,y1,y2,y3,y4,.s pid,.b pset,.i palg,aU ptgt,.sl (prules.map aB) .no,.sl (pkids.map aL) .no,az pobls,.i s.version] 67)) [0,1,2,3,4,5,6,7,8,9,10,11,12,13] [14] (.hm2 gk g1) acw ?_;have hc4:(A++(cc c f l++B))[o+4]? =some l:=aem;obtain⟨CS,eCS⟩:∃CS,A++(cc c f l++B)=CS:=⟨_,rfl⟩;rw[eCS]at hc4 gk⊢;simp only[go_sem,rz,ry _ _ n1k,hc4];have hap1:Rd H 3 (.sl [iH ⟨s.tick,actor,what⟩] .full) [iH ⟨s.tick,actor,what⟩]:=.sl adj .full;refine OwE.app (U:=U) (tb:=205) (hlo.sub hH) (hs0.trans hH) hap1 acF acz acA acF acD ac3 fun id2 y' h' g2 hor hw ho2=>?_
 have hor' :H id2=none∨nid l=some id2:=by
  exact ahi
 have k2:k≠id2:=by
  rcases hor' with hor|hor
  ·exact fun e=>by rw[←e,gk]at hor;cases hor
  ·exact(lO ((hlo.sub hH).nid hor).2.2 gk ht).symm
 have i2:i1≠id2:=by
  rcases hor' with hor|hor
  ·exact fun e=>by rw[←e,g1]at hor;cases hor
  ·exact fun e=>(hlo.nid hor).2.1 (by rw[←e];exact h1)
 have gk' :=(ho2 k k2).trans gk;have gi' :=(ho2 i1 i2).trans g1;refine⟨.hm2 gk' gi',?_⟩;simp only[go_sem];refine⟨cL,(fun _ _ e=>acV),?_⟩
 simp only[go_sem,gk',hw.rd.fit,hw.rd.cells];have lCS:CS.length=A.length+(5+B.length):=by rw[←eCS];simp[cc];omega
 have e5:List.take (o+4) CS++ [y']++List.drop (o+4+1) CS=A++(cc c f y' ++B):=by
  have:=oT (A:=A++ [.s c.id,.s c.owner,.s c.state,f]) (B:=[l]) (C:=B) (X:=[y']) (k:=o+4) (m:=1) (by rw[ho];simp) rfl rfl
  exact aie
 rw[e5];refine⟨acu,(fun _ _ e=>acV),.same (.refl _) ⟨y',?_,ah ..,fun j hj hjk hjl=>?_,fun j hj=>?_⟩⟩
 ·have hw' :Ow 205 (upd h' k (some (.obj (A++(cc c f y' ++B)) t))) 3 id2 y' (c.log.map iH++ [iH ⟨s.tick,actor,what⟩]):=hw.same (ag _ _ k2.symm)
  rw[List.map_append];exact .inr ⟨id2,g2,hw'⟩
 ·have hj2:j≠id2:=by
   rcases hor' with hor|hor
   ·intro e
    have:=hoj j (fun e' =>hj (by rw[e'];exact h1))
    rw[e,hor]at this;exact hj (by rw[e];exact this.symm)
   ·exact fun e=>hjl agu
  have hj1:j≠i1:=fun e=>hj (by rw[e];exact h1)
  rw[ag _ _ hjk,ho2 j hj2,hoj j hj1]
 ·have:id2=j:=by have:=hw.nid;rw[hj]at this;exact(Option.some.inj this).symm
  rw[←this];rcases hor' with hor|hor
  ·refine .inl ?_
   cases hh:h id2 with
   |none=>rfl
   |some b=>rw[hH _ _ hh]at hor;cases hor
  ·exact .inr hor
theorem J9{h:Heap}(f:cV){k:Nat}{name:Txt}(hk:h k=some (.obj [.s name] 9)):ai Tryz.prog 181 [bL f,.ptr k 0] h fun r h' =>r= .b (geB f.name name)∧h' =h:=by
 refine acs Tryz.func181 8 [.tmp 3] fun hwf=>?_
 simp only[go_sem,bL];exact agZ
theorem Gx{fs:List cV}{name:Txt}{v:bp}(hx:¬fs.findIdx (fun f=>geB f.name name)<fs.length):eY fs name v=fs++ [⟨name,v⟩]:=by
 grind [eY,List.getElem?_eq_none,geB]
theorem zC{fs:List cV}{name:Txt}{v:bp}(hx:fs.findIdx (fun f=>geB f.name name)<fs.length)(he:fs[fs.findIdx (fun f=>geB f.name name)].name=name):eY fs name v=fs.set (fs.findIdx (fun f=>geB f.name name)) ⟨name,v⟩:=by
 simp_all [eY,List.getElem?_eq_getElem,if_true]
theorem Gy{fs:List cV}{name:Txt}{v:bp}(hx:fs.findIdx (fun f=>geB f.name name)<fs.length)(he:fs[fs.findIdx (fun f=>geB f.name name)].name≠name):eY fs name v=fs.take (fs.findIdx (fun f=>geB f.name name))++ [⟨name,v⟩]++fs.drop (fs.findIdx (fun f=>geB f.name name)):=by
 simp_all [eY,List.getElem?_eq_getElem,if_false]
theorem MX{h0 h:Heap}{k o:Nat}{A B:List AV}{t:TypeId}{c:aK}{f l:AV}(ho:o=A.length)(hk:h k=some (.obj (A++(cc c f l++B)) t))(ht:t≠215)
  (hfo:OwE 215 h0 h 4 f (c.fields.map bL)) (hs0:Ab.Sub h0 h) (hff:c.fields.length≤1000000) (name:Txt) (v:bp):
  ai Tryz.prog 136 [.ptr k o,.s name,aO v] h fun r h' =>∃f',OwE 215 h0 h' 4 f' ((eY c.fields name v).map bL)∧h' k=some (.obj (A++(cc c f' l++B)) t)∧(∀j,h j≠none→j≠k→nid f≠some j→h' j=h j)∧∀j,nid f' =some j→h j=none∨nid f=some j:=by
 have hc3:(A++(cc c f l++B))[o+3]? =some f:=aem;have lCS:(A++(cc c f l++B)).length=A.length+(5+B.length):=by simp[cc];omega
 have e5:∀y',List.take (o+3) (A++(cc c f l++B))++ [y']++List.drop (o+3+1) (A++(cc c f l++B))=A++(cc c y' l++B):=fun y' =>by
  have:=oT (A:=A++ [.s c.id,.s c.owner,.s c.state]) (B:=[f]) (C:=l::B) (X:=[y']) (k:=o+3) (m:=1) (by rw[ho];simp) rfl rfl
  exact aip
 obtain⟨CS,eCS⟩:∃CS,A++(cc c f l++B)=CS:=⟨_,rfl⟩;rw[eCS]at hc3 hk lCS e5;refine acs Tryz.func136 60 [] fun hwf=>?_
 simp only[go_sem,aO];intro i1 h1;simp only[go_sem];intro i2 h2;have n21:=aF h2;have n2:=aA h2;have nk1:k≠i1:=fun e=>by rw[e,h1]at hk;cases hk
 have nk2:k≠i2:=fun e=>by rw[e,n2]at hk;cases hk
 obtain⟨H,eH⟩:∃H,upd (upd h i1 (some (.obj [.s name] 9))) i2 (some (.obj [.i v.kind,.i v.n,.s v.s] 30))=H:=⟨_,rfl⟩;have g1:H i1=some (.obj [.s name] 9):=ad6;have g2:H i2=some (.obj [.i v.kind,.i v.n,.s v.s] 30):=adX;have gk:H k=some (.obj CS t):=by rw[←eH,ag _ _ nk2,ag _ _ nk1];exact hk
 have hH:Ab.Sub h H:=adv;have hoj:∀j,h j≠none→H j=h j:=fun j hj=>by rw[←eH,ag _ _ (fun e=>hj (by rw[e];exact n2)),ag _ _ (fun e=>hj (by rw[e];exact h1))]
 rw[eH];clear eH;simp only[go_sem,gk,hc3];refine(yu f _ c.fields (fun f=>geB f.name name) _ [.ptr i1 0] _ (hfo.sub hH).rd acD adb (oH (fun _=>rfl) _) fun i a b=>by
  rw[acj];exact J9 _ g1).pthen ?_
 have hns:∀G,Ab.Sub cL G:=fun G _ _ e=>acV
 by_cases hx:c.fields.findIdx (fun f=>geB f.name name)<c.fields.length
 ·obtain⟨i,ei⟩:∃i,c.fields.findIdx (fun f=>geB f.name name)=i:=⟨_,rfl⟩
  have hxm:i<(c.fields.map bL).length:=by rw[←ei];simpa using hx
  have e1:ixD (fun f=>geB f.name name) c.fields=(i:Nat):=by rw[ixD,ei];exact if_pos (by rw[←ei];exact hx)
  have d1:decide (((i:Nat):Int)<0)=false:=decide_eq_false acu;rw[e1];simp only[go_sem,d1];refine⟨.of acw,?_⟩;simp only[go_sem,gk,hc3];refine(hfo.sub hH).rd.idx (e:=215) i rfl hxm Gt acz fun p hp1=>?_
  simp only[go_sem];refine hp1.field (f:=0) (off:=0) (t:=9) rfl J3 fun p2 hp2=>?_
  have hld:=hp2.part (U:=U) (ty:=9) J3 (by rw[acj,MN];exact ach rfl)
  simp only[go_sem,hld,acj,bL,g1];have hxi:i<c.fields.length:=by rw[←ei];exact hx
  cases d2:(c.fields[i].name==name)
  ·have hne:c.fields[i].name≠name:=by simpa using d2
   simp only[go_sem];refine .stage (pick H [k,i1,i2]) [0,1,2,3,4,5,6,7,8,9,10,11,12] [13] bQ acw ?_;simp only[go_sem,bB (show k∈ [k,i1,i2] by simp),bB (show i1∈ [k,i1,i2] by simp),bB (show i2∈ [k,i1,i2] by simp),gk,g1,g2,hc3]
   refine(Dp f _ (bL ⟨name,v⟩) i h0 H (hfo.sub hH) (hs0.trans hH) acu (by simpa using hff) rfl (by simp[bL,Ab.fit])).mono fun f' H1 ⟨w1,fr,ap⟩=>?_
   have nk:nid f≠some k:=fun e=>lO ((hfo.sub hH).nid e).2.2 gk ht rfl
   have n1' :nid f≠some i1:=fun e=>(hfo.nid e).2.1 h1
   have n2' :nid f≠some i2:=fun e=>(hfo.nid e).2.1 n2
   have gk' :H1 k=some (.obj CS t):=(fr k (by rw[gk];simp) nk).trans gk
   refine⟨iK fun j hj=>?_,?_⟩
   ·simp only[List.mem_cons,List.not_mem_nil,or_false]at hj
    rcases hj with rfl|rfl|rfl
    ·exact fr _ (by rw[gk];simp) nk
    ·exact fr _ (by rw[g1];simp) n1'
    ·exact fr _ (by rw[g2];simp) n2'
   simp only[go_sem];refine⟨cL,hns _,?_⟩;simp only[go_sem,gk',w1.rd.fit,w1.rd.cells];have hk2:nid f'≠some k:=fun e=>by
    rcases ap k e with h|h
    ·rw[gk]at h;cases h
    ·exact nk h
   have em:List.take i (c.fields.map bL)++([bL ⟨name,v⟩]++List.drop i (c.fields.map bL))=(eY c.fields name v).map bL:=by
    rw[Gy hx (by simp only[ei];exact hne),ei]
    simp[List.map_append,List.map_take,List.map_drop]
   rw[e5];rw[em]at w1;refine⟨acu,hns _,.same (.refl _) ⟨f',w1.keep fun id e=>ag _ _ fun e' =>hk2 (by rw[←e'];exact e),ah ..,fun j hj hjk hjl=>?_,fun j hj=>?_⟩⟩
   ·rw[ag _ _ hjk,fr j (by rw[hoj j hj];exact hj) hjl,hoj j hj]
   ·rcases ap j hj with h|h
    ·exact .inl (hH.none h)
    ·exact .inr h
  ·have heq:c.fields[i].name=name:=by simpa using d2
   simp only[go_sem];refine⟨.of acw,?_⟩;simp only[go_sem,gk,g2,hc3];obtain⟨id1,hg1,o1⟩:=(hfo.sub hH).ow (by intro e;rw[e]at hxm;cases hxm)
   have t1:id1≠k:=lO o1 gk ht;have o1' :=o1;obtain⟨cap,rest,ey,hid,hr,hcap,hsz⟩:=o1';refine o1.idx (U:=U) (e:=215) i rfl hxm Gt acz ?_;simp only[go_sem,hid];have hxl:=acj (f:=bL) (l:=c.fields) (i:=i) (h:=hxm);have e2:List.take (i*4+1) (au (c.fields.map bL)++rest)++ [.i v.kind,.i v.n,.s v.s]++List.drop (i*4+1+3) (au (c.fields.map bL)++rest)=au ((eY c.fields name v).map bL)++rest:=by
    refine(ld hsz i hxm 1 [.i v.kind,.i v.n,.s v.s] (ach rfl)).trans ?_;rw[zC hx (by simp only[ei];exact heq),ei,List.map_set,hxl]
    have:AV.agg (over (bL c.fields[i]).cells 1 [.i v.kind,.i v.n,.s v.s])=bL ⟨name,v⟩:=by rw[←heq];rfl
    rw[this]
   have lw:(eY c.fields name v).length=c.fields.length:=by rw[zC hx (by simp only[ei];exact heq),List.length_set]
   rw[e2];refine⟨by rw[acn,aX hsz];omega,.same (.refl _) ⟨f,.inr ⟨id1,hg1,cap,rest,by rw[ey];simp[lw],ah ..,by rw[hr];simp[lw],by rw[aci]at hcap⊢;omega,bu (f:=bL) (n:=4) (fun _=>rfl) _⟩,(ag _ _ t1.symm).trans (by rw[eCS];exact gk),fun j hj hjk hjl=>?_,fun j hj=> .inr hj⟩⟩
   have:j≠id1:=fun e=>hjl (by rw[e];exact o1.nid)
   rw[ag _ _ this,hoj j hj]
 ·have e1:ixD (fun f=>geB f.name name) c.fields= -1:=by rw[ixD];exact if_neg hx
  have d1:decide ((-1:Int)<0)=true:=rfl;rw[e1];simp only[go_sem,d1];refine .stage (pick H [k,i1,i2]) [0,1,2,3,4,5,6,7,8,9,10,11] [12] bQ acw ?_;simp only[go_sem,bB (show k∈ [k,i1,i2] by simp),bB (show i1∈ [k,i1,i2] by simp),bB (show i2∈ [k,i1,i2] by simp),gk,g1,g2,hc3]
  have hap1:Rd H 4 (.sl [bL ⟨name,v⟩] .full) [bL ⟨name,v⟩]:=.sl adj .full;refine OwE.app (U:=U) (tb:=215) (hfo.sub hH) (hs0.trans hH) hap1 acF acz acA acF acD ac3 fun id2 y' h' g3 hor hw ho2=>?_
  have hor' :H id2=none∨nid f=some id2:=by
   exact ahi
  have k2:k≠id2:=by
   rcases hor' with hor|hor
   ·exact fun e=>by rw[←e,gk]at hor;cases hor
   ·exact(lO ((hfo.sub hH).nid hor).2.2 gk ht).symm
  have j1:i1≠id2:=by
   rcases hor' with hor|hor
   ·exact fun e=>by rw[←e,g1]at hor;cases hor
   ·exact fun e=>(hfo.nid hor).2.1 (by rw[←e];exact h1)
  have j2:i2≠id2:=by
   rcases hor' with hor|hor
   ·exact fun e=>by rw[←e,g2]at hor;cases hor
   ·exact fun e=>(hfo.nid hor).2.1 (by rw[←e];exact n2)
  refine⟨iK fun j hj=>ho2 j ?_,?_⟩
  ·simp only[List.mem_cons,List.not_mem_nil,or_false]at hj
   rcases hj with rfl|rfl|rfl
   ·exact k2
   ·exact j1
   ·exact j2
  have gk' :=(ho2 k k2).trans gk;simp only[go_sem];refine⟨cL,hns _,?_⟩;simp only[go_sem,gk',hw.rd.fit,hw.rd.cells];rw[e5,Gx hx];refine⟨acu,hns _,.same (.refl _) ⟨y',?_,ah ..,fun j hj hjk hjl=>?_,fun j hj=>?_⟩⟩
  ·have hw' :Ow 215 (upd h' k (some (.obj (A++(cc c y' l++B)) t))) 4 id2 y' (c.fields.map bL++ [bL ⟨name,v⟩]):=hw.same (ag _ _ k2.symm)
   rw[List.map_append];exact .inr ⟨id2,g3,hw'⟩
  ·have hj2:j≠id2:=by
    rcases hor' with hor|hor
    ·intro e
     have:=hoj j hj;rw[e,hor]at this;exact hj (by rw[e];exact this.symm)
    ·exact fun e=>hjl agu
   rw[ag _ _ hjk,ho2 j hj2,hoj j hj]
  ·have:id2=j:=by have:=hw.nid;rw[hj]at this;exact(Option.some.inj this).symm
   rw[←this];rcases hor' with hor|hor
   ·exact .inl (hH.none hor)
   ·exact .inr hor
theorem CK{cs:List aK}{id:Txt}(h:bX cs id=true):bw cs id=cs[findD cs id]'(jA h):=by
 simp_all [bw,if_pos,List.getD_eq_getElem?_getD,List.getElem?_eq_getElem,jA]
theorem CL{cs:List aK}{id:Txt}(h:bX cs id=false):bw cs id=oD:=by
 simp_all [bw,if_neg]
theorem mb{g h:Heap}{p:Perm}:Frz g h (.sl [] p) (.sl [] .no):=.sl _ _ _ rfl acu acD
theorem C9{g h:Heap}(c:aK):Frz g h (cp c) (cp c):=.agg _ _ rfl fun j a b=>by
 rcases j with _|_|_|_|_|j
 ·exact acP
 ·exact acP
 ·exact acP
 ·exact .pure (show cH (gq c.fields)=true from bt (fun _=>rfl) c.fields)
 ·exact .pure (show cH (su c.log)=true from bt (fun _=>rfl) c.log)
 ·simp[ng]at a;omega
theorem BL{h:Heap}{x:AV}{s:an}(hb:RdS h x s)(id:Txt)(hf:Few s):ai Tryz.prog 76 [x,.s id] h fun r h' =>r= .tup [cp (bw s.cases id),.b (bX s.cases id)]∧h' =h:=
 ai.freeze fun g hg _=>by
 replace hb:=hb.sub hg;have hb0:=hb;obtain⟨y1,y2,y3,y4,rfl,⟨xs,hc,hn,hcs⟩,h2,h3,h4⟩:=hb;cases hpp:s.policy with
 |mk pid pset palg ptgt prules pkids pobls=>
 have hcC:fT (.mk pid pset palg ptgt prules pkids pobls)= [.s pid,.b pset,.i palg,aU ptgt,.sl (prules.map aB) .no,.sl (pkids.map aL) .no,az pobls]:=afC;rw[hpp,hcC]at hb0;refine acs Tryz.func76 23 [.cell 4 134,.tmp 5] fun hwf=>?_
 simp -implicitDefEqProofs only[go_sem,hcC,List.cons_append,List.nil_append];intro i1 h1;simp -implicitDefEqProofs only[go_sem];intro i2 h2';have n21:=aF h2';have n2:=aA h2';simp -implicitDefEqProofs only[go_sem,ak,n21.symm];have hs:∀a b,Ab.Sub g (upd (upd g i1 a) i2 b):=fun a b=>((Sub.refl g).put h1 a).put n2 b
 refine(BU (hb0.sub (hs _ _)) id hf.cases).pthen ?_;cases d1:bX s.cases id
 ·simp -implicitDefEqProofs only[go_sem]
  refine .mk _ (.refl _) (.refl _) ⟨hs _ _,.tup [.agg [.s [],.s [],.s [],.sl [] .no,.sl [] .no],.b false],.tup _ _ rfl fun i a b=>?_,by rw[CL d1];rfl⟩
  rcases i with _|_|i
  ·refine .agg _ _ rfl fun j c d=>?_
   rcases j with _|_|_|_|_|j
   ·exact acP
   ·exact acP
   ·exact acP
   ·exact mb
   ·exact mb
   grind
  ·exact acP
  grind
 ·have hlt:=jA d1
  have hltx:findD s.cases id<xs.length:=acu;obtain⟨f,l,ex,hfl,hlg⟩:=hcs _ hltx hlt;simp -implicitDefEqProofs only[go_sem,ak,n21.symm];refine hc.idx (e:=134) (findD s.cases id) rfl hltx nE acz fun p hp1=>?_
  have hld:=fun a b=>(hp1.sub (hs a b)).all (U:=U) (ty:=134) acz (by rw[nE,ex];rfl) (by simp only[go_sem];rw[ex];rfl)
  simp -implicitDefEqProofs only[go_sem,hld];refine(wC ((hcs _ hltx hlt).sub (hs _ _)) (hf.fields _ (aco hlt)) (hf.log _ (aco hlt))).pthen ?_;rw[←CK d1];simp -implicitDefEqProofs only[go_sem,cp,ng,gq,su];refine .mk _ (.refl _) (.refl _) ⟨hs _ _,_,.tup _ _ rfl fun i a b=>?_,rfl⟩
  rcases i with _|_|i
  ·exact C9 _
  ·exact acP
  grind
theorem Cj{h:Heap}{x:AV}{s:an}(hb:RdS h x s)(o:OpD)(hf:Few s):ai Tryz.prog 120 [x,opA o] h fun r h' =>r= .i (bW s o)∧h' =h:=by
 have hb0:=hb;obtain⟨y1,y2,y3,y4,rfl,⟨xs,hc,hn,hcs⟩,h2,h3,h4⟩:=hb;cases hpp:s.policy with
 |mk pid pset palg ptgt prules pkids pobls=>
 have hcC:fT (.mk pid pset palg ptgt prules pkids pobls)= [.s pid,.b pset,.i palg,aU ptgt,.sl (prules.map aB) .no,.sl (pkids.map aL) .no,az pobls]:=afC;rw[hpp,hcC]at hb0;refine acs Tryz.func120 67 [.tmp 4] fun hwf=>?_
 simp -implicitDefEqProofs only[go_sem,hcC,opA,opC,List.cons_append,List.nil_append];intro i1 h1;simp -implicitDefEqProofs only[go_sem];intro i2 h2';have n21:=aF h2';have n2:=aA h2';simp -implicitDefEqProofs only[go_sem,ak,n21.symm];have hs:∀a b,Ab.Sub h (upd (upd h i1 a) i2 b):=fun a b=>((Sub.refl h).put h1 a).put n2 b
 refine(BL (hb0.sub (hs _ _)) o.case hf).pthen ?_;simp -implicitDefEqProofs only[go_sem,cp,ng,gq,su];intro i3 h3';have n32:=aF h3';have h3b:=aA h3';have n31:=aF h3b;have n3:=aA h3b;have hs3:∀a b d,Ab.Sub h (upd (upd (upd h i1 a) i2 b) i3 d):=fun a b d=>(((Sub.refl h).put h1 a).put n2 b).put n3 d
 have hA:=(fun a b d=>Sub.trans (Sub.refl h) (hs3 a b d))
 simp -implicitDefEqProofs only[go_sem,ak,n32.symm];have hfl:(bw s.cases o.case).fields.length≤1000000000:=by
  unfold bw;split
  ·rename_i ht
   have hlt:=jA ht;rw[List.getD_eq_getElem?_getD,List.getElem?_eq_getElem hlt];exact Nat.le_trans (hf.fields _ (aco hlt)) acz
  decide
 cases d1:bX s.cases o.case
 ·simp -implicitDefEqProofs only[go_sem]
  exact .mk _ (.refl _) (hs3 _ _ _) ⟨by simp only[bW,d1];rfl,rfl⟩
 ·simp -implicitDefEqProofs only[go_sem,ak,n32.symm]
  cases k3:(o.kind==3)
  ·have p3:o.kind≠3:=by grind
   simp -implicitDefEqProofs only[go_sem];cases k2:(o.kind==2)
   ·have p2:o.kind≠2:=by grind
    have k2n:(o.kind !=2)=true:=acv;cases d256:decide ((256:Int)≤((bw s.cases o.case).log.length:Int))
    ·have p256:¬256≤(bw s.cases o.case).log.length:=by grind
     simp -implicitDefEqProofs only[go_sem,ak,n32.symm,aci,k3,k2n,d256];cases k4:(o.kind==4)
     ·have p4:o.kind≠4:=by grind
      exact agV
     ·have p4:o.kind=4:=by grind
      simp -implicitDefEqProofs only[go_sem,ak,n32.symm];refine(Fw _ _ _).pthen ?_;cases dfo:mB (bw s.cases o.case).state o.to
      ·exact agV
      ·exact agV
    ·have p256:256≤(bw s.cases o.case).log.length:=by grind
     simp -implicitDefEqProofs only[go_sem,aci,k2n,d256];exact .mk _ (.refl _) (hs3 _ _ _) ⟨aec,rfl⟩
   ·have p2:o.kind=2:=by grind
    have k2n:(o.kind !=2)=false:=acv;simp -implicitDefEqProofs only[go_sem,ak,n32.symm,k3,k2n];cases k4:(o.kind==4)
    ·have p4:o.kind≠4:=by omega
     exact agV
    ·have p4:o.kind=4:=by grind
     omega
  ·have p3:o.kind=3:=by grind
   cases d16:decide ((16:Int)≤((bw s.cases o.case).fields.length:Int))
   ·have p16:¬16≤(bw s.cases o.case).fields.length:=by grind
    simp -implicitDefEqProofs only[go_sem,aci,d16];exact agN
   ·have p16:16≤(bw s.cases o.case).fields.length:=by grind
    simp -implicitDefEqProofs only[go_sem,ak,n32.symm,aci,d16];refine(C4 (show RdC _ (.agg [.s (bw s.cases o.case).id,.s (bw s.cases o.case).owner,.s (bw s.cases o.case).state,AV.sl ((bw s.cases o.case).fields.map bL) .no,AV.sl ((bw s.cases o.case).log.map iH) .no]) (bw s.cases o.case)from rdC _ _) o.field hfl).pthen ?_
    simp -implicitDefEqProofs only[go_sem,aO];cases dv:((eN (bw s.cases o.case).fields o.field).kind==(0:Int) && ((eN (bw s.cases o.case).fields o.field).n==(0:Int) && (eN (bw s.cases o.case).fields o.field).s==([]:Txt)))
    ·have pv:eqV (eN (bw s.cases o.case).fields o.field) aq=false:=dv
     simp -implicitDefEqProofs only[go_sem];exact agN
    ·have pv:eqV (eN (bw s.cases o.case).fields o.field) aq=true:=dv
     exact agV
theorem zX{h:Heap}{x:AV}{s:an}(hb:RdS h x s)(o:OpD)(hf:Few s)(h0:0<o.review)(hr:o.review≤9223372036854775807):ai Tryz.prog 121 [x,opA o] h fun r h' =>r= .i (fM s o)∧h' =h:=by
 obtain⟨y1,y2,y3,y4,rfl,⟨xs,hc,hn,hcs⟩,h2,h3,h4⟩:=hb;cases hpp:s.policy with
 |mk pid pset palg ptgt prules pkids pobls=>
 have hcC:fT (.mk pid pset palg ptgt prules pkids pobls)= [.s pid,.b pset,.i palg,aU ptgt,.sl (prules.map aB) .no,.sl (pkids.map aL) .no,az pobls]:=afC;have hfr:=hf.reviews;refine acs Tryz.func121 35 [.tmp 4] fun hwf=>?_
 simp -implicitDefEqProofs only[go_sem,hcC,opA,opC,List.cons_append,List.nil_append];intro i1 h1;simp -implicitDefEqProofs only[go_sem];intro i2 h2';have n21:=aF h2';have n2:=aA h2';have hs:∀a b,Ab.Sub h (upd (upd h i1 a) i2 b):=fun a b=>((Sub.refl h).put h1 a).put n2 b
 simp -implicitDefEqProofs only[go_sem,ak,n21.symm,h2.len,aci];obtain⟨n,en⟩:∃n:Nat,o.review=((n:Nat):Int)+1:=⟨(o.review - 1).toNat,acu⟩;have e1:wE s.reviews o.review=s.reviews[n]? :=by
  unfold wE;rw[if_pos acu,show(o.review - 1).toNat=n by omega]
 have w1:IntKind.i64.wrap (o.review - 1)=((n:Nat):Int):=acI;cases dlt:decide ((s.reviews.length:Int)<o.review)
 ·have hlt:n<s.reviews.length:=by grind
  have hgl:wE s.reviews o.review=some s.reviews[n]:=acv;simp -implicitDefEqProofs only[go_sem,ak,n21.symm,w1];refine h2.idx (e:=143) n rfl acv acK acz fun p hp1=>?_
  simp -implicitDefEqProofs only[go_sem];refine hp1.field (f:=6) (off:=6) (t:=4) rfl acz fun p2 hp2=>?_
  have hld:=fun a b=>(hp2.sub (hs a b)).part (U:=U) (ty:=4) acz (by rw[acj,show(U 4).sz=1 by rfl];exact ach rfl)
  simp -implicitDefEqProofs only[go_sem,hld,acj,iL];cases dop:s.reviews[n].isOpen
  ·exact ag9
  ·simp -implicitDefEqProofs only[go_sem,ak,n21.symm]
   refine⟨.of acw,?_⟩;simp -implicitDefEqProofs only[go_sem,w1];refine h2.idx (e:=143) n rfl acv acK acz fun p hp1=>?_
   simp -implicitDefEqProofs only[go_sem];refine hp1.field (f:=2) (off:=2) (t:=9) rfl J3 fun p2 hp2=>?_
   have hld:=fun a b=>(hp2.sub (hs a b)).part (U:=U) (ty:=9) J3 (by rw[acj,MN];exact ach rfl)
   simp -implicitDefEqProofs only[go_sem,hld,acj,iL];cases dsu:(s.reviews[n].subj==o.subj)
   ·have psu:s.reviews[n].subj≠o.subj:=by grind
    exact ag9
   ·have psu:s.reviews[n].subj=o.subj:=by grind
    exact ag9
 ·have hge:¬n<s.reviews.length:=by grind
  have hgn:wE s.reviews o.review=none:=acv;exact ag9
theorem Eg{h:Heap}{x:AV}{s:an}(hb:RdS h x s)(o:OpD)(hf:Few s)(hr:i64 o.review)(ht:i64 s.tick):ai Tryz.prog 68 [x,opA o] h fun r h' =>r= .i (bJ s o)∧h' =h:=by
 have hb0:=hb;have hfo:=BW o;have hrc:=fun(G:Heap) (hG:Ab.Sub h G)=>Cj (hb.sub hG) o hf
 have hrl:=fun(G:Heap) (hG:Ab.Sub h G) (a:0<o.review)=>zX (hb.sub hG) o hf a hr.2
 have hfi:=fun(G:Heap) (hG:Ab.Sub h G)=>BU (hb.sub hG) o.case hf.cases
 have hha:=fun(G:Heap) (hG:Ab.Sub h G)=>FD (hb.sub hG) o.case o.field (Nat.le_trans hf.roles acz)
 obtain⟨y1,y2,y3,y4,rfl,⟨xs,hc,hn,hcs⟩,h2,h3,h4⟩:=hb;cases hpp:s.policy with
 |mk pid pset palg ptgt prules pkids pobls=>
 have hcC:fT (.mk pid pset palg ptgt prules pkids pobls)= [.s pid,.b pset,.i palg,aU ptgt,.sl (prules.map aB) .no,.sl (pkids.map aL) .no,az pobls]:=afC;rw[hpp,hcC]at hb0 hrc hrl hfi hha;simp only[opA,opC,List.cons_append,List.nil_append]at hfo hrc hrl hfi hha;refine acs Tryz.func68 63 [.tmp 4] fun hwf=>?_
 simp -implicitDefEqProofs only[go_sem,hcC,opA,opC,List.cons_append,List.nil_append];intro i1 h1;simp -implicitDefEqProofs only[go_sem];intro i2 h2';have n21:=aF h2';have n2:=aA h2';have hs:∀a b,Ab.Sub h (upd (upd h i1 a) i2 b):=fun a b=>((Sub.refl h).put h1 a).put n2 b
 simp -implicitDefEqProofs only[go_sem];refine(hfo _).pthen ?_;cases dform:dG o
 ·exact agP
 ·simp -implicitDefEqProofs only[go_sem]
  have hok:okD o=true:=by simp_all [dG,dJ,Bool.and_eq_true]
  by_cases p1:o.kind=1
  ·have k1:(o.kind==1)=true:=by grind
   simp -implicitDefEqProofs only[go_sem,ak,n21.symm,k1];refine(hfi _ (hs _ _)).pthen ?_;cases dth:bX s.cases o.case
   ·simp -implicitDefEqProofs only[go_sem,ak,n21.symm,hc.len,hn]
    cases d64:decide ((64:Int)≤(s.cases.length:Int))
    ·have p64:¬64≤s.cases.length:=by grind
     exact agP
    ·have p64:64≤s.cases.length:=by grind
     exact agP
   ·exact agP
  have k1:(o.kind==1)=false:=acv;simp -implicitDefEqProofs only[go_sem,k1]
  by_cases p2:o.kind=2
  ·have k2:(o.kind==2)=true:=by grind
   simp -implicitDefEqProofs only[go_sem,ak,n21.symm,k2];refine(hrc _ (hs _ _)).pthen ?_;exact agP
  have k2:(o.kind==2)=false:=acv;simp -implicitDefEqProofs only[go_sem,k2]
  by_cases p3:o.kind=3
  ·have k3:(o.kind==3)=true:=by grind
   simp -implicitDefEqProofs only[go_sem,ak,n21.symm,k3];refine(hrc _ (hs _ _)).pthen ?_;exact agP
  have k3:(o.kind==3)=false:=acv;simp -implicitDefEqProofs only[go_sem,k3]
  by_cases p4:o.kind=4
  ·have k4:(o.kind==4)=true:=by grind
   simp -implicitDefEqProofs only[go_sem,ak,n21.symm,k4];refine(hrc _ (hs _ _)).pthen ?_;exact agP
  have k4:(o.kind==4)=false:=acv;simp -implicitDefEqProofs only[go_sem,k4]
  by_cases p5:o.kind=5
  ·have k5:(o.kind==5)=true:=by grind
   simp -implicitDefEqProofs only[go_sem,ak,n21.symm,k5];have hrv:0<o.review:=by grind [okD]
   refine(hrl _ (hs _ _) hrv).pthen ?_;exact agP
  have k5:(o.kind==5)=false:=acv;simp -implicitDefEqProofs only[go_sem,k5]
  by_cases p6:o.kind=6
  ·have k6:(o.kind==6)=true:=by grind
   simp -implicitDefEqProofs only[go_sem,ak,n21.symm,k6];simp -implicitDefEqProofs only[go_sem,h4.len,aci];cases d64:decide ((64:Int)≤(s.roles.length:Int))
   ·have p64:¬64≤s.roles.length:=by grind
    exact agP
   ·have p64:64≤s.roles.length:=by grind
    simp -implicitDefEqProofs only[go_sem,ak,n21.symm];refine(hha _ (hs _ _)).pthen ?_;cases dha:yh s.roles ⟨o.case,o.field⟩
    ·exact agP
    ·exact agP
  have k6:(o.kind==6)=false:=acv;simp -implicitDefEqProofs only[go_sem,k6]
  by_cases p8:o.kind=8
  ·have k8:(o.kind==8)=true:=by grind
   simp -implicitDefEqProofs only[go_sem,ak,n21.symm,k8];have hrv:0<o.review∧o.review≤1099511627776:=by grind [okD]
   have w1:IntKind.i64.wrap (1099511627776 - o.review)=1099511627776 - o.review:=bg _ acu;cases dt:decide (1099511627776 - o.review<s.tick)
   ·have pt:¬1099511627776 - o.review<s.tick:=acm dt
    exact aij
   ·have pt:1099511627776 - o.review<s.tick:=ack dt
    exact aij
  have k8:(o.kind==8)=false:=acv;simp -implicitDefEqProofs only[go_sem,k8];exact .mk _ (.refl _) (hs _ _) ⟨by have:¬(2≤o.kind∧o.kind≤4):=acu;simp only[bJ,dform,p1,p5,p6,p8,this,if_false,Bool.true_eq_false,ax],rfl⟩
end Go.Proofs.YtcochaoekecfdaaGreatDoor
namespace Go.Bf
open Go Go.Ab
structure pY where
 kind:Int
 pos:Int
 n:Int
 s:Txt
def fu(t:pY):AV:=.agg [.i t.kind,.i t.pos,.i t.n,.s t.s]
def wrd(c:UInt8):Bool:=ltr c||dgt c||(c.toNat:Int)==95
def mQ(l:Txt):Nat:=l.foldl (fun n c=>n*10+(c.toNat - 48)) 0
def eU(neg:Bool)(s:Txt):Int×Nat:=
 let d:=s.takeWhile dgt
 if d= []∨(1<d.length∧s.head? =some 48)then(0,0)else
 let v:Int:=if neg then -(mQ d:Int)else(mQ d:Int)
 if -9223372036854775808≤v∧v≤9223372036854775807 then(v,d.length)else(0,0)
def jB(s:Txt):Txt:=if bh (s.takeWhile wrd)then s.takeWhile wrd else []
def jD(c:UInt8):Int:=if dgt c then(c.toNat:Int) - 48 else if 97≤(c.toNat:Int)∧(c.toNat:Int)≤102 then(c.toNat:Int) - 87 else -1
def tH:Txt→Option UInt8
 |b::x::y::_=>if b=92∧0≤jD x∧0≤jD y∧tG (UInt8.ofNat (16*jD x+jD y).toNat)=true then some (UInt8.ofNat (16*jD x+jD y).toNat)else none
 |_=>none
def ud:Nat→Txt→Nat→Txt→Txt×Nat
 |0,_,_,_=>([],0)
 |_+1,[],_,_=>([],0)
 |f+1,c::r,at_,out=>
  if c=34 then(if 64<out.length then([],0)else(out,at_+1))
  else if tG c=false then ud f r (at_+1) (out++ [c])
  else match tH (c::r)with
   |some b=>ud f (r.drop 2) (at_+3) (out++ [b])
   |none=>([],0)
def zu(s:Txt):Txt×Nat:=ud s.length (s.drop 1) 1 []
def DF(c:UInt8):Bool:=c∈([123,125,40,41,46,44,59,61,60,62,33]:Txt)
def bP(s:Txt):pY×Nat:=
 let c:=s.headD 0
 if ltr c then(⟨1,0,0,jB s⟩,(jB s).length)
 else if dgt c then(⟨2,0,(eU false s).1,[]⟩,(eU false s).2)
 else if c=45 then(⟨2,0,(eU true (s.drop 1)).1,[]⟩,if(eU true (s.drop 1)).1=0 then 0 else(eU true (s.drop 1)).2+1)
 else if c=64 then(⟨3,0,(eU false (s.drop 1)).1,[]⟩,if(eU false (s.drop 1)).2=0∨(eU false (s.drop 1)).1>1099511627776 then 0 else(eU false (s.drop 1)).2+1)
 else if c=35 then(⟨4,0,0,jB (s.drop 1)⟩,if jB (s.drop 1)= []then 0 else(jB (s.drop 1)).length+1)
 else if c=34 then(⟨5,0,0,(zu s).1⟩,(zu s).2)
 else if DF c then(⟨6,0,0,[c]⟩,1)
 else(⟨0,0,0,[]⟩,0)
inductive Lexed where
 |bad (e:Int) (at_:Int)
 |ok (l:List pY)
def qe(c:UInt8):Bool:=(c.toNat:Int)==32||(c.toNat:Int)==10
def tE:Nat→Txt→Nat→List pY→Lexed
 |0,_,at_,_=> .bad 5 at_
 |_+1,[],at_,out=> .ok (out++ [⟨7,at_,0,[]⟩])
 |f+1,c::r,at_,out=>
  if qe c then tE f r (at_+1) out
  else if(bP (c::r)).2=0 then .bad 5 at_
  else tE f ((c::r).drop (bP (c::r)).2) (at_+(bP (c::r)).2) (out++ [{(bP (c::r)).1 with pos:=at_}])
def qF(s:Txt):Lexed:=if s.length>4096 then .bad 6 4096 else tE (s.length+1) s 0 []
theorem jS(p:UInt8→Bool)(s:Txt):(s.takeWhile p).length≤s.length:=(List.takeWhile_prefix p).length_le
theorem qZ(p:UInt8→Bool)(s:Txt):s.take (s.takeWhile p).length=s.takeWhile p:=by
 obtain⟨t,ht⟩:=List.takeWhile_prefix (l:=s) p
 grind
theorem oW(neg:Bool)(s:Txt):(eU neg s).2≤s.length:=by
 have:=jS dgt s;unfold eU;simp only;split
 ·exact aeV
 ·generalize (if neg=true then -(mQ (s.takeWhile dgt):Int)else(mQ (s.takeWhile dgt):Int))=v
  split
  ·exact adi
  ·exact aeV
theorem um(s:Txt):(jB s).length≤s.length:=by
 grind [jS,wrd,jB]
theorem DN{s:Txt}{b:UInt8}(h:tH s=some b):3≤s.length:=by
 match s,h with
 |_::_::_::_,_=>simp
theorem zv:∀(f:Nat) (r:Txt) (at_:Nat) (out:Txt),(ud f r at_ out).2≤at_+r.length
 |0,_,_,_=>by simp[ud]
 |_+1,[],_,_=>by simp[ud]
 |f+1,c::r,at_,out=>by
  simp only[ud];split
  ·grind
  ·split
   ·have:=zv f r (at_+1) (out++ [c]);simp only[List.length_cons];omega
   ·split
    ·rename_i b hb
     have h3:=DN hb;have:=zv f (r.drop 2) (at_+3) (out++ [b]);simp only[List.length_cons,List.length_drop]at this h3⊢;omega
    ·simp
theorem rX(s:Txt)(hs:s≠ []):(bP s).2≤s.length:=by
 have h1:1≤s.length:=acv;have hd:(s.drop 1).length=s.length - 1:=acD;have k1:=um s;have k2:=um (s.drop 1);have k3:=oW false s;have k4:=oW false (s.drop 1);have k5:=oW true (s.drop 1);have k6:=zv s.length (s.drop 1) 1 [];unfold bP;simp only;split
 ·exact k1
 split
 ·exact k3
 split
 ·simp only;split<;>omega
 split
 ·simp only;split<;>omega
 split
 ·simp only;split<;>omega
 split
 ·simp only[zu];omega
 split
 ·simp only;omega
 ·simp
structure PS where
 ts:List pY
 pos:Nat
 rules:Nat
 bad:Int
 place:Int
def aI(st:PS):pY:=st.ts.getD st.pos ⟨7,0,0,[]⟩
def bF(st:PS)(e p:Int):PS:=if st.bad=0 then {st with bad:=e,place:=p} else st
def bl(st:PS):PS:=bF st 5 (aI st).pos
def bC(st:PS)(more:Bool):PS:=if more then bF st 6 (aI st).pos else st
def isD(st:PS)(s:Txt):Bool:=st.bad==0 && ((aI st).s==s && ((aI st).kind==1||(aI st).kind==6))
def bf(st:PS):PS:={st with pos:=st.pos+1}
def cm(st:PS)(s:Txt):Bool×PS:=if isD st s=true then(true,bf st)else(false,st)
def dP(st:PS)(s:Txt):PS:=if isD st s=true then bf st else bl st
def ck(st:PS):Txt×PS:=
 if(aI st).kind=1∧st.bad=0 then((aI st).s,bf st)else([],if(aI st).kind=1 then st else bl st)
def uN(s:Txt):List Txt→Option Nat
 | []=>none
 |w::r=>if w=s then some 0 else(uN s r).map (· +1)
def aV(st:PS)(ws:List Txt):Int×PS:=match uN (aI st).s ws with
 |some i=>if(aI st).kind=1∧st.bad=0 then((i:Int)+1,bf st)else(0,bl st)
 |none=>(0,bl st)
def WfP(st:PS):Prop:=st.pos<st.ts.length∧(∀i (h:i<st.ts.length),st.ts[i].kind≠7→i+1<st.ts.length)∧st.ts.length≤5000
theorem Dk{st:PS}(h:st.pos<st.ts.length):aI st=st.ts[st.pos]:=by
 grind [aI,List.getElem?_eq_getElem]
theorem J8{st:PS}(e p:Int)(h:WfP st):WfP (bF st e p):=by
 unfold bF;split<;>exact h
theorem MV{st:PS}(h:WfP st)(hk:(aI st).kind≠7):WfP (bf st):=by
 rw[Dk h.1]at hk;exact⟨h.2.1 _ h.1 hk,h.2⟩
theorem dw{st:PS}{s:Txt}(h:isD st s=true):(aI st).kind≠7:=by
 simp only[isD,Bool.and_eq_true,Bool.or_eq_true,beq_iff_eq]at h;omega
def Ah(st st' :PS):Prop:=WfP st'∧st'.ts=st.ts∧st.pos≤st'.pos
theorem Ah.refl{st:PS}(h:WfP st):Ah st st:=⟨h,rfl,Nat.le_refl _⟩
theorem Ah.trans{a b c:PS}(x:Ah a b)(y:Ah b c):Ah a c:=⟨y.1,y.2.1.trans x.2.1,Nat.le_trans x.2.2 y.2.2⟩
theorem xF{st:PS}(e p:Int)(h:WfP st):Ah st (bF st e p):=⟨J8 e p h,by grind [bF],by unfold bF;grind⟩
theorem eS{st:PS}(h:WfP st)(hk:(aI st).kind≠7):Ah st (bf st):=⟨MV h hk,rfl,Nat.le_succ _⟩
theorem nW{st:PS}(h:WfP st):Ah st (bl st):=xF _ _ h
theorem kQ{st:PS}(b:Bool)(h:WfP st):Ah st (bC st b):=by
 unfold bC;split
 ·grind [xF]
 ·exact aeR
theorem No{st:PS}(s:Txt)(h:WfP st):Ah st (cm st s).2:=by
 unfold cm;split
 ·grind [eS,dw]
 ·exact aeR
theorem jc{st:PS}(s:Txt)(h:WfP st):Ah st (dP st s):=by
 grind [dP,eS,dw,nW]
theorem mW{st:PS}(h:WfP st):Ah st (ck st).2:=by
 unfold ck;split
 ·grind [eS]
 ·simp only;split
  ·exact aeR
  grind [nW]
theorem gw{st:PS}(ws:List Txt)(h:WfP st):Ah st (aV st ws).2:=by
 grind [aV,eS,nW]
def vF:List Txt:=[[115,117,98,106,101,99,116],[97,99,116,105,111,110],[99,97,115,101],[101,110,118]]
def fS(st:PS):pV×PS:=
 (⟨(aV st vF).1,(ck (dP (aV st vF).2 [46])).1,(cm (ck (dP (aV st vF).2 [46])).2 [33]).1⟩,(cm (ck (dP (aV st vF).2 [46])).2 [33]).2)
theorem BB{st:PS}(h:WfP st):Ah st (fS st).2:=by
 have h1:=gw vF h;have h2:=jc [46] h1.1;have h3:=mW h2.1;exact((h1.trans h2).trans h3).trans (No [33] h3.1)
def wL:Txt:=[116,114,117,101]
def qs:Txt:=[102,97,108,115,101]
def fR(st:PS):bp×PS:=
 if(aI st).kind=2 then(⟨2,(aI st).n,(aI st).s⟩,st)
 else if(aI st).kind=3 then(⟨4,(aI st).n,(aI st).s⟩,st)
 else if(aI st).kind=4 then(⟨5,(aI st).n,(aI st).s⟩,st)
 else if(aI st).kind=5 then(⟨3,(aI st).n,(aI st).s⟩,st)
 else if isD st wL then(⟨1,1,[]⟩,st)
 else if isD st qs then(⟨1,0,[]⟩,st)
 else(⟨0,(aI st).n,(aI st).s⟩,bl st)
def aC(st:PS):bp×PS:=if(fR st).2.bad=0 then((fR st).1,bf (fR st).2)else(⟨0,0,[]⟩,(fR st).2)
theorem rH(st:PS):(bl st).bad≠0:=by
 grind [bl,bF,Int]
theorem uh(st:PS):(fR st).2=st∧(aI st).kind≠7∨(fR st).2=bl st:=by
 unfold fR;split
 ·grind
 split
 ·grind
 split
 ·grind
 split
 ·grind
 split
 ·rename_i h;exact .inl ⟨rfl,dw h⟩
 split
 ·rename_i h;exact .inl ⟨rfl,dw h⟩
 simp
theorem CB{st:PS}(h:WfP st):Ah st (aC st).2:=by
 unfold aC;rcases uh st with⟨e,hk⟩|e
 ·rw[e];split
  ·grind [eS]
  ·exact aeR
 simp_all [if_neg,rH,nW]
def opP(st:PS):Int×PS:=
 if isD st [61]then(1,bf st)else if isD st [60]then(2,bf st)else if isD st [62]then(3,bf st)else(0,bl st)
theorem TA{st:PS}(h:WfP st):Ah st (opP st).2:=by
 grind [opP,eS,dw,nW]
def gr(st:PS):bN×PS:=(⟨(fS st).1,(opP (fS st).2).1,(aC (opP (fS st).2).2).1⟩,(aC (opP (fS st).2).2).2)
theorem pZ{st:PS}(h:WfP st):Ah st (gr st).2:=by
 have h1:=BB h;have h2:=TA h1.1;exact(h1.trans h2).trans (CB h2.1)
def fL{α:Type}(one:PS→α×PS)(w:Txt)(most:Nat):Nat→PS→List α→List α×PS
 |0,st,l=>(l,st)
 |f+1,st,l=>if isD st w=true then fL one w most f (bC (one (bf st)).2 (decide (most<l.length+1))) (l++ [(one (bf st)).1])else(l,st)
theorem sQ{α:Type}{one:PS→α×PS}(ho:∀st,WfP st→Ah st (one st).2)(w:Txt)(most:Nat):∀(f:Nat) (st:PS) (l:List α),WfP st→Ah st (fL one w most f st l).2
 |0,st,l,h=> .refl h
 |f+1,st,l,h=>by
  unfold fL;split
  ·rename_i hi
   have h1:=eS h (dw hi);have h2:=ho _ h1.1;have h3:=kQ (decide (most<l.length+1)) h2.1;exact((h1.trans h2).trans h3).trans (sQ ho w most f _ _ h3.1)
  ·exact aeR
def orT:Txt:=[111,114]
def CD:Txt:=[97,110,100]
def EJ:Txt:=[119,104,101,110]
def pR(st:PS):List bN×PS:=fL gr [44] 8 st.ts.length (gr st).2 [(gr st).1]
theorem Bz{st:PS}(h:WfP st):Ah st (pR st).2:=(pZ h).trans (sQ (fun _ h=>pZ h) _ _ _ _ _ (pZ h).1)
def rJ(st:PS):List (List bN)×PS:=
 let a:=pR (dP st [40])
 let m:=fL pR orT 8 st.ts.length a.2 [a.1]
 (m.1,dP m.2 [41])
theorem BA{st:PS}(h:WfP st):Ah st (rJ st).2:=by
 have h0:=jc [40] h;have h1:=Bz h0.1;have h2:=sQ (fun _ h=>Bz h) orT 8 st.ts.length _ [(pR (dP st [40])).1] h1.1
 exact((h0.trans h1).trans h2).trans (jc [41] h2.1)
def gJ(st:PS):fW×PS:=if isD st EJ=true then fL rJ CD 8 st.ts.length (rJ (bf st)).2 [(rJ (bf st)).1]else([],st)
theorem BF{st:PS}(h:WfP st):Ah st (gJ st).2:=by
 unfold gJ;split
 ·rename_i hi
  have h0:=eS h (dw hi);have h1:=BA h0.1;exact(h0.trans h1).trans (sQ (by grind [BA]) _ _ _ _ _ h1.1)
 ·exact aeR
def lH:List Txt:=[[111,110,101],[115,105,122,101],[104,97,115],[101,113],[108,101,115,115],[97,100,100],[115,117,98],[109,117,108],[110,111,116],[97,110,100],[111,114]]
def opers(op:Int):List Bool:=if op=3∨op=4 then [true]else if op=5 then [true,false]else if op=11 then [false]else [false,false]
abbrev ExF:=PS→List aN→(List aN×Bool)×PS
def ig(ex:ExF)(st:PS)(l:List aN)(must:Bool):List aN×PS:=
 ((ex st l).1.1,if(ex st l).1.2=must then(ex st l).2 else bF (ex st l).2 5 (aI st).pos)
def jn(ex:ExF):List Bool→PS→List aN→List aN×PS
 | [],st,l=>(l,st)
 |b::bs,st,l=>if st.bad=0 then jn ex bs (ig ex st l b).2 (ig ex st l b).1 else(l,st)
def qv(ex:ExF)(st:PS)(l:List aN):(List aN×aN)×PS:=
 (((jn ex (opers (2+(aV st lH).1)) (aV st lH).2 l).1,⟨2+(aV st lH).1,⟨0,0,[]⟩,⟨0,[],false⟩⟩),dP (jn ex (opers (2+(aV st lH).1)) (aV st lH).2 l).2 [41])
def iX(ex:ExF)(st:PS)(l:List aN):(List aN×aN)×PS:=
 if isD st [40]=true then qv ex (bf st) l
 else if(aI st).kind=1∧(aI st).s≠wL∧(aI st).s≠qs then((l,⟨2,⟨0,0,[]⟩,(fS st).1⟩),(fS st).2)
 else((l,⟨1,(aC st).1,⟨0,[],false⟩⟩),(aC st).2)
def ew:Nat→ExF
 |0,st,l=>((l,false),st)
 |f+1,st,l=>(((iX (ew f) st l).1.1++ [(iX (ew f) st l).1.2],(iX (ew f) st l).1.2.op==2),bC (iX (ew f) st l).2 (decide (32<(iX (ew f) st l).1.1.length+1)))
def EO(ex:ExF):Prop:=∀st l,WfP st→Ah st (ex st l).2∧(ex st l).1.1.length+2*st.pos≤l.length+2*(ex st l).2.pos+1
theorem yO{ex:ExF}(he:EO ex)(st:PS)(l:List aN)(b:Bool)(h:WfP st):Ah st (ig ex st l b).2∧(ig ex st l b).1.length+2*st.pos≤l.length+2*(ig ex st l b).2.pos+1:=by
 obtain⟨h1,h2⟩:=he st l h;unfold ig;split
 ·grind
 ·refine⟨h1.trans (xF _ _ h1.1),?_⟩
  grind [bF,aI]
theorem AU{ex:ExF}(he:EO ex):∀(bs:List Bool) (st:PS) (l:List aN),WfP st→Ah st (jn ex bs st l).2∧(jn ex bs st l).1.length+2*st.pos≤l.length+2*(jn ex bs st l).2.pos+bs.length
 | [],st,l,h=>⟨.refl h,by simp[jn]⟩
 |b::bs,st,l,h=>by
  unfold jn;split
  ·obtain⟨h1,h2⟩:=yO he st l b h
   obtain⟨h3,h4⟩:=AU he bs (ig ex st l b).2 (ig ex st l b).1 h1.1;exact⟨h1.trans h3,acv⟩
  ·exact⟨.refl h,acD⟩
theorem DS(op:Int):(opers op).length≤2:=by
 grind [opers]
theorem Ld{ex:ExF}(he:EO ex)(st:PS)(l:List aN)(h:WfP st):Ah st (qv ex st l).2∧(qv ex st l).1.1.length+2*st.pos≤l.length+2*(qv ex st l).2.pos+2:=by
 have h1:=gw lH h;obtain⟨h2,h3⟩:=AU he (opers (2+(aV st lH).1)) _ l h1.1;have h4:=jc [41] h2.1;have:=DS (2+(aV st lH).1);have p1:=h1.2.2;have p4:=h4.2.2;unfold qv;exact⟨(h1.trans h2).trans h4,acv⟩
theorem Dj{ex:ExF}(he:EO ex)(st:PS)(l:List aN)(h:WfP st):Ah st (iX ex st l).2∧(iX ex st l).1.1.length+2*st.pos≤l.length+2*(iX ex st l).2.pos:=by
 unfold iX;split
 ·rename_i hi
  have h1:=eS h (dw hi);obtain⟨h2,h3⟩:=Ld he _ l h1.1;have:(bf st).pos=st.pos+1:=rfl;exact⟨h1.trans h2,acu⟩
 ·split
  ·have h1:=BB h
   have:=h1.2.2;exact⟨h1,acv⟩
  ·have h1:=CB h
   have:=h1.2.2;exact⟨h1,acv⟩
theorem qq:∀f,EO (ew f)
 |0=>fun st l h=>⟨.refl h,by simp[ew]⟩
 |f+1=>fun st l h=>by
  obtain⟨h1,h2⟩:=Dj (qq f) st l h;have h3:=kQ (decide (32<(iX (ew f) st l).1.1.length+1)) h1.1;have:=h3.2.2;refine⟨h1.trans h3,?_⟩
  grind [ew,acn,List.length_singleton]
def u6:List Txt:=[[112,101,114,109,105,116],[100,101,110,121]]
def mw:List Txt:=[[108,111,103],[114,101,100,97,99,116],[114,101,118,105,101,119],[110,111,116,105,102,121]]
def wA:Txt:=[111,110]
def zT(st:PS):cA×PS:=
 (⟨(aV st u6).1,(aV (aV st u6).2 mw).1,(ck (aV (aV st u6).2 mw).2).1⟩,(ck (aV (aV st u6).2 mw).2).2)
theorem Kq{st:PS}(h:WfP st):Ah st (zT st).2:=by
 have h1:=gw u6 h;have h2:=gw mw h1.1;exact(h1.trans h2).trans (mW h2.1)
def gj(st:PS):List cA×PS:=fL zT wA 8 st.ts.length st []
theorem BD{st:PS}(h:WfP st):Ah st (gj st).2:=sQ (fun _ h=>Kq h) _ _ _ _ _ h
inductive Rch (a:PS):PS→Prop where
 |refl:Rch a a
 |wrong {b:PS} (e p:Int):Rch a b→(e=5∨e=6)→(∃i,i≤b.pos∧p=(b.ts.getD i ⟨7,0,0,[]⟩).pos)→Rch a (bF b e p)
 |next {b:PS}:Rch a b→b.bad=0→(aI b).kind≠7→Rch a (bf b)
theorem Rch.trans{a b c:PS}(x:Rch a b)(y:Rch b c):Rch a c:=by
 induction y with
 |refl=>exact x
 |wrong e p _ h1 h2 ih=>grind [wrong]
 |next _ h1 h2 ih=>grind [next]
theorem ko(st:PS):Rch st (bl st):=.wrong _ _ .refl (.inl rfl) ⟨st.pos,Nat.le_refl _,rfl⟩
theorem rD(st:PS)(b:Bool):Rch st (bC st b):=by
 unfold bC;split
 ·exact .wrong _ _ .refl (.inr rfl) ⟨st.pos,Nat.le_refl _,rfl⟩
 ·exact aeZ
theorem Hl{st:PS}{s:Txt}(h:isD st s=true):st.bad=0:=by
 simp_all [isD,Bool.and_eq_true,beq_iff_eq]
theorem sC{st:PS}{s:Txt}(h:isD st s=true):Rch st (bf st):=.next .refl (Hl h) (dw h)
theorem Mg(st:PS)(s:Txt):Rch st (cm st s).2:=by
 unfold cm;split
 ·grind [sC]
 ·exact aeZ
theorem mJ(st:PS)(s:Txt):Rch st (dP st s):=by
 grind [dP,sC,ko]
theorem tY(st:PS):Rch st (ck st).2:=by
 unfold ck;split
 ·rename_i h;exact .next .refl h.2 acu
 ·simp only;split
  ·exact aeZ
  grind [ko]
theorem mq(st:PS)(ws:List Txt):Rch st (aV st ws).2:=by
 unfold aV;split
 ·split
  ·rename_i h;exact .next .refl h.2 acu
  grind [ko]
 grind [ko]
theorem D9(st:PS):Rch st (fS st).2:=(((mq st vF).trans (mJ _ [46])).trans (tY _)).trans (Mg _ [33])
theorem A7(st:PS):Rch st (aC st).2:=by
 unfold aC;rcases uh st with⟨e,hk⟩|e
 ·rw[e];split
  ·rename_i h;exact .next .refl h hk
  ·exact aeZ
 simp_all [if_neg,rH,ko]
theorem RL(st:PS):Rch st (opP st).2:=by
 grind [opP,sC,ko]
theorem A5(st:PS):Rch st (gr st).2:=((D9 st).trans (RL _)).trans (A7 _)
theorem qR{α:Type}{one:PS→α×PS}(ho:∀st,Rch st (one st).2)(w:Txt)(most:Nat):∀(f:Nat) (st:PS) (l:List α),Rch st (fL one w most f st l).2
 |0,st,l=> .refl
 |f+1,st,l=>by
  unfold fL;split
  ·rename_i h
   exact(((sC h).trans (ho _)).trans (rD _ _)).trans (qR ho w most f _ _)
  ·exact aeZ
theorem HL(st:PS):Rch st (pR st).2:=(A5 st).trans (qR A5 _ _ _ _ _)
theorem HM(st:PS):Rch st (rJ st).2:=(((mJ st [40]).trans (HL _)).trans (qR HL orT 8 st.ts.length _ [(pR (dP st [40])).1])).trans (mJ _ [41])
theorem HN(st:PS):Rch st (gJ st).2:=by
 unfold gJ;split
 ·rename_i h;exact((sC h).trans (HM _)).trans (qR HM _ _ _ _ _)
 ·exact aeZ
theorem OB(st:PS):Rch st (zT st).2:=((mq st u6).trans (mq _ mw)).trans (tY _)
theorem Ed(st:PS):Rch st (gj st).2:=qR OB _ _ _ _ _
theorem rE{a b:PS}(h:Rch a b):b.ts=a.ts∧a.pos≤b.pos∧b.rules=a.rules:=by
 induction h with
 |refl=>simp
 |wrong e p _ _ _ ih=>
  grind [bF]
 |next _ _ _ ih=>exact⟨ih.1,Nat.le_succ_of_le ih.2.1,ih.2.2⟩
theorem Ee{ex:ExF}(he:∀st l,Rch st (ex st l).2)(st:PS)(l:List aN)(b:Bool):Rch st (ig ex st l b).2:=by
 unfold ig;simp only;split
 ·grind
 ·have:=rE (he st l)
  exact .wrong _ _ (he st l) (.inl rfl) ⟨st.pos,this.2.1,by rw[this.1];rfl⟩
theorem A6{ex:ExF}(he:∀st l,Rch st (ex st l).2):∀(bs:List Bool) (st:PS) (l:List aN),Rch st (jn ex bs st l).2
 | [],st,l=> .refl
 |b::bs,st,l=>by
  unfold jn;split
  ·exact(Ee he st l b).trans (A6 he bs _ _)
  ·exact aeZ
theorem Ea:∀(f:Nat) (st:PS) (l:List aN),Rch st (ew f st l).2
 |0,st,l=> .refl
 |f+1,st,l=>by
  refine Rch.trans ?_ (rD _ _);unfold iX;split
  ·rename_i h
   exact(sC h).trans (((mq _ lH).trans (A6 (Ea f) _ _ _)).trans (mJ _ [41]))
  grind [D9,A7]
def ifT:Txt:=[105,102]
def o7:Txt:=[112,101,114,109,105,116]
def iU:Txt:=[100,101,110,121]
def o8:Txt:=[112,111,108,105,99,121]
def Gc:Txt:=[115,101,116]
def mG:List Txt:=[o8,Gc]
def xH:List Txt:=[[100,101,110,121,111,118,101,114],[112,101,114,109,105,116,111,118,101,114],[102,105,114,115,116],[111,110,108,121],[100,101,110,121,117,110,108,101,115,115],[112,101,114,109,105,116,117,110,108,101,115,115]]
def qn(st:PS):List aN×PS:=if isD st ifT=true then ig (ew st.ts.length) (bf st) [] false else([],st)
theorem Mf(st:PS):Rch st (qn st).2:=by
 unfold qn;split
 ·rename_i h;exact(sC h).trans (Ee (Ea _) _ _ _)
 ·exact aeZ
theorem GG{st:PS}(h:WfP st):Ah st (qn st).2:=by
 unfold qn;split
 ·rename_i hi
  have h1:=eS h (dw hi);exact h1.trans (yO (qq _) _ _ _ h1.1).1
 ·exact aeR
def pP(deny:Bool)(st:PS):cK×PS:=
 (⟨(ck st).1,deny,(gJ (ck st).2).1,(qn (gJ (ck st).2).2).1,(gj (qn (gJ (ck st).2).2).2).1⟩,dP (gj (qn (gJ (ck st).2).2).2).2 [59])
theorem zb(deny:Bool)(st:PS):Rch st (pP deny st).2:=((((tY st).trans (HN _)).trans (Mf _)).trans (Ed _)).trans (mJ _ [59])
theorem BE(deny:Bool){st:PS}(h:WfP st):Ah st (pP deny st).2:=by
 have h1:=mW h;have h2:=BF h1.1;have h3:=GG h2.1;have h4:=BD h3.1;exact(((h1.trans h2).trans h3).trans h4).trans (jc [59] h4.1)
inductive nK (a:PS):PS→Prop where
 |refl:nK a a
 |small {b c:PS}:nK a b→Rch b c→nK a c
 |rule {b:PS}:nK a b→b.bad=0→b.rules≠64→(aI b).kind≠7→nK a {bf b with rules:=b.rules+1}
theorem nK.trans{a b c:PS}(x:nK a b)(y:nK b c):nK a c:=by
 induction y with
 |refl=>exact x
 |small _ h1 ih=>grind [small]
 |rule _ h1 h2 h3 ih=>grind [rule]
theorem Rch.big{a b:PS}(h:Rch a b):nK a b:=.small .refl h
def jQ:Nat→PS→List cK→List cK×PS
 |0,st,l=>(l,st)
 |f+1,st,l=>if isD st o7=true∨isD st iU=true then
   if l.length=16∨st.rules=64 then(l,bC st true)
   else jQ f (pP (isD st iU) {bf st with rules:=st.rules+1}).2 (l++ [(pP (isD st iU) {bf st with rules:=st.rules+1}).1])
  else(l,st)
abbrev PoF:=PS→bG×PS
def jK(pol:PoF)(deep:Bool):Nat→PS→List bG→List bG×PS
 |0,st,l=>(l,st)
 |f+1,st,l=>if isD st o8=true∨isD st Gc=true then
   if l.length=16∨deep=true then(l,bC st true)
   else jK pol deep f (pol st).2 (l++ [(pol st).1])
  else(l,st)
def cO(st:PS):(Bool×Txt×Int×fW)×PS:=
 (((aV st mG).1==2,(ck (aV st mG).2).1,(aV (ck (aV st mG).2).2 xH).1,(gJ (aV (ck (aV st mG).2).2 xH).2).1),dP (gJ (aV (ck (aV st mG).2).2 xH).2).2 [123])
theorem Eb(st:PS):Rch st (cO st).2:=((((mq st mG).trans (tY _)).trans (mq _ xH)).trans (HN _)).trans (mJ _ [123])
theorem Nn{st:PS}(h:WfP st):Ah st (cO st).2:=by
 have h1:=gw mG h;have h2:=mW h1.1;have h3:=gw xH h2.1;have h4:=BF h3.1;exact(((h1.trans h2).trans h3).trans h4).trans (jc [123] h4.1)
def pJ(pol:PoF)(deep:Bool)(set:Bool)(st:PS):(List cK×List bG)×PS:=
 if set=true then(([],(jK pol deep 17 st []).1),(jK pol deep 17 st []).2)else(((jQ 17 st []).1,[]),(jQ 17 st []).2)
def gy:Nat→PoF
 |0,st=>(.mk [] false 0 [] [] [] [],st)
 |r+1,st=>(.mk (cO st).1.2.1 (cO st).1.1 (cO st).1.2.2.1 (cO st).1.2.2.2 (pJ (gy r) (r==0) (cO st).1.1 (cO st).2).1.1 (pJ (gy r) (r==0) (cO st).1.1 (cO st).2).1.2
   (gj (dP (pJ (gy r) (r==0) (cO st).1.1 (cO st).2).2 [125])).1,(gj (dP (pJ (gy r) (r==0) (cO st).1.1 (cO st).2).2 [125])).2)
theorem mE{st:PS}{a b:Txt}(h:isD st a=true∨isD st b=true):st.bad=0∧(aI st).kind≠7:=by
 grind [Hl,dw]
theorem xE{st:PS}(h:WfP st)(hk:(aI st).kind≠7):Ah st {bf st with rules:=st.rules+1}:=eS h hk
theorem GI:∀(f:Nat) (st:PS) (l:List cK),WfP st→Ah st (jQ f st l).2
 |0,st,l,h=> .refl h
 |f+1,st,l,h=>by
  unfold jQ;split
  ·rename_i hi
   split
   ·exact kQ true h
   ·have h1:=xE h (mE hi).2
    have h2:=BE (isD st iU) h1.1;exact(h1.trans h2).trans (GI f _ _ h2.1)
  ·exact aeR
theorem Ef:∀(f:Nat) (st:PS) (l:List cK),nK st (jQ f st l).2
 |0,st,l=> .refl
 |f+1,st,l=>by
  unfold jQ;split
  ·rename_i hi
   split
   ·exact(rD st true).big
   ·rename_i hn
    have h1:nK st {bf st with rules:=st.rules+1}:=.rule .refl (mE hi).1 acu (mE hi).2
    exact(h1.trans (zb (isD st iU) _).big).trans (Ef f _ _)
  ·exact aeZ
theorem GH{pol:PoF}(hp:∀st,WfP st→Ah st (pol st).2)(deep:Bool):∀(f:Nat) (st:PS) (l:List bG),WfP st→Ah st (jK pol deep f st l).2
 |0,st,l,h=> .refl h
 |f+1,st,l,h=>by
  unfold jK;split
  ·split
   ·exact kQ true h
   ·have h1:=hp st h
    exact h1.trans (GH hp deep f _ _ h1.1)
  ·exact aeR
theorem Ec{pol:PoF}(hp:∀st,nK st (pol st).2)(deep:Bool):∀(f:Nat) (st:PS) (l:List bG),nK st (jK pol deep f st l).2
 |0,st,l=> .refl
 |f+1,st,l=>by
  unfold jK;split
  ·split
   ·exact(rD st true).big
   ·exact(hp st).trans (Ec hp deep f _ _)
  ·exact aeZ
theorem BC{pol:PoF}(hp:∀st,WfP st→Ah st (pol st).2)(deep set:Bool){st:PS}(h:WfP st):Ah st (pJ pol deep set st).2:=by
 grind [pJ,GH,GI]
theorem Me{pol:PoF}(hp:∀st,nK st (pol st).2)(deep set:Bool)(st:PS):nK st (pJ pol deep set st).2:=by
 grind [pJ,Ec,Ef]
theorem xD:∀(r:Nat) (st:PS),WfP st→Ah st (gy r st).2
 |0,st,h=> .refl h
 |r+1,st,h=>by
  have h1:=Nn h;have h2:=BC (xD r) (r==0) (cO st).1.1 h1.1;have h3:=jc [125] h2.1;exact((h1.trans h2).trans h3).trans (BD h3.1)
theorem Ci:∀(r:Nat) (st:PS),nK st (gy r st).2
 |0,st=> .refl
 |r+1,st=>(((Eb st).big.trans (Me (Ci r) _ _ _)).trans (mJ _ [125]).big).trans (Ed _).big
theorem vh{a b:PS}(h:nK a b)(h0:a.rules≤64):b.rules≤64:=by
 induction h with
 |refl=>omega
 |small _ h1 ih=>rw[(rE h1).2.2];omega
 |rule _ _ h2 _ ih=>grind
theorem uU:∀(f:Nat) (s:Txt) (a:Nat) (out l:List pY),tE f s a out= .ok l→∃pre,l=out++pre++ [⟨7,(a+s.length:Nat),0,[]⟩]∧pre.length≤s.length∧∀t∈pre,(a:Int)≤t.pos∧t.pos<((a+s.length:Nat):Int)
 |0,_,_,_,_,h=>by grind [tE]
 |f+1,[],a,out,l,h=>by
  grind [tE,Lexed.ok.injEq]
 |f+1,c::r,a,out,l,h=>by
  simp only[tE]at h;split at h
  ·obtain⟨pre,e1,e2,e3⟩:=uU f r (a+1) out l h
   grind
  ·split at h
   ·cases h
   ·rename_i hn
    have hle:=rX (c::r) acD;obtain⟨pre,e1,e2,e3⟩:=uU f _ _ _ l h;have ee:((a+(bP (c::r)).2+((c::r).drop (bP (c::r)).2).length:Nat):Int)=((a+(c::r).length:Nat):Int):=acv;refine⟨{(bP (c::r)).1 with pos:=a}::pre,acv,acv,fun t ht=>?_⟩
    grind
theorem AM{s:Txt}{ts:List pY}(h:qF s= .ok ts):∃pre,ts=pre++ [⟨7,s.length,0,[]⟩]∧pre.length≤s.length∧(∀t∈pre,0≤t.pos∧t.pos<(s.length:Int))∧s.length≤4096:=by
 grind [qF,uU]
theorem J7{s:Txt}{ts:List pY}(h:qF s= .ok ts)(x:Nat)(e p:Int):WfP ⟨ts,0,x,e,p⟩:=by
 obtain⟨pre,rfl,h2,_,h3⟩:=AM h;refine⟨acD,fun i hi hk=>?_,acv⟩
 grind
theorem yB:∀(f:Nat) (s:Txt) (a:Nat) (out:List pY) (e p:Int),tE f s a out= .bad e p→e=5∧0≤p∧(s.length<f→p≤((a+s.length:Nat):Int))
 |0,s,a,out,e,p,h=>by
  simp only[tE,Lexed.bad.injEq]at h;omega
 |f+1,[],a,out,e,p,h=>by grind [tE]
 |f+1,c::r,a,out,e,p,h=>by
  simp only[tE]at h;split at h
  ·obtain⟨h1,h2,h3⟩:=yB f r (a+1) out e p h
   grind
  ·split at h
   ·grind
   ·obtain⟨h1,h2,h3⟩:=yB f _ _ _ e p h
    grind [rX,List.length_drop]
theorem tD{s:Txt}{e a:Int}(h:qF s= .bad e a):(e=5∨e=6)∧0≤a∧a≤s.length:=by
 unfold qF at h;split at h
 ·grind
 ·obtain⟨h1,h2,h3⟩:=yB _ _ _ _ _ _ h
  omega
def oE:bG:=.mk [] false 0 [] [] [] []
def pS(s:Txt)(x:bG×PS):PS:=
 if(if(aI x.2).kind=7 then x.2 else bl x.2).bad=0∧gu x.1≠0 then bF (if(aI x.2).kind=7 then x.2 else bl x.2) 5 s.length else(if(aI x.2).kind=7 then x.2 else bl x.2)
def yQ(s:Txt)(ts:List pY):bG×Int×Int:=
 if(pS s (gy 4 ⟨ts,0,0,0,0⟩)).bad=0 then((gy 4 ⟨ts,0,0,0,0⟩).1,0,0)else(oE,(pS s (gy 4 ⟨ts,0,0,0,0⟩)).bad,(pS s (gy 4 ⟨ts,0,0,0,0⟩)).place)
def aQ(s:Txt):bG×Int×Int:=match qF s with
 |.bad e a=>(oE,e,a)
 |.ok ts=>yQ s ts
end Go.Bf
namespace Go.Proofs.YtcochaoekecfdaaGreatDoor
open Go Go.Ab Go.Bf
def Byt(g:FuncId)(p:UInt8→Bool):Prop:=∀(c:UInt8) (h:Heap),ai Tryz.prog g [.v (.int .u8 c.toNat)] h fun r h' =>r= .b (p c)∧h' =h
theorem mF:Byt 197 dgt:=fun c h=>by
 refine acs Tryz.func197 9 [.tmp 2] fun hwf=>?_
 cases d1:decide (48≤(c.toNat:Int))<;>cases d2:decide ((c.toNat:Int)≤57)
 all_goals
  simp only[go_sem,d1,d2];exact .same (.refl _) ⟨by simp only[dgt,d1,d2];rfl,rfl⟩
theorem Je:Byt 234 wrd:=fun c h=>by
 refine acs Tryz.func234 17 [.tmp 2] fun hwf=>?_
 cases d1:decide (97≤(c.toNat:Int))<;>cases d2:decide ((c.toNat:Int)≤122)<;>cases d3:dgt c<;>cases d4:((c.toNat:Int)==95)
 all_goals
  simp only[go_sem,d1,d2]
  first
   |exact .same (.refl _) ⟨by simp only[wrd,ltr,d1,d2,d3,d4];rfl,rfl⟩
   |(refine(mF c _).pthen ?_;simp only[go_sem,d3,d4];exact .same (.refl _) ⟨by simp only[wrd,ltr,d1,d2,d3,d4];rfl,rfl⟩)
theorem DZ:Byt 235 (fun c=> !tG c):=fun c h=>by
 refine acs Tryz.func235 17 [.tmp 2] fun hwf=>?_
 cases d1:decide (32≤(c.toNat:Int))<;>cases d2:decide ((c.toNat:Int)≤126)<;>cases d3:((c.toNat:Int)==34)<;>cases d4:((c.toNat:Int)==92)
 all_goals
  simp only[go_sem,d1,d2,d3,d4,bne];refine .same (.refl _) ⟨?_,rfl⟩;have e1:decide ((c.toNat:Int)<32)= !decide (32≤(c.toNat:Int)):=by
   grind
  have e2:decide (126<(c.toNat:Int))= !decide ((c.toNat:Int)≤126):=by
   grind
  simp only[tG,e1,e2,d1,d2,d3,d4];rfl
theorem OX(p:UInt8→Bool)(s:Txt)(i:Nat)(hi:i<s.length)(h:i≤(s.takeWhile p).length)(hp:p s[i]=true):i+1≤(s.takeWhile p).length:=by
 exact ahm
theorem UT(p:UInt8→Bool)(s:Txt)(i:Nat)(hi:i<s.length)(h:i≤(s.takeWhile p).length)(hp:p s[i]=false):(s.takeWhile p).length=i:=by
 exact ahm
theorem Ms(g:FuncId)(p:UInt8→Bool)(hg:Byt g p)(s:Txt)(h:Heap):ai Tryz.prog 233 [.s s,.fn g []] h fun r h' =>r= .v (.int .i64 (s.takeWhile p).length)∧h' =h:=by
 refine acs Tryz.func233 20 [.tmp 4] fun hwf=>?_
 have hlen:=hwf (.s s) acD;simp only[wfA,wf1,lim]at hlen;simp only[go_sem];refine .intro (fun m ρ h' =>h' =h∧∃i:Nat,i≤s.length∧m=s.length - i∧i≤(s.takeWhile p).length∧lk ρ 0=some (.s s)∧lk ρ 1=some (.fn g [])∧lk ρ 5=some (.i i)) s.length ?_ ?_
 ·refine⟨rfl,0,acu,rfl,acu,?_,?_,?_⟩<;>simp only[go_sem]
 ·rintro m ρ h' ⟨rfl,i,hi,rfl,hc,r0,r1,r5⟩
  cases d1:decide ((i:Int)<(s.length:Int))
  ·have hge:i=s.length:=by grind
   have:=jS p s;simp only[go_sem,r0,r5,d1];exact .same (.refl _) ⟨by grind [ax],rfl⟩
  ·have hlt:i<s.length:=by grind
   have w1:IntKind.i64.wrap ((i:Int)+1)=((i+1:Nat):Int):=acI;simp only[go_sem,r0,r1,r5,d1];refine .at i hlt ?_;simp only[go_sem,aJ];refine(hg s[i] _).pthen ?_;cases d2:p s[i]
   ·have:=UT p s i hlt hc d2
    simp only[go_sem,r5];exact .same (.refl _) ⟨by rw[this];rfl,rfl⟩
   ·simp only[go_sem,r5,w1]
    refine⟨_,?_,rfl,i+1,acu,rfl,OX p s i hlt hc d2,?_,?_,?_⟩
    ·omega
    all_goals simp only[go_sem,r0,r1]
theorem yK(s:Txt)(h:Heap):ai Tryz.prog 196 [.s s] h fun r h' =>r= .s (jB s)∧h' =h:=by
 refine acs Tryz.func196 12 [.tmp 2] fun hwf=>?_
 simp only[go_sem];refine(Ms _ _ Je s _).pthen ?_;simp only[go_sem];refine⟨acu,acu,?_⟩;simp only[go_sem,Option.isSome_none,Option.isSome_some,xe,Int.toNat_natCast,qZ];refine⟨by grind [jS,wrd],?_⟩
 refine(oU _ _).pthen ?_;cases d1:bh (s.takeWhile wrd)
 ·exact aim
 ·exact aim
theorem wr8{x:Int}(h:0≤x∧x<256):IntKind.u8.wrap x=x:=by
 grind [IntKind.wrap,IntKind.signed,IntKind.bits]
theorem sW(c:UInt8)(h:Heap):ai Tryz.prog 267 [.v (.int .u8 c.toNat)] h fun r h' =>r= .i (jD c)∧h' =h:=by
 refine acs Tryz.func267 20 [.tmp 2] fun hwf=>?_
 have hc:=c.toNat_lt;simp only[go_sem];refine(mF c _).pthen ?_;cases d1:dgt c
 case true=>
  have e1:48≤(c.toNat:Int)∧(c.toNat:Int)≤57:=by grind [dgt]
  have w1:IntKind.u8.wrap ((c.toNat:Int) - 48)=(c.toNat:Int) - 48:=wr8 acu;have w2:IntKind.i64.wrap ((c.toNat:Int) - 48)=(c.toNat:Int) - 48:=bg _ acu;simp only[go_sem,w1,w2];exact .same (.refl _) ⟨by grind [jD,ax],rfl⟩
 cases d2:decide (97≤(c.toNat:Int))<;>cases d3:decide ((c.toNat:Int)≤102)
 case true.true=>
  have e2:=ack d2;have e3:=ack d3;have w1:IntKind.u8.wrap ((c.toNat:Int) - 97)=(c.toNat:Int) - 97:=wr8 acu;have w2:IntKind.i64.wrap ((c.toNat:Int) - 97)=(c.toNat:Int) - 97:=bg _ acu;have w3:IntKind.i64.wrap ((c.toNat:Int) - 97+10)=(c.toNat:Int) - 87:=acI;simp only[go_sem,d2,d3,w1,w2,w3];exact .same (.refl _) ⟨by grind [jD,ax],rfl⟩
 all_goals
  simp only[go_sem,d2,d3];simp only[decide_eq_true_eq,decide_eq_false_iff_not]at d2 d3;refine .same (.refl _) ⟨?_,rfl⟩
  grind [Int,jD,ax]
theorem Hg(c:UInt8): -1≤jD c∧jD c≤15:=by
 grind [jD,dgt]
theorem MM(n:Nat)(h:n<256):((UInt8.ofNat n).toNat:Int)=n:=by
 simp;omega
theorem RA(s:Txt)(h:Heap):ai Tryz.prog 236 [.s s] h fun r h' =>(∃x:Int,r= .tup [.v (.int .u8 x),.v (.bool (tH s).isSome)]∧∀c,tH s=some c→x=c.toNat)∧h' =h:=by
 refine acs Tryz.func236 38 [.tmp 2,.tmp 3] fun hwf=>?_
 have hlen:=hwf (.s s) acD;simp only[wfA,wf1,lim]at hlen;cases d0:decide ((s.length:Int)<3)
 case true=>
  have e0:s.length<3:=acv;have:tH s=none:=by
   match s,e0 with
   | [],_=>rfl
   | [_],_=>rfl
   | [_,_],_=>rfl
  simp only[go_sem,d0];exact .same (.refl _) ⟨⟨0,by rw[this];rfl,fun c hc=>acv⟩,rfl⟩
 have e0:3≤s.length:=acv;obtain⟨b,x,y,t,rfl⟩:∃b x y t,s=b::x::y::t:=by
  match s,e0 with
  |b::x::y::t,_=>exact⟨b,x,y,t,rfl⟩
 simp only[List.length_cons]at d0;have bad:tH (b::x::y::t)=none→∃z:Int,AV.tup [.v (.int .u8 0),.b false]= .tup [.v (.int .u8 z),.v (.bool (tH (b::x::y::t)).isSome)]∧∀c,tH (b::x::y::t)=some c→z=c.toNat:=
  fun e=>⟨0,acv,fun c hc=>acv⟩
 cases d1:((b.toNat:Int) !=92)
 case true=>
  have e1:b≠92:=by rintro rfl;grind
  simp only[go_sem,d0];refine .at 0 acD ?_;simp only[go_sem,aJ,List.getElem_cons_zero,d1];exact ah4
 have e1:b=92:=by
  have:(b.toNat:Int)=92:=acv;exact UInt8.toNat_inj.1 acv
 simp only[go_sem,d0];refine .at 0 acD ?_;simp only[go_sem,aJ,List.getElem_cons_zero,d1];refine .at 1 acD ?_;simp only[go_sem,aJ,List.getElem_cons_zero,List.getElem_cons_succ];refine(sW x _).pthen ?_;cases d2:decide (jD x<0)
 case true=>
  have e2:=ack d2;simp only[go_sem,d2];exact ah4
 have e2:0≤jD x:=acv;simp only[go_sem,d2];refine .at 2 acD ?_;simp only[go_sem,aJ,List.getElem_cons_zero,List.getElem_cons_succ];refine(sW y _).pthen ?_;cases d3:decide (jD y<0)
 case true=>
  have e3:=ack d3;simp only[go_sem,d3];exact ah4
 have e3:0≤jD y:=acv;have hx:=Hg x;have hy:=Hg y;have w1:IntKind.i64.wrap (16*jD x)=16*jD x:=bg _ acu;have w2:IntKind.i64.wrap (16*jD x+jD y)=16*jD x+jD y:=bg _ acu;have w3:IntKind.u8.wrap (16*jD x+jD y)=((UInt8.ofNat (16*jD x+jD y).toNat).toNat:Int):=by
  grind [wr8,MM]
 simp only[go_sem,d3];refine .quiet acw ?_;simp only[go_sem];refine .at 1 acD ?_;simp only[go_sem,aJ,List.getElem_cons_zero,List.getElem_cons_succ];refine⟨_,sW x _,?_⟩;simp only[go_sem];refine .at 2 acD ?_;simp only[go_sem,aJ,List.getElem_cons_zero,List.getElem_cons_succ];refine⟨_,sW y _,?_⟩;simp only[go_sem,w1,w2,w3];refine(DZ _ _).pthen ?_;simp only[go_sem];refine .same (.refl _) ⟨⟨((UInt8.ofNat (16*jD x+jD y).toNat).toNat:Int),?_,fun c hc=>?_⟩,rfl⟩
 ·grind [tG,UInt8.ofNat,jD,tH,ax]
 grind [tH]
theorem u5z:(U 5).sz=1:=acK
theorem u5b:(U 5).bytes=1:=acK
theorem nc(l:List UInt8):Sized 1 (l.map aJ):=fun z hz=>by
 obtain⟨c,_,rfl⟩:=List.mem_map.1 hz;rfl
theorem HV(s:Txt)(hs:s.length≤10000)(h:Heap):ai Tryz.prog 199 [.s s] h fun r h' =>r= .tup [.s (zu s).1,.v (.int .i64 (zu s).2)]∧h' =h:=by
 refine acs Tryz.func199 50 [.tmp 2,.tmp 3] fun hwf=>?_
 simp only[go_sem];refine .intro (fun m ρ h' =>∃(i f:Nat) (y:AV) (out:Txt),Acc U 5 h h' y (out.map aJ)∧out.length≤i∧m=s.length+1 - i∧i≤s.length+3∧s.length≤f+i∧ud f (s.drop i) i out=zu s∧lk ρ 0=some (.s s)∧lk ρ 4=some y∧lk ρ 5=some (.i i)) s.length ?_ ?_
 ·refine⟨1,s.length,.sl [] .full,[],.full (.refl _),acD,acu,acu,acu,rfl,?_,?_,?_⟩<;>simp only[go_sem]
 ·rintro m ρ h' ⟨i,f,y,out,hy,hoi,rfl,hi,hf,he,r0,r4,r5⟩
  cases d1:decide ((i:Int)<(s.length:Int))
  ·have hge:s.length≤i:=by grind
   have hd:s.drop i= []:=List.drop_of_length_le hge;have:zu s=([],0):=by
    rw[←he,hd];cases f<;>rfl
   simp only[go_sem,r0,r5,d1];exact .mk _ (.refl _) hy.1 ⟨by rw[this];rfl,rfl⟩
  have hlt:i<s.length:=acv;obtain⟨f,rfl⟩:∃g,f=g+1:=⟨f - 1,acu⟩;have hdr:s.drop i=s[i]::s.drop (i+1):=List.drop_eq_getElem_cons hlt;rw[hdr]at he;simp only[ud]at he;have w1:IntKind.i64.wrap ((i:Int)+1)=((i+1:Nat):Int):=acI;have w3:IntKind.i64.wrap ((i:Int)+3)=((i+3:Nat):Int):=acI;simp only[go_sem,r0,r5,d1];refine .at i hlt ?_;cases d2:((s[i].toNat:Int)==34)
  case true=>
   have e2:s[i]=34:=by
    have:(s[i].toNat:Int)=34:=acv;exact UInt8.toNat_inj.1 acv
   rw[if_pos e2]at he;cases d3:decide (64<(out.length:Int))
   case true=>
    have e3:64<out.length:=acv;rw[if_pos e3]at he;simp only[go_sem,r4,aJ,d2,hy.len,aci,d3];exact ahY
   have e3:¬64<out.length:=acv;rw[if_neg e3]at he;simp only[go_sem,r4,aJ,d2,hy.len,aci,d3];obtain⟨q,rfl⟩:=hy.row;simp only[go_sem,r5,w1];exact ahY
  have e2:s[i]≠34:=by intro e;simp_all
  rw[if_neg e2]at he;simp only[go_sem,r0,r5,aJ,d2];refine .at i hlt ?_;simp only[go_sem,aJ];refine(DZ _ _).pthen ?_;cases d4:tG s[i]
  ·rw[if_pos d4]at he
   simp only[go_sem,r0,r4,r5,d4];refine .at i hlt ?_;simp only[go_sem,aJ];refine hy.app (zs:=[aJ s[i]]) acz acz (fun k hk=>hk) (by grind [u5z,nc]) (by rw[u5z];exact nc [s[i]]) (by grind [u5b]) fun y' h2 hy' hk2=>?_
   simp only[go_sem,r5,w1];refine⟨_,?_,i+1,f,y',out++ [s[i]],acv,acv,rfl,acu,acu,he,?_,?_,?_⟩
   ·omega
   all_goals simp only[go_sem,r0]
  ·rw[if_neg acv]at he
   simp only[go_sem,r0,r5,d4];refine⟨acu,?_⟩;simp only[go_sem,Option.isSome_none,Option.isSome_some,lR,Int.toNat_natCast];refine⟨acu,acu,?_⟩;refine(RA _ _).mono fun x h2 hx=>?_
   obtain⟨⟨v,rfl,hv⟩,rfl⟩:=hx;rw[←hdr]at he;cases e5:tH (s.drop i)with
   |none=>
    rw[e5]at he;simp only[go_sem,Option.isSome_none];exact ahY
   |some b=>
    rw[e5]at he;have hvb:=hv b e5;subst hvb;have h3:=DN e5;simp only[List.length_drop]at h3;simp only[go_sem,r4,Option.isSome_some];refine hy.app (zs:=[aJ b]) acz acz (fun k hk=>hk) (by grind [u5z,nc]) (by rw[u5z];exact nc [b]) (by grind [u5b]) fun y' h2 hy' hk2=>?_
    simp only[go_sem,r5,w3];refine⟨_,?_,i+3,f,y',out++ [b],acv,acv,rfl,acu,acu,?_,?_,?_,?_⟩
    ·omega
    ·simp_all
    all_goals simp only[go_sem,r0]
end Go.Proofs.YtcochaoekecfdaaGreatDoor
namespace Go.Bf
open Go Go.Ab
theorem GN(c:UInt8):dgt c=true↔48≤c.toNat∧c.toNat≤57:=by
 simp only[dgt,Bool.and_eq_true,decide_eq_true_eq];omega
def Iy(acc:Nat)(l:Txt):Nat:=l.foldl (fun n c=>n*10+(c.toNat - 48)) acc
theorem Au(acc:Nat)(c:UInt8)(r:Txt):Iy acc (c::r)=Iy (acc*10+(c.toNat - 48)) r:=List.foldl_cons ..
theorem CU:∀(l:Txt) (acc:Nat),acc≤Iy acc l
 | [],acc=>Nat.le_refl _
 |c::r,acc=>by rw[Au];exact Nat.le_trans acu (CU r (acc*10+(c.toNat - 48)))
theorem tM:∀(l:Txt) (acc:Nat),(∀c∈l,dgt c=true)→acc<18446744073709551616→
  Lib.parseUint10 acc l=if Iy acc l<18446744073709551616 then .ok (Iy acc l)else .range
 | [],acc,_,ha=>by
  have:Iy acc []=acc:=rfl;rw[this,if_pos ha];rfl
 |c::r,acc,hd,ha=>by
  have hc:=(GN c).1 (hd c acD);have hm:=CU r (acc*10+(c.toNat - 48));rw[Au];unfold Lib.parseUint10;rw[if_pos hc];split
  ·rw[if_neg acu]
  ·split
   ·rw[if_neg acu]
   ·exact tM r _ acv acu
def pQ(neg:Bool):Txt:=if neg then [45]else []
theorem vD(neg:Bool)(d:Txt)(h0:d≠ [])(hd:∀c∈d,dgt c=true):
  Lib.atoiAll (pQ neg++d)=if -9223372036854775808≤(if neg then -(mQ d:Int)else(mQ d:Int))∧(if neg then -(mQ d:Int)else(mQ d:Int))≤9223372036854775807 then .ok (if neg then -(mQ d:Int)else(mQ d:Int))else .range:=by
 have hp:Lib.parseMag d=if mQ d<18446744073709551616 then .ok (mQ d)else .range:=by
  unfold Lib.parseMag;rw[if_neg h0];exact tM d 0 hd acz
 cases neg
 ·obtain⟨c,r,rfl⟩:=List.exists_cons_of_ne_nil h0
  have hc:=(GN c).1 (hd c acD);simp only[pQ,Bool.false_eq_true,if_false,List.nil_append,Lib.atoiAll];rw[if_neg acu,hp];have e45:(c.toNat=45)=False:=acv;simp only[e45,not_false_eq_true,true_and,false_and,if_false];split
  ·rename_i h;split at h
   ·cases h
   ·cases h
  ·rename_i h;split at h
   ·cases h
   ·rw[if_neg acu]
  ·rename_i u h;split at h
   ·cases h
    split
    ·rw[if_neg acu]
    ·rw[if_pos acu]
   ·cases h
 ·simp only[pQ,if_true,List.cons_append,List.nil_append,Lib.atoiAll]
  rw[if_pos (.inr acz),hp];simp only[show((45:UInt8).toNat=45)=True by simp,not_true_eq_false,false_and,if_false,true_and,if_true]
  split
  ·rename_i h;split at h
   ·cases h
   ·cases h
  ·rename_i h;split at h
   ·cases h
   ·rw[if_neg acu]
  ·rename_i u h;split at h
   ·cases h
    split
    ·rw[if_neg acu]
    ·rw[if_pos acu]
   ·cases h
theorem Ac(s:Txt):∀c∈s.takeWhile dgt,dgt c=true:=fun c hc=>by
 induction s with
 |nil=>cases hc
 |cons x r ih=>
  simp only[List.takeWhile_cons]at hc
  grind
end Go.Bf
namespace Go.Proofs
open Go.Shelf
def Tryz.Dx:Go.Shelf.Ren:=⟨fun|137=>200|217=>237|266=>268|n=>n,fun|9=>9|5=>5|3=>3|n=>n,fun|n=>n⟩
theorem Tryz.Hq:Go.Proofs.Lays.n137 Tryz.prog Tryz.Dx:={
 mixed:=acK
 f137:=Tryz.func200.trans acK
 f217:=Tryz.func237.trans acK
 f266:=Tryz.func268.trans acK
 t3:=Tryz.underlying3
 a3:=Tryz.isAgg3
 z3:=Tryz.sizeOf3
 v3:=Tryz.zeroValue3
 t5:=Tryz.underlying5
 a5:=Tryz.isAgg5
 z5:=Tryz.sizeOf5
 v5:=Tryz.zeroValue5
 t9:=Tryz.underlying9
 a9:=Tryz.isAgg9
 z9:=Tryz.sizeOf9
 v9:=Tryz.zeroValue9}
open Go.RowKit in
theorem Tryz.strings_IndexByte(s:ByteArray)(c:Int)(w:World):
  Calls Tryz.prog 200 #[.string s,.int .u8 c] w fun e w' =>e= .returned (.int .i64 (Lib.indexByte s.data.toList c.toNat.toUInt8))∧w' =w:=Any.strings_IndexByte Tryz.Hq s c w
def Tryz.B6:Go.Shelf.Ren:=⟨fun|172=>154|244=>189|245=>190|247=>227|279=>228|280=>229|281=>230|282=>231|287=>263|316=>264|171=>151|205=>265|321=>292|322=>293|243=>187|246=>225|283=>256|284=>257|285=>258|286=>259|129=>287|317=>286|318=>288|319=>289|320=>290|337=>312|338=>313|n=>n,fun|9=>9|3=>3|75=>234|76=>235|4=>4|5=>5|167=>308|37=>41|0=>0|85=>309|2=>2|168=>311|53=>43|175=>344|46=>103|210=>347|127=>314|145=>382|143=>380|21=>21|171=>338|173=>341|212=>374|51=>153|20=>20|213=>375|232=>409|233=>410|80=>246|n=>n,fun|15=>1|16=>2|17=>3|18=>4|19=>5|n=>n⟩
theorem Tryz.Dy:Go.Proofs.LaysC.n172 Tryz.prog Tryz.B6:={
 mixed:=acK
 f129:=Tryz.func287.trans acK
 f171:=Tryz.func151.trans acK
 f172:=Tryz.func154.trans acK
 f205:=Tryz.func265.trans acK
 f243:=Tryz.func187.trans acK
 f244:=Tryz.func189.trans acK
 f245:=Tryz.func190.trans acK
 f246:=Tryz.func225.trans acK
 f247:=Tryz.func227.trans acK
 f279:=Tryz.func228.trans acK
 f280:=Tryz.func229.trans acK
 f281:=Tryz.func230.trans acK
 f282:=Tryz.func231.trans acK
 f283:=Tryz.func256.trans acK
 f284:=Tryz.func257.trans acK
 f285:=Tryz.func258.trans acK
 f286:=Tryz.func259.trans acK
 f287:=Tryz.func263.trans acK
 f316:=Tryz.func264.trans acK
 f317:=Tryz.func286.trans acK
 f318:=Tryz.func288.trans acK
 f319:=Tryz.func289.trans acK
 f320:=Tryz.func290.trans acK
 f321:=Tryz.func292.trans acK
 f322:=Tryz.func293.trans acK
 f337:=Tryz.func312.trans acK
 f338:=Tryz.func313.trans acK
 t0:=Tryz.underlying0
 a0:=Tryz.isAgg0
 z0:=Tryz.sizeOf0
 v0:=Tryz.zeroValue0
 t2:=Tryz.underlying2
 a2:=Tryz.isAgg2
 z2:=Tryz.sizeOf2
 v2:=Tryz.zeroValue2
 t3:=Tryz.underlying3
 a3:=Tryz.isAgg3
 z3:=Tryz.sizeOf3
 v3:=Tryz.zeroValue3
 t4:=Tryz.underlying4
 a4:=Tryz.isAgg4
 z4:=Tryz.sizeOf4
 v4:=Tryz.zeroValue4
 t5:=Tryz.underlying5
 a5:=Tryz.isAgg5
 z5:=Tryz.sizeOf5
 v5:=Tryz.zeroValue5
 t9:=Tryz.underlying9
 a9:=Tryz.isAgg9
 z9:=Tryz.sizeOf9
 v9:=Tryz.zeroValue9
 t20:=Tryz.underlying20
 a20:=Tryz.isAgg20
 z20:=Tryz.sizeOf20
 v20:=Tryz.zeroValue20
 t21:=Tryz.underlying21
 a21:=Tryz.isAgg21
 z21:=Tryz.sizeOf21
 v21:=Tryz.zeroValue21
 t37:=Tryz.underlying41
 a37:=Tryz.isAgg41
 z37:=Tryz.sizeOf41
 v37:=Tryz.zeroValue41
 t46:=Tryz.underlying103
 a46:=Tryz.isAgg103
 z46:=Tryz.sizeOf103
 v46:=Tryz.zeroValue103
 t51:=Tryz.underlying153
 a51:=Tryz.isAgg153
 z51:=Tryz.sizeOf153
 v51:=Tryz.zeroValue153
 t53:=Tryz.underlying43
 a53:=Tryz.isAgg43
 z53:=Tryz.sizeOf43
 v53:=Tryz.zeroValue43
 t75:=Tryz.underlying234
 a75:=Tryz.isAgg234
 z75:=Tryz.sizeOf234
 v75:=Tryz.zeroValue234
 t76:=Tryz.underlying235
 a76:=Tryz.isAgg235
 z76:=Tryz.sizeOf235
 v76:=Tryz.zeroValue235
 t85:=Tryz.underlying309
 a85:=Tryz.isAgg309
 z85:=Tryz.sizeOf309
 v85:=Tryz.zeroValue309
 t127:=Tryz.underlying314
 a127:=Tryz.isAgg314
 z127:=Tryz.sizeOf314
 v127:=Tryz.zeroValue314
 t143:=Tryz.underlying380
 a143:=Tryz.isAgg380
 z143:=Tryz.sizeOf380
 v143:=Tryz.zeroValue380
 t145:=Tryz.underlying382
 a145:=Tryz.isAgg382
 z145:=Tryz.sizeOf382
 v145:=Tryz.zeroValue382
 t167:=Tryz.underlying308
 a167:=Tryz.isAgg308
 z167:=Tryz.sizeOf308
 v167:=Tryz.zeroValue308
 t168:=Tryz.underlying311
 a168:=Tryz.isAgg311
 z168:=Tryz.sizeOf311
 v168:=Tryz.zeroValue311
 t171:=Tryz.underlying338
 a171:=Tryz.isAgg338
 z171:=Tryz.sizeOf338
 v171:=Tryz.zeroValue338
 t173:=Tryz.underlying341
 a173:=Tryz.isAgg341
 z173:=Tryz.sizeOf341
 v173:=Tryz.zeroValue341
 t175:=Tryz.underlying344
 a175:=Tryz.isAgg344
 z175:=Tryz.sizeOf344
 v175:=Tryz.zeroValue344
 t210:=Tryz.underlying347
 a210:=Tryz.isAgg347
 z210:=Tryz.sizeOf347
 v210:=Tryz.zeroValue347
 t212:=Tryz.underlying374
 a212:=Tryz.isAgg374
 z212:=Tryz.sizeOf374
 v212:=Tryz.zeroValue374
 t213:=Tryz.underlying375
 a213:=Tryz.isAgg375
 z213:=Tryz.sizeOf375
 t232:=Tryz.underlying409
 a232:=Tryz.isAgg409
 z232:=Tryz.sizeOf409
 v232:=Tryz.zeroValue409
 t233:=Tryz.underlying410
 a233:=Tryz.isAgg410
 z233:=Tryz.sizeOf410
 v233:=Tryz.zeroValue410
 g15:=acw
 g16:=acw
 g17:=acw
 g18:=acw
 g19:=acw
 t80:=Tryz.underlying246
 a80:=Tryz.isAgg246
 z80:=Tryz.sizeOf246
 v80:=Tryz.zeroValue246
 i0:=acw
 i2:=acw
 i3:=acw
 i4:=acw
 i5:=acw
 i9:=acw
 i20:=acw
 i21:=acw
 i37:=acw
 i46:=acw
 i51:=acw
 i53:=acw
 i75:=acw
 i76:=acw
 i80:=acw
 i85:=acw
 i127:=acw
 i143:=acw
 i145:=acw
 i167:=acw
 i168:=acw
 i171:=acw
 i173:=acw
 i175:=acw
 i210:=acw
 i212:=acw
 i232:=acw
 i233:=acw
 m15:=acK
 m16:=acK
 m17:=acK
 m18:=acK
 m19:=acK
 c0:=acw
 c2:=acw
 c3:=acw
 c4:=acw
 c5:=acw
 c9:=acw
 c20:=acw
 c21:=acw
 c37:=acw
 c46:=acw
 c51:=acw
 c53:=acw
 c75:=acw
 c76:=acw
 c80:=acw
 c85:=acw
 c127:=acw
 c143:=acw
 c145:=acw
 c167:=acw
 c168:=acw
 c171:=acw
 c173:=acw
 c175:=acw
 c210:=acw
 c212:=acw
 c213:=acw
 c232:=acw
 c233:=acw}
open Go.RowKit in
theorem Tryz.strconv_Atoi_ok(s:ByteArray)(hmax:s.size≤9223372036854775806)(v:Int)(h:Lib.atoiAll s.data.toList= .ok v)(w:World):
  Calls Tryz.prog 154 #[.string s] w fun e w' =>e= .returned (.tuple #[.int .i64 v,.nilIface])∧(w' =w∨∃t,w' =Lib.bytesWorld w 5 t):=Any.strconv_Atoi_ok Tryz.Dy s hmax v h w
open Go.RowKit in
theorem Tryz.strconv_Atoi_range(s:ByteArray)(hlim:s.size≤281474976710656)(h:Lib.atoiAll s.data.toList= .range)(ev:Value)(w:World)(hv:w.cell? ⟨2,0,none⟩=some ev)(hev:ev= .nilIface∨∃te pe,ev= .iface te pe):
  Calls Tryz.prog 154 #[.string s] w fun e w' =>∃N,e= .returned (.tuple #[.int .i64 (Lib.atoiSat s.data.toList),.iface 311 (.pointer (some ⟨N,0,none⟩))])∧w.heap.size≤N∧w'.heap[N]? =some (.cells #[.string ⟨#[65,116,111,105]⟩,.string s,ev] 347 (0,0))∧Below w.heap.size w w' :=Any.strconv_Atoi_range Tryz.Dy s hlim h ev w hv hev
end Go.Proofs
namespace Go.Proofs.YtcochaoekecfdaaGreatDoor
open Go Go.Ab Go.Bf Go.RowKit
theorem JJ(s:Txt)(hs:s.length≤100000)(w:World):Calls Tryz.prog 233 #[.string ⟨s.toArray⟩,.func (.func 197) #[] #[]] w fun e w' =>e= .returned (.int .i64 (s.takeWhile dgt).length)∧Below w.heap.size w w' :=by
 refine Go.Ab.ai.calls (args:=[.s s,.fn 197 []]) ⟨_,Tryz.func233,acK,rfl⟩ ((Ms _ _ mF s cL).mono fun _ _ h=>h.1) rfl (fun i hi=>?_)
 rcases i with _|_|i
 ·exact .s s (by grind [lim,Nat])
 ·exact .fn _ [] #[] rfl (fun i hi=>by cases hi)
 ·simp at hi;omega
def Ae(neg:Bool)(d:Txt):Int:=if neg then -(mQ d:Int)else(mQ d:Int)
def inI(neg:Bool)(d:Txt):Prop:= -9223372036854775808≤(if neg then -(mQ d:Int)else(mQ d:Int))∧(if neg then -(mQ d:Int)else(mQ d:Int))≤9223372036854775807
instance (neg:Bool) (d:Txt):Decidable (inI neg d):=inferInstanceAs (Decidable (_∧_))
theorem zl(neg:Bool):(pQ neg).length≤1:=by cases neg<;>decide
theorem BJ(neg:Bool)(d:Txt)(h0:d≠ [])(hd:∀c∈d,dgt c=true)(hlen:d.length≤10000)(S:ByteArray)(hS:S=⟨(pQ neg++d).toArray⟩)(hr:inI neg d)(W:World):
  Calls Tryz.prog 154 #[.string S] W fun e w' =>e= .returned (.tuple #[.int .i64 (Ae neg d),.nilIface])∧Below W.heap.size W w' :=by
 have hl:=zl neg;have hsz:S.size≤10001:=by grind [ByteArray.size]
 have ha:Lib.atoiAll S.data.toList= .ok (Ae neg d):=by
  rw[hS];rw[vD neg d h0 hd];exact if_pos hr
 refine(Tryz.strconv_Atoi_ok S acu _ ha W).mono ?_
 rintro e w' ⟨rfl,rfl|⟨t,rfl⟩⟩
 ·exact⟨rfl,.refl _ _⟩
 ·exact⟨rfl,Lib.bytesWorld_below W _ t⟩
theorem CG(neg:Bool)(d:Txt)(h0:d≠ [])(hd:∀c∈d,dgt c=true)(hlen:d.length≤10000)(S:ByteArray)(hS:S=⟨(pQ neg++d).toArray⟩)(hr:¬inI neg d)(W:World)(ev:Value)(hv:W.cell? ⟨2,0,none⟩=some ev)(hev:ev= .nilIface∨∃te pe,ev= .iface te pe):
  Calls Tryz.prog 154 #[.string S] W fun e w' =>(∃(x:Int) (N:Nat),e= .returned (.tuple #[.int .i64 x,.iface 311 (.pointer (some ⟨N,0,none⟩))]))∧Below W.heap.size W w' :=by
 have hl:=zl neg;have hsz:S.size≤10001:=by grind [ByteArray.size]
 have ha:Lib.atoiAll S.data.toList= .range:=by
  rw[hS];rw[vD neg d h0 hd];exact if_neg hr
 refine(Tryz.strconv_Atoi_range S acu ha ev W hv hev).mono ?_
 grind
set_option maxHeartbeats 1000000 in
theorem DM(neg:Bool)(s:Txt)(hs:s.length≤10000)(w:World)(ev:Value)(hv:w.cell? ⟨2,0,none⟩=some ev)(hev:ev= .nilIface∨∃te pe,ev= .iface te pe)(hg:2<w.heap.size):
  Calls Tryz.prog 198 #[.string ⟨(pQ neg).toArray⟩,.string ⟨s.toArray⟩] w fun e w' =>e= .returned (.tuple #[.int .i64 (eU neg s).1,.int .i64 ((eU neg s).2:Nat)])∧Below w.heap.size w w' :=by
 have hle:=jS dgt s;obtain⟨d,ed⟩:∃d,s.takeWhile dgt=d:=⟨_,rfl⟩;have htk:s.take d.length=d:=by grind [qZ]
 have hrun:=JJ s acu w;have hall:=Ac s;rw[ed]at hrun hle hall
 go_enter Tryz.func198,Tryz.ntmps198
 by_cases h0:d.length=0
 ·have e0:d= []:=by grind
  have en:eU neg s=(0,0):=by simp_all [eU,if_pos]
  go_wp2_with (go_at_call 233;refine hrun.mono ?_)
  rintro e W0 ⟨rfl,b0⟩
  rw[h0]
  go_wp2
  go_ret2
  simp_all
 ·have e0:d≠ []:=by grind
  go_wp2_with (go_at_call 233;refine hrun.mono ?_)
  rintro e W0 ⟨rfl,b0⟩
  have hpos:0<d.length:=acu;have hs0:0<s.length:=acu;have hsz:0<(⟨s.toArray⟩:ByteArray).size:=by grind [ByteArray.size]
  have hg0:(⟨s.toArray⟩:ByteArray)[0]=s[0]:=rfl;have hgn:∀x:UInt8,(s.head? =some x)↔s[0]=x:=fun x=>by
   rw[List.head?_eq_getElem?,List.getElem?_eq_getElem hs0];simp
  cases d0:((d.length:Int)==0)
  case true=>exact absurd acv h0
  have hS:(⟨(pQ neg).toArray⟩:ByteArray)++(⟨s.toArray⟩:ByteArray).extract 0 d.length=⟨(pQ neg++d).toArray⟩:=by
   apply ByteArray.ext
   simp_all
  have hcat:¬9223372036854775807<List.length (pQ neg)+d.length:=by grind [zl]
  cases d1:decide (1<(d.length:Int))
  ·have f1:¬1<d.length:=by grind
   have en:eU neg s=if inI neg d then(Ae neg d,d.length)else(0,0):=by
    unfold eU;rw[ed,if_neg acv];rfl
   have hv0:W0.cell? ⟨2,0,none⟩=some ev:=by rw[b0.cell hg];omega
   by_cases hr:inI neg d
   ·rw[if_pos hr]at en
    go_wp2_with (go_at_call 154;refine(BJ neg d e0 hall acu _ acK hr _).mono ?_)
    rintro e W1 ⟨rfl,b1⟩
    go_wp2
    go_ret2
    rw[en];exact aeg
   ·rw[if_neg hr]at en
    go_wp2_with (go_at_call 154;refine(CG neg d e0 hall acu _ acK hr _ ev hv0 hev).mono ?_)
    rintro e W1 ⟨⟨x,N,rfl⟩,b1⟩
    go_wp2
    go_ret2
    rw[en];exact aeg
  ·have f1:1<d.length:=by grind
   cases d2:((s[0].toNat:Int)==48)
   ·have f2:s.head?≠some 48:=by
     rw[ne_eq,hgn];intro e;simp_all
    have en:eU neg s=if inI neg d then(Ae neg d,d.length)else(0,0):=by
     unfold eU;rw[ed,if_neg acv];rfl
    have hv0:W0.cell? ⟨2,0,none⟩=some ev:=by rw[b0.cell hg];omega
    by_cases hr:inI neg d
    ·rw[if_pos hr]at en
     go_wp2_with (go_at_call 154;refine(BJ neg d e0 hall acu _ acK hr _).mono ?_)
     rintro e W1 ⟨rfl,b1⟩
     go_wp2
     go_ret2
     rw[en];exact aeg
    ·rw[if_neg hr]at en
     go_wp2_with (go_at_call 154;refine(CG neg d e0 hall acu _ acK hr _ ev hv0 hev).mono ?_)
     rintro e W1 ⟨⟨x,N,rfl⟩,b1⟩
     go_wp2
     go_ret2
     rw[en];exact aeg
   ·have f2:s.head? =some 48:=by
     rw[hgn];have:(s[0].toNat:Int)=48:=acv;exact UInt8.toNat_inj.1 acv
    have en:eU neg s=(0,0):=by simp_all [eU,if_pos]
    go_wp2
    go_ret2
    simp_all
def jC(h:Heap):Prop:=∃ev:Value,(ev= .nilIface∨∃te pe,ev= .iface te pe)∧Tab h 2 [ev]
theorem jC.sub{h h' :Heap}(he:jC h)(hs:Ab.Sub h h'):jC h' :=by
 obtain⟨ev,h1,h2⟩:=he;exact⟨ev,h1,h2.sub hs⟩
theorem mg(neg:Bool)(s:Txt)(hs:s.length≤10000)(h:Heap)(he:jC h):ai Tryz.prog 198 [.s (pQ neg),.s s] h fun r h' =>r= .tup [.v (.int .i64 (eU neg s).1),.i ((eU neg s).2:Nat)]∧h' =h:=by
 obtain⟨ev,hev,id,hi⟩:=he;refine .lib ⟨_,Tryz.func198,acK,rfl⟩ fun c vs hs' g h1 h2=>?_
 obtain⟨u,v,rfl⟩:∃u v,vs= #[u,v]:=by
  match vs,h1 with
  |⟨[u,v]⟩,_=>exact⟨u,v,rfl⟩
 have e1:u= .string ⟨(pQ neg).toArray⟩:=((h2 0 acD).lf).1;have e2:v= .string ⟨s.toArray⟩:=((h2 1 acD).lf).1;subst e1;subst e2
 obtain⟨_,t,fr,hh⟩:=g.ro id _ _ (hs' _ _ hi);have hc:c.w.cell? ⟨2,0,none⟩=some ev:=by grind [World.cell?]
 refine(DM neg s hs c.w ev hc hev (cP hh)).mono ?_;exact ahB
end Go.Proofs.YtcochaoekecfdaaGreatDoor
namespace Go.Bf
open Go Go.Ab
def marks:Txt:=[123,125,40,41,46,44,59,61,60,62,33]
theorem zO:∀n:Fin 256,decide (0≤Lib.indexByte marks (UInt8.ofNat n.val))=DF (UInt8.ofNat n.val):=acz
theorem rA(c:UInt8):decide (0≤Lib.indexByte marks c)=DF c:=by
 have:=zO ⟨c.toNat,c.toNat_lt⟩;simpa using this
end Go.Bf
namespace Go.Proofs.YtcochaoekecfdaaGreatDoor
open Go Go.Ab Go.Bf
theorem Dn(l:Txt)(c:UInt8)(h:Heap):ai Tryz.prog 200 [.s l,.v (.int .u8 c.toNat)] h fun r h' =>r= .i (Lib.indexByte l c)∧h' =h:=by
 refine .lib ⟨_,Tryz.func200,acK,rfl⟩ fun cx vs hs' g h1 h2=>?_
 obtain⟨u,v,rfl⟩:∃u v,vs= #[u,v]:=by
  match vs,h1 with
  |⟨[u,v]⟩,_=>exact⟨u,v,rfl⟩
 have e1:u= .string ⟨l.toArray⟩:=((h2 0 acD).lf).1;have e2:v= .int .u8 c.toNat:=(h2 1 acD).bO;subst e1;subst e2
 refine(Tryz.strings_IndexByte ⟨l.toArray⟩ c.toNat cx.w).mono ?_;exact ahI
theorem Io(s:Txt)(h0:s≠ [])(hs:s.length≤4096)(h:Heap)(he:jC h):ai Tryz.prog 159 [.s s] h fun r h' =>r= .tup [fu (bP s).1,.i ((bP s).2:Nat)]∧h' =h:=by
 refine acs Tryz.func159 106 [.cell 2 186,.tmp 3] fun hwf=>?_
 obtain⟨c,r,rfl⟩:=List.exists_cons_of_ne_nil h0;have hsl:r.length≤4095:=by simpa using hs
 simp only[go_sem];intro i2 hi2;simp only[go_sem];intro i4 hi4;have n24:=aF hi4;have g2:∀(f:Heap) (x:Option Blk),upd f i4 x i2=f i2:=fun f x=>ag f x n24.symm
 have g4:∀(f:Heap) (x:Option Blk),upd f i2 x i4=f i4:=fun f x=>ag f x n24
 have hsub:Ab.Sub h (upd (upd h i2 (some (.obj [.i 0,.i 0,.i 0,.s []] 186))) i4 (some (.obj [.i 0,.i 0,.i 0,.s []] 186))):=(Sub.aj hi2).trans (.aj hi4);have he2:=he.sub hsub;have hi4h:h i4=none:=by rw[ag _ _ n24]at hi4;exact hi4
 simp only[go_sem];refine .at 0 acD ?_;cases la:decide (97≤(c.toNat:Int))
 ·have hl:ltr c=false:=by simp only[ltr,la,Bool.false_and]
  simp only[go_sem,aJ,List.getElem_cons_zero,la];exact agI
 ·cases lb:decide ((c.toNat:Int)≤122)
  ·have hl:ltr c=false:=by simp only[ltr,lb,Bool.and_false]
   simp only[go_sem,aJ,List.getElem_cons_zero,la,lb];exact agI
  ·have hl:ltr c=true:=by simp only[ltr,la,lb];rfl
   simp only[go_sem,aJ,List.getElem_cons_zero,la,lb];refine(yK _ _).pthen ?_;simp only[go_sem,g2,ah];exact .mk _ (.refl _) acy ⟨by simp[bP,hl,fu,ax],rfl⟩
theorem O0:(U 186).sz=4:=acK
theorem U0:(U 186).bytes=40:=acK
theorem pH(l:List pY):Sized 4 (l.map fu):=fun z hz=>by
 obtain⟨c,_,rfl⟩:=List.mem_map.1 hz;rfl
def FO:Lexed→AV
 |.bad e a=> .tup [.sl [] .no,.i e,.i a]
 |.ok l=> .tup [.sl (l.map fu) .no,.i 0,.i 0]
def Kf(s:Txt)(h:Heap)(m:Nat)(ρ:Env)(h' :Heap):Prop:=
 ∃(i f:Nat) (y:AV) (out:List pY) (id:Nat),Acc U 186 h h' y (out.map fu)∧out.length≤i∧i≤s.length∧m=s.length - i∧s.length<f+i∧s.length≤4096∧h id=none∧(∃c0 c1 c2 c3,h' id=some (.obj [c0,c1,c2,c3] 186))∧tE f (s.drop i) i out=qF s∧lk ρ 0=some (.s s)∧lk ρ 5=some y∧lk ρ 6=some (.ptr id 0)∧lk ρ 7=some (.i i)
theorem xI(s:Txt)(h:Heap)(he:jC h):ai Tryz.prog 113 [.s s] h fun r h' =>r=FO (qF s)∧h' =h:=by
 refine ai.of_wp hU Tryz.func113 rfl acK 52 rfl [.tmp 2,.tmp 3,.tmp 4] rfl (ach rfl) ?_;refine .one hU hm ?_;simp only[go_sem];refine WP.Mu hU hm 0 (Kf s h) rfl ?_ ?_
 ·rintro m ρ h' ⟨i,f,y,out,id,hy,hoi,hi,rfl,hf,hs,hid,⟨c0,c1,c2,c3,hob⟩,hl,r0,r5,r6,r7⟩
  refine .vc hU hm ?_;cases d1:((i:Int)==(s.length:Int))
  case true=>
   have e1:i=s.length:=acv;subst e1;obtain⟨f,rfl⟩:∃g,f=g+1:=⟨f - 1,acu⟩;rw[List.drop_length]at hl;simp only[tE]at hl;simp only[go_sem,r0,r5,r7,d1];refine hy.app (zs:=[fu ⟨7,s.length,0,[]⟩]) acz acz (fun k hk=>hk) (by grind [O0,pH]) (by rw[O0];exact pH [⟨7,s.length,0,[]⟩]) (by grind [U0]) fun y' h2 hy' hk2=>?_
   simp only[go_sem];obtain⟨q,rfl⟩:=hy'.row;refine .mk _ (Bp _ _ _ _) hy'.1 ⟨?_,rfl⟩
   grind [FO]
  have e1:i≠s.length:=acv;have hlt:i<s.length:=acu;obtain⟨f,rfl⟩:∃g,f=g+1:=⟨f - 1,acu⟩;have hdr:s.drop i=s[i]::s.drop (i+1):=acD;have w1:IntKind.i64.wrap ((i:Int)+1)=((i+1:Nat):Int):=acI;have hl2:=hl;rw[hdr]at hl2;simp only[tE]at hl2;rw[←hdr]at hl2;have blank:qe s[i]=true→∃m',m' <s.length - i∧True:=fun _=>⟨s.length - (i+1),acu,trivial⟩
  cases d2:((s[i].toNat:Int)==32)
  case true=>
   have hb:qe s[i]=true:=by simp only[qe,d2,Bool.true_or]
   rw[if_pos hb]at hl2;simp only[go_sem,r0,r7,d1];refine .at i hlt ?_;simp only[go_sem,r7,aJ,d2,w1];exact ahz
  cases d3:((s[i].toNat:Int)==10)
  case true=>
   have hb:qe s[i]=true:=by simp only[qe,d3,Bool.or_true]
   rw[if_pos hb]at hl2;simp only[go_sem,r0,r7,d1];refine .at i hlt ?_;simp only[go_sem,r0,r7,aJ,d2];refine .at i hlt ?_;simp only[go_sem,r7,aJ,d3,w1];exact ahz
  have hb:¬qe s[i]=true:=by grind [qe]
  rw[if_neg hb]at hl2;have hne:s.drop i≠ []:=fun e=>by have:=congrArg List.length e;simp at this;omega
  have hle:=rX (s.drop i) hne;have hdl:(s.drop i).length=s.length - i:=acD;have hbo:=fun hh eh=>Io (s.drop i) hne acu hh eh
  obtain⟨t,n,etn⟩:∃t n,bP (s.drop i)=(t,n):=⟨_,_,rfl⟩;rw[etn]at hbo hl2 hle;simp only[fu]at hbo hl2 hle;simp only[go_sem,r0,r7,d1];refine .at i hlt ?_;simp only[go_sem,r0,r7,aJ,d2];refine .at i hlt ?_;simp only[go_sem,r0,r7,aJ,d3,lR,Option.isSome_none,Option.isSome_some,Int.toNat_natCast];refine⟨acu,acu,acu,?_⟩;refine(hbo _ (he.sub hy.1)).pthen ?_;cases d4:((n:Int)==0)
  case true=>
   have e4:n=0:=acv;rw[if_pos e4]at hl2;simp only[go_sem,r6,r7,hob,d4];refine .mk _ (Bp _ _ _ _) (hy.1.put hid _) ⟨?_,rfl⟩;rw[←hl2];rfl
  have e4:n≠0:=acv;rw[if_neg e4]at hl2;have w2:IntKind.i64.wrap ((i:Int)+(n:Int))=((i+n:Nat):Int):=acI;simp only[go_sem,r5,r6,r7,hob,d4];refine(hy.put hid hob _).app (zs:=[fu {t with pos:=i}]) acz acz (fun k hk=>hk) (by grind [O0,pH]) (by rw[O0];exact pH [{t with pos:=i}]) (by grind [U0]) fun y' h2 hy' hk2=>?_
  simp only[go_sem,r7,w2];refine⟨s.length - (i+n),acu,i+n,f,y',out++ [{t with pos:=i}],id,acv,acv,acu,rfl,acu,hs,hid,⟨_,_,_,_,hk2 _ _ _ (ah ..)⟩,?_,?_,?_,?_,?_⟩
  ·grind [List.drop_drop]
  all_goals simp only[go_sem,r0,r6]
 ·intro nx
  cases d0:decide (4096<(s.length:Int))
  case true=>
   have e0:s.length>4096:=acv;refine .one hU hm ?_;simp only[go_sem,d0];exact .mk (.tup [.sl [] .no,.i 6,.i 4096]) (fy (.tup [.sl [] .full,.i 6,.i 4096])) (.refl _) ⟨by rw[qF,if_pos e0];rfl,rfl⟩
  have e0:¬s.length>4096:=acv;refine .one hU hm ?_;simp only[go_sem,d0];refine .one hU hm ?_;simp only[go_sem];refine .one hU hm ?_;simp only[go_sem];intro id hid;simp only[go_sem];refine .one hU hm ?_;simp only[go_sem];refine .one hU hm ?_;simp only[go_sem];refine nx (s.length - 0) _ _ ⟨0,s.length+1,_,[],id,.full (.aj hid),acD,acu,rfl,acu,acu,hid,⟨_,_,_,_,ah ..⟩,by simp_all [qF,if_neg],?_,?_,?_,?_⟩<;>simp only[go_sem]
def PO(st:PS):Blk:=.obj [.sl (st.ts.map fu) .no,.i st.pos,.i st.rules,.i st.bad,.i st.place] 183
def PC(f:FuncId)(args:List AV)(st:PS)(R:AV)(st' :PS):Prop:=∀(h:Heap) (id:Nat),h id=some (PO st)→ai Tryz.prog f (.ptr id 0::args) h fun r h' =>r=R∧h' =upd h id (some (PO st'))
theorem PC.go{f:FuncId}{args:List AV}{st st' :PS}{R:AV}(hc:PC f args st R st'){h:Heap}{id:Nat}{Q:AV→Heap→Prop}(hid:h id=some (PO st))(k:Q R (upd h id (some (PO st')))):ai Tryz.prog f (.ptr id 0::args) h Q:=
 (hc h id hid).mono fun r h' ⟨e1,e2⟩=>ae9
theorem bD{h:Heap}{id:Nat}{b:Option Blk}(e:h id=b):upd h id b=h:=by
 grind [ah,ag]
theorem rm(st:PS)(e p:Int):PC 118 [.i e,.i p] st (.tup []) (bF st e p):=fun h id hid=>by
 refine acs Tryz.func118 19 [] fun hwf=>?_
 have g:=hid;unfold PO at g;cases d1:(st.bad==0)
 ·have e1:st.bad≠0:=by grind
  simp only[go_sem,g,d1];exact .mk _ (.refl _) (.refl _) ⟨rfl,by rw[bF,if_neg e1,bD hid]⟩
 ·have e1:st.bad=0:=by grind
  simp only[go_sem,g,d1];exact .mk _ (.refl _) (.refl _) ⟨rfl,by rw[bF,if_pos e1];rfl⟩
theorem lU(st:PS)(hw:WfP st):PC 115 [] st (fu (aI st)) st:=fun h id hid=>by
 refine acs Tryz.func115 13 [.cell 2 186] fun hwf=>?_
 have g:=hid;unfold PO at g;simp only[go_sem];intro i2 hi2;have n2:id≠i2:=fun e=>acv
 simp only[go_sem,g,ak,n2];refine⟨.of acw,?_⟩;refine .at st.pos (by simpa using hw.1) acL ?_
 simp only[go_sem,acj,fu];refine .mk _ (.refl _) (.aj hi2) ⟨by rw[Dk hw.1];rfl,(bD hid).symm⟩
theorem lp(st:PS)(hw:WfP st):PC 116 [] st (.tup []) (bl st):=fun h id hid=>by
 refine acs Tryz.func116 7 [] fun hwf=>?_
 simp only[go_sem];refine(lU st hw).go hid ?_;rw[bD hid];simp only[go_sem,fu];refine(rm st 5 _).go hid ?_;exact ahh
theorem cG(st:PS)(b:Bool)(hw:WfP st):PC 204 [.b b] st (.tup []) (bC st b):=fun h id hid=>by
 refine acs Tryz.func204 10 [] fun hwf=>?_
 cases b
 ·simp only[go_sem]
  exact aff
 simp only[go_sem];refine(lU st hw).go hid ?_;rw[bD hid];simp only[go_sem,fu];refine(rm st 6 _).go hid ?_;exact ahh
theorem tv(st:PS)(s:Txt)(hw:WfP st):PC 205 [.s s] st (.b (isD st s)) st:=fun h id hid=>by
 refine acs Tryz.func205 29 [.tmp 4] fun hwf=>?_
 have g:=hid;unfold PO at g;simp only[go_sem];refine(lU st hw).go hid ?_;rw[bD hid];simp only[go_sem,fu];intro i2 hi2;have n2:id≠i2:=fun e=>acv
 cases d1:(st.bad==0)<;>cases d2:((aI st).s==s)<;>cases d3:((aI st).kind==1)<;>cases d4:((aI st).kind==6)
 all_goals
  simp only[go_sem,g,ak,n2,d1,d2,d3,d4];exact .mk _ (.refl _) (.aj hi2) ⟨by simp only[isD,d1,d2,d3,d4];rfl,rfl⟩
theorem jT(st:PS)(s:Txt)(hw:WfP st):PC 202 [.s s] st (.v (.bool (cm st s).1)) (cm st s).2:=fun h id hid=>by
 refine acs Tryz.func202 18 [.tmp 4] fun hwf=>?_
 have g:=hid;unfold PO at g;simp only[go_sem];refine(tv st s hw).go hid ?_;rw[bD hid];cases d1:isD st s
 ·have e:cm st s=(false,st):=by grind [cm]
  simp only[go_sem];exact .mk _ (.refl _) (.refl _) ⟨agm,by grind [bD]⟩
 ·have e:cm st s=(true,bf st):=by grind [cm]
  have w1:IntKind.i64.wrap ((st.pos:Int)+1)=((st.pos+1:Nat):Int):=aea;simp only[go_sem,g,w1];exact .mk _ (.refl _) (.refl _) ⟨agm,agm⟩
theorem kH(st:PS)(s:Txt)(hw:WfP st):PC 163 [.s s] st (.tup []) (dP st s):=fun h id hid=>by
 refine acs Tryz.func163 10 [] fun hwf=>?_
 simp only[go_sem];refine(jT st s hw).go hid ?_;cases d1:isD st s
 ·have e:cm st s=(false,st):=by grind [cm]
  rw[e,bD hid];simp only[go_sem];refine(lp st hw).go hid ?_;exact aib
 ·have e:cm st s=(true,bf st):=by grind [cm]
  rw[e];exact aib
theorem tQ(st:PS)(hw:WfP st):PC 161 [] st (.s (ck st).1) (ck st).2:=fun h id hid=>by
 refine acs Tryz.func161 25 [.tmp 2] fun hwf=>?_
 have g:=hid;unfold PO at g;have w1:IntKind.i64.wrap ((st.pos:Int)+1)=((st.pos+1:Nat):Int):=aea;simp only[go_sem];refine(lU st hw).go hid ?_;rw[bD hid];simp only[go_sem,fu];intro i2 hi2;have n2:id≠i2:=fun e=>acv
 cases d1:((aI st).kind !=1)
 case true=>
  have e1:(aI st).kind≠1:=acv;have en:ck st=([],bl st):=by grind [ck]
  simp only[go_sem,d1];have hid2:upd h i2 (some (.obj [.v (.int .i64 (aI st).kind),.v (.int .i64 (aI st).pos),.v (.int .i64 (aI st).n),.s (aI st).s] 186)) id=some (PO st):=ac7;refine(lp st hw).go hid2 ?_;have hb:(bl st).bad≠0:=by
   grind [bl,bF,Int]
  have d2:((bl st).bad !=0)=true:=acv;simp only[go_sem,PO,d2];exact .mk _ (.refl _) (Sub.both (.aj hi2) _ _) ⟨adm,acv⟩
 have e1:(aI st).kind=1:=acv;cases d2:(st.bad !=0)
 case true=>
  have e2:st.bad≠0:=acv;have en:ck st=([],st):=by grind [ck]
  simp only[go_sem,g,ak,n2,d1,d2];exact .mk _ (.refl _) (.aj hi2) ⟨adm,by grind [bD]⟩
 have e2:st.bad=0:=acv;have en:ck st=((aI st).s,bf st):=by grind [ck]
 simp only[go_sem,g,ak,n2,n2.symm,d1,d2,w1];exact .mk _ (.refl _) (Sub.both (.aj hi2) _ _) ⟨adm,by rw[en];try rfl⟩
theorem PC.run{f:FuncId}{args:List AV}{st st' :PS}{R:AV}(hc:PC f args st R st'){G:Heap}{id:Nat}{Q:AV→Heap→Prop}(k:Q R (upd G id (some (PO st')))):ai Tryz.prog f (.ptr id 0::args) (upd G id (some (PO st))) Q:=
 hc.go (ah ..) (by rw[dQ];exact k)
theorem PC.of{f:FuncId}{args:List AV}{st st' :PS}{R:AV}(hk:∀(G:Heap) (id:Nat),ai Tryz.prog f (.ptr id 0::args) (upd G id (some (PO st))) fun r h' =>r=R∧h' =upd G id (some (PO st'))):PC f args st R st' :=fun h id hid=>by
 have:=hk h id;rw[bD hid]at this;exact adi
theorem cr{α:Type}(f:Nat→α){i j:Nat}(x y:α)(h:i≠j):upd (upd f i x) j y=upd (upd f j y) i x:=by
 grind [ag,ah]
theorem B3{s:Txt}:∀ {ws:List Txt} {i:Nat},uN s ws=some i→i<ws.length
 |w::r,i,h=>by
  simp only[uN]at h;split at h
  ·grind
  ·cases hr:uN s r with
   |none=>grind
   |some j=>rw[hr]at h;cases h;have:=B3 hr;simp;omega
theorem Hh{s:Txt}:∀ {ws:List Txt} (i:Nat) (hi:i<ws.length),(∀j (hj:j<ws.length),j<i→ws[j]≠s)→ws[i]=s→uN s ws=some i
 |w::r,0,_,_,h=>by grind [uN]
 |w::r,i+1,hi,hb,h=>by
  have h0:=hb 0 acD acu;simp only[List.getElem_cons_zero]at h0;simp only[uN,if_neg h0];rw[Hh i acv acv acv];rfl
theorem AK{s:Txt}:∀ {ws:List Txt},(∀j (hj:j<ws.length),ws[j]≠s)→uN s ws=none
 | [],_=>rfl
 |w::r,hb=>by
  have h0:=hb 0 acD;simp only[List.getElem_cons_zero]at h0;simp only[uN,if_neg h0];rw[AK (fun j hj=>by have:=hb (j+1) acv;simpa using this)]
  rfl
def Rb(o:Option Nat):Int:=match o with
 |some i=>i
 |none=> -1
theorem Jd(ws:List Txt)(q:Perm)(s:Txt)(hl:ws.length≤1000)(h:Heap):ai Tryz.prog 201 [.sl (ws.map AV.s) q,.s s] h fun r h' =>r= .i (Rb (uN s ws))∧h' =h:=by
 refine acs Tryz.func201 19 [.tmp 4] fun hwf=>?_
 simp only[go_sem,aci];refine .intro (fun m ρ h' =>h' =h∧∃i:Nat,i≤ws.length∧m=ws.length - i∧(∀j (hj:j<ws.length),j<i→ws[j]≠s)∧lk ρ 0=some (.sl (ws.map AV.s) q)∧lk ρ 1=some (.s s)∧lk ρ 7=some (.i ws.length)∧lk ρ 8=some (.i i)) ws.length ?_ ?_
 ·refine⟨rfl,0,acu,rfl,fun j _ hj=>acu,?_,?_,?_,?_⟩<;>simp only[go_sem]
 ·rintro m ρ h' ⟨rfl,i,hi,rfl,hc,r0,r1,r7,r8⟩
  simp only[go_sem,r7,r8];refine .intro (fun e=>?_) (fun e=>?_)
  ·have hlt:i<ws.length:=acq e
   have w1:IntKind.i64.wrap ((i:Int)+1)=((i+1:Nat):Int):=acI;simp only[go_sem,r0,r1,r8];refine .at i acv acL ?_;cases d1:(s==ws[i])
   ·have e1:ws[i]≠s:=by grind
    simp only[go_sem,r8,acj,d1,w1];refine⟨_,?_,rfl,i+1,acu,rfl,fun j hj hji=>?_,?_,?_,?_,?_⟩
    ·omega
    ·grind
    all_goals simp only[go_sem,r0,r1,r7]
   ·have e1:ws[i]=s:=by grind
    simp only[go_sem,acj,d1];exact .same (.refl _) ⟨by rw[Hh i hlt hc e1];rfl,rfl⟩
  ·have hge:i=ws.length:=by grind
   subst hge;simp only[go_sem];exact .same (.refl _) ⟨by rw[AK fun j hj=>hc j hj hj];rfl,rfl⟩
theorem nX(st:PS)(ws:List Txt)(q:Perm)(hl:ws.length≤1000)(hw:WfP st):PC 160 [.sl (ws.map AV.s) q] st (.v (.int .i64 (aV st ws).1)) (aV st ws).2:=.of fun G id=>by
 refine acs Tryz.func160 28 [.tmp 4] fun hwf=>?_
 simp only[go_sem];refine(lU st hw).run ?_;simp only[go_sem,fu];intro i2 hi2;have n2:=aF hi2;have hG2:G i2=none:=ac7;have c2:∀(f:Heap) (x y:Option Blk),upd (upd f id x) i2 y=upd (upd f i2 y) id x:=fun f x y=>cr f x y n2.symm
 cases d1:((aI st).kind==1)
 ·have e1:(aI st).kind≠1:=by grind
  have en:aV st ws=(0,bl st):=by grind [aV]
  simp only[go_sem,c2,ak,n2,d1];exact ahe
 have e1:(aI st).kind=1:=acv;simp only[go_sem,c2,ak,n2,d1];refine(Jd ws q _ hl _).pthen ?_;cases ei:uN (aI st).s ws with
 |none=>
  have en:aV st ws=(0,bl st):=by grind [aV]
  have dm:decide ((0:Int)≤ -1)=false:=acz;simp only[go_sem,Rb,dm];exact ahe
 |some i=>
  have hil:=B3 ei;have d2:decide (0≤(i:Int))=true:=acD;have w1:IntKind.i64.wrap ((i:Int)+1)=((i:Int)+1):=acI;simp only[go_sem,Rb,d2,ak,n2];refine(jT st _ hw).run ?_;cases d3:(st.bad==0)
  ·have e3:st.bad≠0:=by grind
   have et:cm st (aI st).s=(false,st):=by grind [cm,isD]
   have en:aV st ws=(0,bl st):=by grind [aV]
   rw[et];simp only[go_sem];exact ahe
  ·have e3:st.bad=0:=by grind
   have et:cm st (aI st).s=(true,bf st):=by grind [cm,isD]
   have en:aV st ws=((i:Int)+1,bf st):=by grind [aV]
   rw[et];simp only[go_sem,w1];exact .mk _ (.refl _) (Sub.both (.aj hG2) _ _) ⟨adm,by rw[en]⟩
theorem Kx(st:PS)(hw:WfP st):PC 294 [] st (CH (fS st).1) (fS st).2:=.of fun G id=>by
 have h1:=gw vF hw;have h2:=jc [46] h1.1;have h3:=mW h2.1;refine acs Tryz.func294 17 [.cell 2 227] fun hwf=>?_
 simp only[go_sem];intro i2 hi2;have n2:=aF hi2;have hG2:G i2=none:=ac7;have c2:∀(f:Heap) (x y:Option Blk),upd (upd f id x) i2 y=upd (upd f i2 y) id x:=fun f x y=>cr f x y n2.symm
 simp only[go_sem,c2];intro i3 hi3;have n3:=aF hi3;have hi3' :=hi3;rw[ag _ _ n3]at hi3';have n32:=aF hi3';have hG3:G i3=none:=ac7;have c3:∀(f:Heap) (x y:Option Blk),upd (upd f id x) i3 y=upd (upd f i3 y) id x:=fun f x y=>cr f x y n3.symm
 have c23:∀(f:Heap) (x y:Option Blk),upd (upd f i3 x) i2 y=upd (upd f i2 y) i3 x:=fun f x y=>cr f x y n32
 have m32:¬i3=i2:=n32;have m23:¬i2=i3:=n32.symm;simp only[go_sem,c3];refine(nX st vF .full acz hw).run ?_;simp only[go_sem,c3,ak,n3];refine(kH _ [46] h1.1).run ?_;simp only[go_sem];refine(tQ _ h2.1).run ?_;simp only[go_sem,c3,ak,n3];refine(jT _ [33] h3.1).run ?_;simp only[go_sem,c2,c3,c23,ak,n2,n3,m23];exact .mk _ (.refl _) (Sub.both acX _ _) ⟨rfl,rfl⟩
theorem uj(st:PS)(hw:WfP st):PC 295 [] st (aO (aC st).1) (aC st).2:=.of fun G id=>by
 refine acs Tryz.func295 56 [.cell 2 30] fun hwf=>?_
 have w1:IntKind.i64.wrap ((st.pos:Int)+1)=((st.pos+1:Nat):Int):=aea;simp only[go_sem];intro i2 hi2;have n2:=aF hi2;have hG2:G i2=none:=by rw[ag _ _ n2]at hi2;exact hi2
 have c2:∀(f:Heap) (x y:Option Blk),upd (upd f id x) i2 y=upd (upd f i2 y) id x:=fun f x y=>cr f x y n2.symm
 simp only[go_sem,c2];refine(lU st hw).run ?_;simp only[go_sem,fu];intro i3 hi3;have n3:=aF hi3;have hi3' :=hi3;rw[ag _ _ n3]at hi3';have n32:=aF hi3';have hG3:G i3=none:=by rw[ag _ _ n32]at hi3';exact hi3'
 have c3:∀(f:Heap) (x y:Option Blk),upd (upd f id x) i3 y=upd (upd f i3 y) id x:=fun f x y=>cr f x y n3.symm
 have c23:∀(f:Heap) (x y:Option Blk),upd (upd f i3 x) i2 y=upd (upd f i2 y) i3 x:=fun f x y=>cr f x y n32
 have m32:¬i3=i2:=n32;have m23:¬i2=i3:=n32.symm;simp only[go_sem,c3,ak,n3];intro i4 hi4;have n4:=aF hi4;have hi4' :=hi4;rw[ag _ _ n4]at hi4';have n43:=aF hi4';have hi4'' :=hi4';rw[ag _ _ n43]at hi4'';have n42:=aF hi4'';have hG4:G i4=none:=by rw[ag _ _ n42]at hi4'';exact hi4''
 have c4:∀(f:Heap) (x y:Option Blk),upd (upd f id x) i4 y=upd (upd f i4 y) id x:=fun f x y=>cr f x y n4.symm
 have c24:∀(f:Heap) (x y:Option Blk),upd (upd f i4 x) i2 y=upd (upd f i2 y) i4 x:=fun f x y=>cr f x y n42
 have c34:∀(f:Heap) (x y:Option Blk),upd (upd f i4 x) i3 y=upd (upd f i3 y) i4 x:=fun f x y=>cr f x y n43
 have m42:¬i4=i2:=n42;have m24:¬i2=i4:=n42.symm;have m43:¬i4=i3:=n43;have m34:¬i3=i4:=n43.symm;cases k2:((aI st).kind==2)
 case true=>
  have e2:(aI st).kind=2:=by simpa using k2
  have ev:fR st=(⟨2,(aI st).n,(aI st).s⟩,st):=by simp[fR,e2]
  cases kb:(st.bad !=0)
  ·have eb:st.bad=0:=by simpa using kb
   have en:aC st=(⟨2,(aI st).n,(aI st).s⟩,bf st):=adT;simp only[go_sem,c2,c4,c23,c24,ak,n2,n3,n4,m23,m24,m34,k2,PO,kb,w1];exact agO
  ·have eb:st.bad≠0:=by simpa using kb
   have en:aC st=(⟨0,0,[]⟩,st):=adT;simp only[go_sem,c2,c4,c23,c24,ak,n2,n3,n4,m23,m24,m34,k2,PO,kb];exact agO
 have e2:(aI st).kind≠2:=by simpa using k2
 cases k3:((aI st).kind==3)
 case true=>
  have e3:(aI st).kind=3:=by simpa using k3
  have ev:fR st=(⟨4,(aI st).n,(aI st).s⟩,st):=by simp[fR,e3]
  cases kb:(st.bad !=0)
  ·have eb:st.bad=0:=by simpa using kb
   have en:aC st=(⟨4,(aI st).n,(aI st).s⟩,bf st):=adT;simp only[go_sem,c2,c4,c23,c24,ak,n2,n3,n4,m23,m24,m34,k2,k3,PO,kb,w1];exact agO
  ·have eb:st.bad≠0:=by simpa using kb
   have en:aC st=(⟨0,0,[]⟩,st):=adT;simp only[go_sem,c2,c4,c23,c24,ak,n2,n3,n4,m23,m24,m34,k2,k3,PO,kb];exact agO
 have e3:(aI st).kind≠3:=by simpa using k3
 cases k4:((aI st).kind==4)
 case true=>
  have e4:(aI st).kind=4:=by simpa using k4
  have ev:fR st=(⟨5,(aI st).n,(aI st).s⟩,st):=by simp[fR,e4]
  cases kb:(st.bad !=0)
  ·have eb:st.bad=0:=by simpa using kb
   have en:aC st=(⟨5,(aI st).n,(aI st).s⟩,bf st):=adT;simp only[go_sem,c2,c4,c23,c24,ak,n2,n3,n4,m23,m24,m34,k2,k3,k4,PO,kb,w1];exact agO
  ·have eb:st.bad≠0:=by simpa using kb
   have en:aC st=(⟨0,0,[]⟩,st):=adT;simp only[go_sem,c2,c4,c23,c24,ak,n2,n3,n4,m23,m24,m34,k2,k3,k4,PO,kb];exact agO
 have e4:(aI st).kind≠4:=by simpa using k4
 cases k5:((aI st).kind==5)
 case true=>
  have e5:(aI st).kind=5:=by simpa using k5
  have ev:fR st=(⟨3,(aI st).n,(aI st).s⟩,st):=by simp[fR,e5]
  cases kb:(st.bad !=0)
  ·have eb:st.bad=0:=by simpa using kb
   have en:aC st=(⟨3,(aI st).n,(aI st).s⟩,bf st):=adT;simp only[go_sem,c2,c4,c23,c24,ak,n2,n3,n4,m23,m24,m34,k2,k3,k4,k5,PO,kb,w1];exact agO
  ·have eb:st.bad≠0:=by simpa using kb
   have en:aC st=(⟨0,0,[]⟩,st):=adT;simp only[go_sem,c2,c4,c23,c24,ak,n2,n3,n4,m23,m24,m34,k2,k3,k4,k5,PO,kb];exact agO
 have e5:(aI st).kind≠5:=by simpa using k5
 simp only[go_sem,c4,ak,n3,n4,m34,k2,k3,k4,k5];refine(tv st wL hw).run ?_;cases kt:isD st wL
 case true=>
  have ev:fR st=(⟨1,1,[]⟩,st):=by simp[fR,e2,e3,e4,e5,kt]
  cases kb:(st.bad !=0)
  ·have eb:st.bad=0:=by simpa using kb
   have en:aC st=(⟨1,1,[]⟩,bf st):=adT;simp only[go_sem,c2,c4,c23,c24,ak,n2,n4,m23,m24,PO,kb,w1];exact agO
  ·have eb:st.bad≠0:=by simpa using kb
   have en:aC st=(⟨0,0,[]⟩,st):=adT;simp only[go_sem,c2,c4,c23,c24,ak,n2,n4,m23,m24,PO,kb];exact agO
 simp only[go_sem];refine(tv st qs hw).run ?_;cases kf:isD st qs
 case true=>
  have ev:fR st=(⟨1,0,[]⟩,st):=by simp[fR,e2,e3,e4,e5,kt,kf]
  cases kb:(st.bad !=0)
  ·have eb:st.bad=0:=by simpa using kb
   have en:aC st=(⟨1,0,[]⟩,bf st):=adT;simp only[go_sem,c2,c4,c23,c24,ak,n2,n4,m23,m24,PO,kb,w1];exact agO
  ·have eb:st.bad≠0:=by simpa using kb
   have en:aC st=(⟨0,0,[]⟩,st):=adT;simp only[go_sem,c2,c4,c23,c24,ak,n2,n4,m23,m24,PO,kb];exact agO
 have ev:fR st=(⟨0,(aI st).n,(aI st).s⟩,bl st):=by simp[fR,e2,e3,e4,e5,kt,kf]
 have en:aC st=(⟨0,0,[]⟩,bl st):=by simp[aC,ev,rH]
 have kb:((bl st).bad !=0)=true:=by simpa using rH st
 simp only[go_sem];refine(lp st hw).run ?_;simp only[go_sem,c2,c23,c24,ak,n2,m23,m24,PO,kb];exact agO
def tJ:List Txt:=[[61],[60],[62]]
theorem RB{st:PS}(i:Nat)(hi:i<tJ.length)(hb:∀j (hj:j<tJ.length),j<i→isD st tJ[j]=false)(h:isD st tJ[i]=true):opP st=((i:Int)+1,bf st):=by
 have h3:i<3:=hi;rcases(by omega:i=0∨i=1∨i=2)with rfl|rfl|rfl
 ·simp only[opP,show isD st [61]=true from h,if_true];rfl
 ·simp only[opP,show isD st [61]=false from hb 0 acz acz,show isD st [60]=true from h,if_true];rfl
 ·simp only[opP,show isD st [61]=false from hb 0 acz acz,show isD st [60]=false from hb 1 acz acz,show isD st [62]=true from h,if_true];rfl
theorem LX{st:PS}(hb:∀j (hj:j<tJ.length),isD st tJ[j]=false):opP st=(0,bl st):=by
 simp only[opP,show isD st [61]=false from hb 0 acz,show isD st [60]=false from hb 1 acz,show isD st [62]=false from hb 2 acz];rfl
theorem Hs(st:PS)(hw:WfP st):PC 269 [] st (dI (gr st).1) (gr st).2:=.of fun G id=>by
 have h1:=BB hw;obtain⟨a,st1,e1⟩:∃a st1,fS st=(a,st1):=⟨_,_,rfl⟩;have hat:=Kx st hw;rw[e1]at h1 hat;simp only at h1 hat;refine acs Tryz.func269 32 [.cell 2 273] fun hwf=>?_
 simp only[go_sem];intro i2 hi2;have n2:=aF hi2;have hG2:G i2=none:=ac7;have c2:∀(f:Heap) (x y:Option Blk),upd (upd f id x) i2 y=upd (upd f i2 y) id x:=fun f x y=>cr f x y n2.symm
 simp only[go_sem,c2];refine hat.run ?_;simp only[go_sem,CH];intro i3 hi3;have n3:=aF hi3;have hi3' :=hi3;rw[ag _ _ n3]at hi3';have n32:=aF hi3';have hG3:G i3=none:=ac7;have c3:∀(f:Heap) (x y:Option Blk),upd (upd f id x) i3 y=upd (upd f i3 y) id x:=fun f x y=>cr f x y n3.symm
 have c23:∀(f:Heap) (x y:Option Blk),upd (upd f i3 x) i2 y=upd (upd f i2 y) i3 x:=fun f x y=>cr f x y n32
 have m32:¬i3=i2:=n32;have m23:¬i2=i3:=n32.symm;simp only[go_sem,c3,ak,n3];refine .intro (fun m ρ H=>H=upd (upd (upd G i2 (some (.obj [.i 0,.s [],.b false,.i 0,.i 0,.i 0,.s []] 273))) i3 (some (.obj [.i a.cat,.s a.name,.b a.must,.i 0,.i 0,.i 0,.s []] 273))) id (some (PO st1))∧
  ∃i:Nat,i≤3∧m=3 - i∧(∀j (hj:j<tJ.length),j<i→isD st1 tJ[j]=false)∧lk ρ 0=some (.ptr id 0)∧lk ρ 2=some (.ptr i2 0)∧lk ρ 3=some (.ptr i3 0)∧lk ρ 9=some (.sl (tJ.map AV.s) .full)∧lk ρ 10=some (.i 3)∧lk ρ 11=some (.i i)) 3 ?_ ?_
 ·refine⟨rfl,0,acu,rfl,fun j _ hj=>acu,?_,?_,?_,?_,?_,?_⟩<;>simp only[go_sem]<;>rfl
 ·rintro m ρ H ⟨rfl,i,hi,rfl,hb,r0,r2,r3,r9,r10,r11⟩
  simp only[go_sem,r10,r11];refine .intro (fun e=>?_) (fun e=>?_)
  ·have hlt:i<3:=by grind
   have hlo:i<tJ.length:=hlt;have w1:IntKind.i64.wrap ((i:Int)+1)=((i+1:Nat):Int):=acI;have w2:IntKind.i64.wrap (1+(i:Int))=((i:Int)+1):=acv;simp only[go_sem,r9,r11];refine .at i acv acL ?_;simp only[go_sem,r0,acj];refine(jT st1 tJ[i] h1.1).run ?_;cases d1:isD st1 tJ[i]
   ·have et:cm st1 tJ[i]=(false,st1):=by grind [cm]
    rw[et];simp only[go_sem,r11,w1];refine⟨_,?_,rfl,i+1,acu,rfl,fun j hj hji=>?_,?_,?_,?_,?_,?_,?_⟩
    ·omega
    ·grind
    all_goals simp only[go_sem,r0,r2,r3,r9,r10]
   ·have et:cm st1 tJ[i]=(true,bf st1):=by grind [cm]
    have eo:=RB i hlo hb d1;have h2:Ah st1 (bf st1):=eS h1.1 (dw d1);have en:gr st=(⟨a,(i:Int)+1,(aC (bf st1)).1⟩,(aC (bf st1)).2):=by grind [gr]
    have d2:(((i:Int)+1)==0)=false:=acK;rw[et];simp only[go_sem,c3,ak,n3,r0,r3,w2,d2];refine(uj (bf st1) h2.1).run ?_;exact ahE
  ·have hge:i=3:=by grind
   subst hge;have eo:=LX fun j hj=>hb j hj hj
   have h2:Ah st1 (bl st1):=nW h1.1;have en:gr st=(⟨a,0,(aC (bl st1)).1⟩,(aC (bl st1)).2):=by grind [gr]
   simp only[go_sem,r0,r3,ak,n3];refine(lp st1 h1.1).run ?_;simp only[go_sem,r0];refine(uj (bl st1) h2.1).run ?_;exact ahE
theorem R8:(U 273).sz=7:=acK
theorem U8:(U 273).bytes=72:=acK
theorem HR(l:List bN):Sized 7 (l.map dI):=fun z hz=>by
 obtain⟨c,_,rfl⟩:=List.mem_map.1 hz;rfl
theorem R7:(U 274).sz=1:=acK
theorem U6:(U 274).bytes=24:=acK
theorem HQ(l:List (List bN)):Sized 1 (l.map iQ):=fun z hz=>by
 obtain⟨c,_,rfl⟩:=List.mem_map.1 hz;rfl
theorem R9:(U 270).sz=1:=acK
theorem Va:(U 270).bytes=24:=acK
theorem HT(l:List (List (List bN))):Sized 1 (l.map cN):=fun z hz=>by
 obtain⟨c,_,rfl⟩:=List.mem_map.1 hz;rfl
theorem Pk(st:PS)(hw:WfP st):PC 238 [] st (iQ (pR st).1) (pR st).2:=.of fun G id=>by
 have h1:=pZ hw;have hm1:=Hs st hw;obtain⟨x0,st1,e1⟩:∃x0 st1,gr st=(x0,st1):=⟨_,_,rfl⟩;have ep:fL gr [44] 8 st.ts.length st1 [x0]=pR st:=by grind [pR]
 rw[e1]at h1 hm1;simp only[dI]at h1 hm1;refine acs Tryz.func238 20 [.tmp 2] fun hwf=>?_
 simp only[go_sem];refine hm1.run ?_;simp only[go_sem];have hB:upd G id none id=none:=ah ..;refine .intro (fun m ρ H=>∃(f:Nat) (st' :PS) (l:List _) (y:AV),H id=some (PO st')∧Acc U 273 (upd G id none) H y (l.map dI)∧Ah st1 st'∧fL gr [44] 8 f st' l=pR st∧st1.ts.length≤f+st'.pos∧l.length≤st'.pos+1∧m=st1.ts.length - st'.pos∧lk ρ 0=some (.ptr id 0)∧lk ρ 3=some y) (st1.ts.length - st1.pos) ?_ ?_
 ·refine⟨st.ts.length,st1,[x0],.sl ([x0].map dI) .full,ah ..,.full (base_start G id _),.refl h1.1,ep,by rw[h1.2.1];omega,acD,rfl,?_,?_⟩<;>simp only[go_sem]<;>rfl
 ·rintro m ρ H ⟨f,st',l,y,hH,hy,ha,hfin,hf,hll,rfl,r0,r3⟩
  have hlen:=ha.1.2.2;have hpos:=ha.1.1;have htl:=ha.2.1;simp only[go_sem,r0];refine(jT st' [44] ha.1).go hH ?_;cases d1:isD st' [44]
  ·have et:cm st' [44]=(false,st'):=by grind [cm]
   have ef:fL gr [44] 8 f st' l=(l,st'):=afW;rw[et,bD hH];rw[ef]at hfin;simp only[go_sem,r3];exact .mk (h' :=upd G id (some (PO (pR st).2))) (iQ l) hy.weak (by rw[←hfin];exact fl hy.1 hH) ⟨acv,rfl⟩
  ·have et:cm st' [44]=(true,bf st'):=by grind [cm]
   obtain⟨g,rfl⟩:∃g,f=g+1:=⟨f - 1,acv⟩;simp only[fL,d1,if_true]at hfin;have h2:=eS ha.1 (dw d1);have hone:=Hs (bf st') h2.1;have h3:=(fun _ h=>pZ h:∀st,WfP st→Ah st (gr st).2) _ h2.1
   obtain⟨x,st2,e2⟩:∃x st2,gr (bf st')=(x,st2):=⟨_,_,rfl⟩;rw[e2]at hfin hone h3;simp only[dI]at hfin hone h3;have hdec:decide ((8:Int)<((l.length+1:Nat):Int))=decide (8<l.length+1):=by
    grind
   have h4:=kQ (decide (8<l.length+1)) h3.1;have hnp:(bf st').pos=st'.pos+1:=rfl;have hp3:=h3.2.2;have hp4:=h4.2.2;rw[et];simp only[go_sem,r0,r3];refine hone.run ?_;simp only[go_sem];refine(hy.put hB hH _).app (zs:=[dI x]) (by grind [R8]) (by grind [U8]) (fun k hk=>hk) (by grind [R8,HR]) (by rw[R8];exact HR [x]) (by grind [U8]) fun y' H2 hy' hk2=>?_
   exact agM
theorem Pm(st:PS)(hw:WfP st):PC 203 [] st (cN (rJ st).1) (rJ st).2:=.of fun G id=>by
 have h0:=jc [40] hw;have h1:=Bz h0.1;have hm1:=Pk _ h0.1;obtain⟨x0,st1,e1⟩:∃x0 st1,pR (dP st [40])=(x0,st1):=⟨_,_,rfl⟩;obtain⟨M,eM⟩:∃M,fL pR orT 8 st.ts.length st1 [x0]=M:=⟨_,rfl⟩;have epp:(M.1,dP M.2 [41])=rJ st:=by grind [rJ]
 rw[e1]at h1 hm1;simp only[iQ]at h1 hm1;refine acs Tryz.func203 24 [.tmp 2] fun hwf=>?_
 simp only[go_sem];refine(kH st [40] hw).run ?_;simp only[go_sem];refine hm1.run ?_;simp only[go_sem];have hB:upd G id none id=none:=ah ..;refine .intro (fun m ρ H=>∃(f:Nat) (st' :PS) (l:List _) (y:AV),H id=some (PO st')∧Acc U 274 (upd G id none) H y (l.map iQ)∧Ah st1 st'∧fL pR orT 8 f st' l=M∧st1.ts.length≤f+st'.pos∧l.length≤st'.pos+1∧m=st1.ts.length - st'.pos∧lk ρ 0=some (.ptr id 0)∧lk ρ 3=some y) (st1.ts.length - st1.pos) ?_ ?_
 ·refine⟨st.ts.length,st1,[x0],.sl ([x0].map iQ) .full,ah ..,.full (base_start G id _),.refl h1.1,eM,by rw[h1.2.1,h0.2.1];omega,acD,rfl,?_,?_⟩<;>simp only[go_sem]<;>rfl
 ·rintro m ρ H ⟨f,st',l,y,hH,hy,ha,hfin,hf,hll,rfl,r0,r3⟩
  have hlen:=ha.1.2.2;have hpos:=ha.1.1;have htl:=ha.2.1;simp only[go_sem,r0];refine(jT st' orT ha.1).go hH ?_;cases d1:isD st' orT
  ·have et:cm st' orT=(false,st'):=by grind [cm]
   have ef:fL pR orT 8 f st' l=(l,st'):=afW;rw[et,bD hH];rw[ef]at hfin;simp only[go_sem,r0];refine(kH st' [41] ha.1).go hH ?_;simp only[go_sem,r3];exact .mk (h' :=upd G id (some (PO (rJ st).2))) (cN l) hy.weak (by rw[←epp,←hfin];exact fl (hy.1.put hB _) (ah ..)) ⟨acv,rfl⟩
  ·have et:cm st' orT=(true,bf st'):=by grind [cm]
   obtain⟨g,rfl⟩:∃g,f=g+1:=⟨f - 1,acv⟩;simp only[fL,d1,if_true]at hfin;have h2:=eS ha.1 (dw d1);have hone:=Pk (bf st') h2.1;have h3:=(fun _ h=>Bz h:∀st,WfP st→Ah st (pR st).2) _ h2.1
   obtain⟨x,st2,e2⟩:∃x st2,pR (bf st')=(x,st2):=⟨_,_,rfl⟩;rw[e2]at hfin hone h3;simp only[iQ]at hfin hone h3;have hdec:decide ((8:Int)<((l.length+1:Nat):Int))=decide (8<l.length+1):=by
    grind
   have h4:=kQ (decide (8<l.length+1)) h3.1;have hnp:(bf st').pos=st'.pos+1:=rfl;have hp3:=h3.2.2;have hp4:=h4.2.2;rw[et];simp only[go_sem,r0,r3];refine hone.run ?_;simp only[go_sem];refine(hy.put hB hH _).app (zs:=[iQ x]) (by grind [R7]) (by grind [U6]) (fun k hk=>hk) (by grind [R7,HQ]) (by rw[R7];exact HQ [x]) (by grind [U6]) fun y' H2 hy' hk2=>?_
   exact agM
theorem P4(st:PS)(hw:WfP st):PC 162 [] st (aU (gJ st).1) (gJ st).2:=.of fun G id=>by
 refine acs Tryz.func162 23 [.tmp 2] fun hwf=>?_
 simp only[go_sem];refine(jT st EJ hw).run ?_;cases d0:isD st EJ
 ·have et:cm st EJ=(false,st):=by grind [cm]
  have ep:gJ st=([],st):=by grind [gJ]
  rw[et];simp only[go_sem];exact .mk (h' :=upd G id (some (PO (gJ st).2))) (aU []) (.sl _ _) (by rw[ep];exact .refl _) ⟨by rw[ep],rfl⟩
 have et:cm st EJ=(true,bf st):=by grind [cm]
 have h0:=eS hw (dw d0);have h1:=BA h0.1;have hm1:=Pm _ h0.1;obtain⟨x0,st1,e1⟩:∃x0 st1,rJ (bf st)=(x0,st1):=⟨_,_,rfl⟩;obtain⟨M,eM⟩:∃M,fL rJ CD 8 st.ts.length st1 [x0]=M:=⟨_,rfl⟩;have ep:M=gJ st:=by simp_all [gJ,if_true]
 rw[e1]at h1 hm1;simp only[cN]at h1 hm1;rw[et];simp only[go_sem];refine hm1.run ?_;simp only[go_sem];have hB:upd G id none id=none:=ah ..;refine .intro (fun m ρ H=>∃(f:Nat) (st' :PS) (l:List _) (y:AV),H id=some (PO st')∧Acc U 270 (upd G id none) H y (l.map cN)∧Ah st1 st'∧fL rJ CD 8 f st' l=M∧st1.ts.length≤f+st'.pos∧l.length≤st'.pos+1∧m=st1.ts.length - st'.pos∧lk ρ 0=some (.ptr id 0)∧lk ρ 3=some y) (st1.ts.length - st1.pos) ?_ ?_
 ·refine⟨st.ts.length,st1,[x0],.sl ([x0].map cN) .full,ah ..,.full (base_start G id _),.refl h1.1,eM,by rw[h1.2.1,h0.2.1];omega,acD,rfl,?_,?_⟩<;>simp only[go_sem]<;>rfl
 ·rintro m ρ H ⟨f,st',l,y,hH,hy,ha,hfin,hf,hll,rfl,r0,r3⟩
  have hlen:=ha.1.2.2;have hpos:=ha.1.1;have htl:=ha.2.1;simp only[go_sem,r0];refine(jT st' CD ha.1).go hH ?_;cases d1:isD st' CD
  ·have et:cm st' CD=(false,st'):=by grind [cm]
   have ef:fL rJ CD 8 f st' l=(l,st'):=afW;rw[et,bD hH];rw[ef]at hfin;simp only[go_sem,r3];exact .mk (h' :=upd G id (some (PO (gJ st).2))) (aU l) hy.weak (by rw[←ep,←hfin];exact fl hy.1 hH) ⟨acv,rfl⟩
  ·have et:cm st' CD=(true,bf st'):=by grind [cm]
   obtain⟨g,rfl⟩:∃g,f=g+1:=⟨f - 1,acv⟩;simp only[fL,d1,if_true]at hfin;have h2:=eS ha.1 (dw d1);have hone:=Pm (bf st') h2.1;have h3:=(fun _ h=>BA h:∀st,WfP st→Ah st (rJ st).2) _ h2.1
   obtain⟨x,st2,e2⟩:∃x st2,rJ (bf st')=(x,st2):=⟨_,_,rfl⟩;rw[e2]at hfin hone h3;simp only[cN]at hfin hone h3;have hdec:decide ((8:Int)<((l.length+1:Nat):Int))=decide (8<l.length+1):=by
    grind
   have h4:=kQ (decide (8<l.length+1)) h3.1;have hnp:(bf st').pos=st'.pos+1:=rfl;have hp3:=h3.2.2;have hp4:=h4.2.2;rw[et];simp only[go_sem,r0,r3];refine hone.run ?_;simp only[go_sem];refine(hy.put hB hH _).app (zs:=[cN x]) (by grind [R9]) (by grind [Va]) (fun k hk=>hk) (by grind [R9,HT]) (by rw[R9];exact HT [x]) (by grind [Va]) fun y' H2 hy' hk2=>?_
   exact agM
theorem DR(op:Int)(h:Heap):ai Tryz.prog 314 [.i op] h fun r h' =>r= .sl ((opers op).map jG) .no∧h' =h:=by
 refine acs Tryz.func314 15 [.tmp 2] fun hwf=>?_
 cases k3:(op==3)<;>cases k4:(op==4)<;>cases k5:(op==5)<;>cases k11:(op==11)
 all_goals
  simp only[go_sem,k3,k4,k5,k11];simp only[beq_iff_eq,beq_eq_false_iff_ne]at k3 k4 k5 k11;refine .mk _ (.sl _ _) (.refl _) ⟨?_,rfl⟩
  grind [opers,jG]
theorem Vb:(U 158).sz=3:=acK
theorem Xt:(U 158).bytes=32:=acK
theorem HS(l:List cA):Sized 3 (l.map br):=fun z hz=>by
 obtain⟨c,_,rfl⟩:=List.mem_map.1 hz;rfl
theorem sX(st:PS)(hw:WfP st):PC 166 [] st (az (gj st).1) (gj st).2:=.of fun G id=>by
 obtain⟨M,eM⟩:∃M,gj st=M:=⟨_,rfl⟩;have eM2:fL zT wA 8 st.ts.length st []=M:=eM;refine acs Tryz.func166 28 [.tmp 2] fun hwf=>?_
 simp only[go_sem];have hB:upd G id none id=none:=ah ..;refine .intro (fun m ρ H=>∃(f:Nat) (st' :PS) (l:List cA) (y:AV),H id=some (PO st')∧Acc U 158 (upd G id none) H y (l.map br)∧Ah st st'∧fL zT wA 8 f st' l=M∧st.ts.length≤f+st'.pos∧l.length≤st'.pos+1∧m=st.ts.length - st'.pos∧lk ρ 0=some (.ptr id 0)∧lk ρ 3=some y) (st.ts.length - st.pos) ?_ ?_
 ·refine⟨st.ts.length,st,[],.sl ([].map br) .full,ah ..,.full (base_start G id _),.refl hw,eM2,acu,acD,rfl,?_,?_⟩<;>simp only[go_sem]<;>rfl
 ·rintro m ρ H ⟨f,st',l,y,hH,hy,ha,hfin,hf,hll,rfl,r0,r3⟩
  have hlen:=ha.1.2.2;have hpos:=ha.1.1;have htl:=ha.2.1;simp only[go_sem,r0];refine(jT st' wA ha.1).go hH ?_;cases d1:isD st' wA
  ·have et:cm st' wA=(false,st'):=by grind [cm]
   have ef:fL zT wA 8 f st' l=(l,st'):=afW;rw[et,bD hH];rw[ef]at hfin;simp only[go_sem,r3];exact .mk (h' :=upd G id (some (PO (gj st).2))) (az l) hy.weak (by rw[eM,←hfin];exact fl hy.1 hH) ⟨acv,rfl⟩
  ·have et:cm st' wA=(true,bf st'):=by grind [cm]
   obtain⟨g,rfl⟩:∃g,f=g+1:=⟨f - 1,acv⟩;simp only[fL,d1,if_true]at hfin;have h2:=eS ha.1 (dw d1);have ho1:=gw u6 h2.1;have ho2:=gw mw ho1.1;have ho3:=mW ho2.1;have h3:Ah (bf st') (zT (bf st')).2:=Kq h2.1;have hdec:decide ((8:Int)<((l.length+1:Nat):Int))=decide (8<l.length+1):=by
    grind
   have h4:=kQ (decide (8<l.length+1)) h3.1;have hnp:(bf st').pos=st'.pos+1:=rfl;have hp3:=h3.2.2;have hp4:=h4.2.2;have eX:(zT (bf st'))=(⟨(aV (bf st') u6).1,(aV (aV (bf st') u6).2 mw).1,(ck (aV (aV (bf st') u6).2 mw).2).1⟩,(ck (aV (aV (bf st') u6).2 mw).2).2):=rfl;obtain⟨x,st2,e2⟩:∃x st2,zT (bf st')=(x,st2):=⟨_,_,rfl⟩;rw[et];simp only[go_sem];intro i4 hi4;have n4:=aF hi4;have hH4:H i4=none:=ac7;have c4:∀(f:Heap) (x y:Option Blk),upd (upd f id x) i4 y=upd (upd f i4 y) id x:=fun f x y=>cr f x y n4.symm
   simp only[go_sem,r0,c4];refine(nX _ u6 .full acz h2.1).run ?_;simp only[go_sem,r0,c4,ak,n4];refine(nX _ mw .full acz ho1.1).run ?_;simp only[go_sem,r0,c4,ak,n4];refine(tQ _ ho2.1).run ?_;simp only[go_sem,r3,c4,ak,n4];rw[e2]at hfin h3 h4 hp3 hp4;simp only at hfin h3 h4 hp3 hp4;have ex1:x=(zT (bf st')).1:=by rw[e2]
   have ex2:st2=(ck (aV (aV (bf st') u6).2 mw).2).2:=by
    grind
   rw[←ex2];refine((hy.sub (Sub.aj (k:=_) hH4)).put hB (by rw[ag _ _ n4.symm];exact hH) _).app (zs:=[br x]) acz acz (fun k hk=>by rw[ex1]at hk;exact hk) (by grind [Vb,HS]) (by rw[Vb];exact HS [x]) (by grind [Xt]) fun y' H2 hy' hk2=>?_
   exact agM
theorem sP{U:TypeId→TI}{e:TypeId}{B B' H:Heap}{y:AV}{xs:List AV}(hs:Sub B B')(ha:Acc U e B' H y xs):Acc U e B H y xs:=by
 obtain⟨h1,rfl|⟨k,i1,rfl,i2⟩⟩:=ha
 ·exact⟨hs.trans h1,.inl rfl⟩
 ·refine⟨hs.trans h1,.inr ⟨k,?_,rfl,i2⟩⟩
  cases hk:B k with
  |none=>rfl
  |some b=>rw[hs _ _ hk]at i1;omega
theorem xC{U:TypeId→TI}{e:TypeId}{B H:Heap}{y:AV}{xs:List AV}(ha:Acc U e B H y xs){i:Nat}(hi:H i=none)(b:Option Blk):Acc U e (upd B i b) (upd H i b) y xs:=by
 obtain⟨h1,rfl|⟨k,i1,rfl,i2⟩⟩:=ha
 ·exact⟨h1.both _ _,.inl rfl⟩
 ·have hne:k≠i:=fun hh=>by subst hh;rw[hi]at i2;cases i2
  exact⟨h1.both _ _,.inr ⟨k,ac7,rfl,ac7⟩⟩
theorem nV{U:TypeId→TI}{e:TypeId}{G K:Heap}{id:Nat}{st:PS}{y:AV}{xs:List AV}(ha:Acc U e (upd G id none) (upd K id (some (PO st))) y xs)(st' :PS):Acc U e (upd G id none) (upd K id (some (PO st'))) y xs:=by
 have:=ha.put (id:=id) (ah ..) (cs:=_) (t:=_) (ah ..) (some (PO st'));rw[dQ]at this;exact adi
def XC(f:FuncId)(args:List AV)(st:PS)(l:List aN)(mk:AV→AV)(st' :PS)(l' :List aN):Prop:=
 ∀(G K:Heap) (id:Nat) (y:AV),Acc U 229 (upd G id none) (upd K id (some (PO st))) y (l.map dz)→ai Tryz.prog f (.ptr id 0::y::args) (upd K id (some (PO st))) fun r h' =>∃y',r=mk y'∧h' id=some (PO st')∧Acc U 229 (upd G id none) h' y' (l'.map dz)
theorem XC.run{f:FuncId}{args:List AV}{st st' :PS}{l l' :List aN}{mk:AV→AV}(hc:XC f args st l mk st' l'){G K:Heap}{id:Nat}{y:AV}{Q:AV→Heap→Prop}(ha:Acc U 229 (upd G id none) (upd K id (some (PO st))) y (l.map dz))
  (k:∀y' K',Acc U 229 (upd G id none) (upd K' id (some (PO st'))) y' (l'.map dz)→Q (mk y') (upd K' id (some (PO st')))):ai Tryz.prog f (.ptr id 0::y::args) (upd K id (some (PO st))) Q:=
 (hc G K id y ha).mono fun r h' ⟨y',e1,e2,e3⟩=>by
  subst e1;have:=k y' h' (by grind [bD])
  rwa [bD e2]at this
def EH(ex:ExF)(f:Nat):Prop:=∀st l,WfP st→st.ts.length≤f+st.pos→l.length≤2*st.pos+1→XC 270 [] st l (fun y=> .tup [y,.v (.bool (ex st l).1.2)]) (ex st l).2 (ex st l).1.1
theorem Ii(st:PS)(ws:List Txt):0≤(aV st ws).1∧(aV st ws).1≤ws.length:=by
 unfold aV;cases ei:uN (aI st).s ws with
 |none=>simp
 |some i=>
  have:=B3 ei;simp only;split<;>simp<;>omega
theorem AT{ex:ExF}(ho:EO ex){f:Nat}(he:EH ex f)(st:PS)(l:List aN)(b:Bool)(hw:WfP st)(hf:st.ts.length≤f+st.pos)(hl:l.length≤2*st.pos+1):XC 239 [.b b] st l (fun y=>y) (ig ex st l b).2 (ig ex st l b).1:=fun G K id y ha=>by
 refine acs Tryz.func239 25 [.tmp 6] fun hwf=>?_
 simp only[go_sem];refine(lU st hw).run ?_;simp only[go_sem,fu];refine(he st l hw hf hl).run ha fun y' K' ha' =>?_
 cases db:((ex st l).1.2==b)
 ·have e1:(ex st l).1.2≠b:=by grind
  have en:ig ex st l b=((ex st l).1.1,bF (ex st l).2 5 (aI st).pos):=by grind [ig]
  simp only[go_sem,db,Bool.not_false];refine(rm _ 5 _).run ?_;simp only[go_sem];exact .mk (h' :=upd K' id (some (PO (bF (ex st l).2 5 (aI st).pos)))) y' (.refl _) (.refl _) ⟨y',rfl,agC,by grind [nV]⟩
 ·have e1:(ex st l).1.2=b:=by grind
  have en:ig ex st l b=((ex st l).1.1,(ex st l).2):=by grind [ig]
  simp only[go_sem,db,Bool.not_true];exact .mk (h' :=upd K' id (some (PO (ex st l).2))) y' (.refl _) (.refl _) ⟨y',rfl,agC,acv⟩
theorem Fx{ex:ExF}(ho:EO ex){f:Nat}(he:EH ex f)(st:PS)(l:List aN)(hw:WfP st)(hf:st.ts.length≤f+st.pos)(hl:l.length+1≤2*st.pos):XC 296 [] st l (fun y=> .tup [y,dz (qv ex st l).1.2]) (qv ex st l).2 (qv ex st l).1.1:=fun G K id y ha=>by
 have h1:=gw lH hw;have hrg:=Ii st lH;have hfl:lH.length=11:=rfl;have w2:IntKind.i64.wrap (2+(aV st lH).1)=2+(aV st lH).1:=acI;refine acs Tryz.func296 36 [.tmp 4,.cell 5 229] fun hwf=>?_
 simp only[go_sem];intro i5 hi5;have n5:=aF hi5;have hK5:K i5=none:=ac7;have c5:∀(f:Heap) (x y:Option Blk),upd (upd f id x) i5 y=upd (upd f i5 y) id x:=fun f x y=>cr f x y n5.symm
 simp only[go_sem,c5];refine(nX _ lH .full acz hw).run ?_;simp only[go_sem,w2];intro i6 hi6;have n6:=aF hi6;have c6:∀(f:Heap) (x y:Option Blk),upd (upd f id x) i6 y=upd (upd f i6 y) id x:=fun f x y=>cr f x y n6.symm
 have hi6' :=hi6;rw[ag _ _ n6]at hi6';have n65:=aF hi6';have hK6:K i6=none:=ac7;simp only[go_sem,c6,ak,n6];refine(DR _ _).pthen ?_;simp only[go_sem];have h5f:=ha;obtain⟨bs,ebs⟩:∃bs,opers (2+(aV st lH).1)=bs:=⟨_,rfl⟩;obtain⟨M,eM⟩:∃M,jn ex bs (aV st lH).2 l=M:=⟨_,rfl⟩;have hb2:bs.length≤2:=by grind [DS]
 have hMr:qv ex st l=((M.1,⟨2+(aV st lH).1,⟨0,0,[]⟩,⟨0,[],false⟩⟩),dP M.2 [41]):=by grind [qv]
 obtain⟨st1,es1⟩:∃st1,(aV st lH).2=st1:=⟨_,rfl⟩;have hac0:=xC (xC (nV ha st1) (by rw[ag _ _ n5];omega) (some (.obj [.i 0,.i 0,.i 0,.s [],.i 0,.s [],.b false] 229))) (by rw[ag _ _ n65,ag _ _ n6];omega) (some (.obj [.i (2+(aV st lH).1),.i 0,.i 0,.s [],.i 0,.s [],.b false] 229))
 simp only[c5,c6]at hac0;obtain⟨G',eG⟩:∃G',G' =upd (upd G i5 (some (.obj [.i 0,.i 0,.i 0,.s [],.i 0,.s [],.b false] 229))) i6 (some (.obj [.i (2+(aV st lH).1),.i 0,.i 0,.s [],.i 0,.s [],.b false] 229)):=⟨_,rfl⟩;have g5:upd G' id none i5=some (.obj [.i 0,.i 0,.i 0,.s [],.i 0,.s [],.b false] 229):=by simp_all [ag,Ne.symm,ah]
 have g6:upd G' id none i6=some (.obj [.i (2+(aV st lH).1),.i 0,.i 0,.s [],.i 0,.s [],.b false] 229):=by simp_all [ag,ah]
 rw[←eG]at hac0;have gi5:upd G id none i5=none:=by
  cases hk:upd G id none i5 with
  |none=>rfl
  |some b=>rw[ha.1 _ _ hk]at hi5;omega
 have hsG:Sub (upd G id none) (upd G' id none):=fun k b hk=>by
  have hs1:=ha.1 k b hk;have hk5:k≠i5:=fun e=>acv
  have hk6:k≠i6:=fun e=>by
   grind [ag]
  by_cases hkid:k=id
  ·subst hkid;rw[ah]at hk;cases hk
  ·rw[ag _ _ hkid]at hk⊢
   rw[eG,ag _ _ hk6,ag _ _ hk5];exact hk
 simp only[es1,ebs]at h1 eM⊢;refine .intro (fun m ρ H=>∃(i:Nat) (st' :PS) (l' :List aN) (y' :AV) (K' :Heap),H=upd K' id (some (PO st'))∧Acc U 229 (upd G' id none) (upd K' id (some (PO st'))) y' (l'.map dz)∧Ah st1 st'∧i≤bs.length∧jn ex (bs.drop i) st' l' =M∧l'.length+1≤2*st'.pos+i∧m=bs.length - i∧lk ρ 0=some (.ptr id 0)∧lk ρ 1=some y'∧lk ρ 5=some (.ptr i5 0)∧lk ρ 6=some (.ptr i6 0)∧lk ρ 16=some (.sl (bs.map jG) .no)∧lk ρ 17=some (.i bs.length)∧lk ρ 18=some (.i i)) bs.length ?_ ?_
 ·refine⟨0,st1,l,y,_,rfl,hac0,.refl h1.1,acu,acv,by have:=h1.2.2;omega,rfl,?_,?_,?_,?_,?_,?_,?_⟩<;>simp only[go_sem]<;>(try rfl)<;>simp
 ·rintro m ρ H ⟨i,st',l',y',K',rfl,hac,hah,hi,hfin,hll,rfl,r0,r1,r5,r6,r16,r17,r18⟩
  simp only[go_sem,r17,r18];have k6:upd K' id (some (PO st')) i6=some (.obj [.i (2+(aV st lH).1),.i 0,.i 0,.s [],.i 0,.s [],.b false] 229):=hac.1 _ _ g6;have k5:upd K' id (some (PO st')) i5=some (.obj [.i 0,.i 0,.i 0,.s [],.i 0,.s [],.b false] 229):=hac.1 _ _ g5;rw[ag _ _ n6]at k6;rw[ag _ _ n5]at k5;refine .intro (fun e=>?_) (fun e=>?_)
  ·have hlt:i<bs.length:=acq e
   simp only[go_sem,r16,r18];refine .at i acv acL ?_;cases db:(st'.bad !=0)
   ·have e1:st'.bad=0:=by grind
    rw[List.drop_eq_getElem_cons hlt]at hfin;simp only[jn,e1,if_true]at hfin;simp only[go_sem,r0,r1,acj,jG,PO,db];have hpl:=hah.2.2;refine(AT ho he st' l' bs[i] hah.1 (by rw[hah.2.1,h1.2.1];have:=h1.2.2;omega) acu).run hac fun y2 K2 hac2=>?_
    obtain⟨q1,q2⟩:=yO ho st' l' bs[i] hah.1;have w1:IntKind.i64.wrap ((i:Int)+1)=((i+1:Nat):Int):=acI;simp only[go_sem,r18,w1];refine⟨_,?_,i+1,(ig ex st' l' bs[i]).2,(ig ex st' l' bs[i]).1,y2,K2,rfl,hac2,hah.trans q1,hlt,hfin,acu,rfl,?_⟩
    ·omega
    refine⟨?_,?_,?_,?_,?_,?_,?_⟩
    all_goals simp only[go_sem,r0,r5,r6,r16,r17]
   ·have e1:st'.bad≠0:=by grind
    have hfin2:(l',st')=M:=by
     grind [List.drop_eq_getElem_cons,jn]
    clear hfin;have hfin:=hfin2;simp only[go_sem,r0,acj,jG,PO,db];refine(kH _ [41] hah.1).run ?_;simp only[go_sem,r1,r5,r6,ak,n5,n6,k5,k6];refine⟨.of acw,?_⟩;exact .mk (.tup [y',dz ⟨2+(aV st lH).1,⟨0,0,[]⟩,⟨0,[],false⟩⟩]) (.refl _) (.refl _) ⟨y',acK,by rw[hMr,←hfin];exact(ag _ _ (Ne.symm n5)).trans (ah ..),adZ⟩
  ·have hge:i=bs.length:=by grind
   subst hge;rw[List.drop_length]at hfin;simp only[jn]at hfin;simp only[go_sem,r0];refine(kH _ [41] hah.1).run ?_;simp only[go_sem,r1,r5,r6,ak,n5,n6,k5,k6];refine⟨.of acw,?_⟩;exact .mk (.tup [y',dz ⟨2+(aV st lH).1,⟨0,0,[]⟩,⟨0,[],false⟩⟩]) (.refl _) (.refl _) ⟨y',acK,by rw[hMr,←hfin];simp_all [ag,Ne.symm,trans,ah],adZ⟩
theorem sH:(U 229).sz=7:=acK
theorem Ad:(U 229).bytes=72:=acK
theorem kM(l:List aN):Sized 7 (l.map dz):=fun z hz=>by
 obtain⟨c,_,rfl⟩:=List.mem_map.1 hz;rfl
theorem Q8(f:Nat)(ih:EH (ew f) f):EH (ew (f+1)) (f+1):=fun st l hw hf hl G K id y ha=>by
 refine acs Tryz.func270 52 [.tmp 4,.tmp 5] fun hwf=>?_
 simp only[go_sem];intro i6 hi6;have n6:=aF hi6;have hK6:K i6=none:=by rw[ag _ _ n6]at hi6;exact hi6
 have c6:∀(f:Heap) (x y:Option Blk),upd (upd f id x) i6 y=upd (upd f i6 y) id x:=fun f x y=>cr f x y n6.symm
 have gi6:upd G id none i6=none:=by
  cases hk:upd G id none i6 with
  |none=>rfl
  |some b=>rw[ha.1 _ _ hk]at hi6;cases hi6
 have hac:=xC ha hi6 (some (.obj [.i 0,.i 0,.i 0,.s [],.i 0,.s [],.b false] 229));simp only[go_sem,c6];refine(lU st hw).run ?_;simp only[go_sem,fu];intro i7 hi7;have n7:=aF hi7;have hi7' :=hi7;rw[ag _ _ n7]at hi7';have n76:=aF hi7';have m76:¬i7=i6:=n76;have m67:¬i6=i7:=fun e=>n76 e.symm
 have hK7:K i7=none:=by rw[ag _ _ n76]at hi7';exact hi7'
 have c7:∀(f:Heap) (x y:Option Blk),upd (upd f id x) i7 y=upd (upd f i7 y) id x:=fun f x y=>cr f x y n7.symm
 have e6:upd (upd G id none) i6 (some (.obj [.i 0,.i 0,.i 0,.s [],.i 0,.s [],.b false] 229))=upd (upd G i6 (some (.obj [.i 0,.i 0,.i 0,.s [],.i 0,.s [],.b false] 229))) id none:=c6 G none _;have hac7:∀k,Acc U 229 (upd (upd G i6 (some (.obj [.i 0,.i 0,.i 0,.s [],.i 0,.s [],.b false] 229))) id none) (upd (upd (upd K i6 (some (.obj [.i 0,.i 0,.i 0,.s [],.i 0,.s [],.b false] 229))) i7 k) id (some (PO st))) y (l.map dz):=fun k=>by
  have:=hac.sub (Sub.aj (k:=k) (by rw[c6];exact hi7))
  rw[e6,c6 K,c7]at this;exact adi
 have hsG:Sub (upd G id none) (upd (upd G i6 (some (.obj [.i 0,.i 0,.i 0,.s [],.i 0,.s [],.b false] 229))) id none):=by
  rw[←e6];exact Sub.aj gi6
 have g6:upd (upd G i6 (some (.obj [.i 0,.i 0,.i 0,.s [],.i 0,.s [],.b false] 229))) id none i6=some (.obj [.i 0,.i 0,.i 0,.s [],.i 0,.s [],.b false] 229):=by rw[←e6,ah]
 simp only[go_sem,c7,ak,n7];refine(jT st [40] hw).run ?_;have hacX:∀tk NB st',Acc U 229 (upd G id none) (upd (upd (upd (upd K i6 (some (.obj [.i 0,.i 0,.i 0,.s [],.i 0,.s [],.b false] 229))) i7 tk) i6 NB) id (some (PO st'))) y (l.map dz):=fun tk NB st' =>by
  have:=(nV (sP hsG (hac7 tk)) st').put gi6 ((ag _ _ n6).trans ((ag _ _ m67).trans (ah ..))) NB;rw[c6]at this;exact adi
 obtain⟨⟨⟨lh,n⟩,sth⟩,eh⟩:∃x,iX (ew f) st l=x:=⟨_,rfl⟩;obtain⟨hha,hhl⟩:=Dj (qq f) st l hw;rw[eh]at hha hhl;simp only at hha hhl;have hwp:=hha.1.2.2;have hwq:=hha.1.1;have hpl:=hha.2.2;have hdec:decide ((32:Int)<((lh.length+1:Nat):Int))=decide (32<lh.length+1):=by
  by_cases h:32<lh.length+1
  ·simp only[h,decide_true];exact decide_eq_true acu
  ·simp only[h,decide_false];exact decide_eq_false acu
 cases d0:isD st [40]
 ·have et:cm st [40]=(false,st):=by simp[cm,d0]
  rw[et];cases d1:((aI st).kind==1)
  ·have en:iX (ew f) st l=((l,⟨1,(aC st).1,⟨0,[],false⟩⟩),(aC st).2):=by
    have:(aI st).kind≠1:=afy;simp[iX,d0,this]
   simp only[go_sem,ak,n7,d1];exact agL
  ·have k1:(aI st).kind=1:=by simpa using d1
   cases d2:((aI st).s== [116,114,117,101])
   ·have k2:(aI st).s≠wL:=by unfold wL;simpa using d2
    cases d3:((aI st).s== [102,97,108,115,101])
    ·have k3:(aI st).s≠qs:=by unfold qs;simpa using d3
     have en:iX (ew f) st l=((l,⟨2,⟨0,0,[]⟩,(fS st).1⟩),(fS st).2):=by simp[iX,d0,k1,k2,k3]
     simp only[go_sem,ak,n7,d1,d2,d3,Bool.not_false];refine(Kx st hw).run ?_;rw[en]at eh;injection eh with eh1 eh2
     injection eh1 with eh3 eh4
     subst eh2;subst eh3;subst eh4;simp only[go_sem,c6,ak,n6,m67,CH];refine(hacX _ _ _).app (zs:=[dz (⟨2,⟨0,0,[]⟩,(fS st).1⟩:aN)]) agp ago (fun k hk=>hk) afF (by rw[sH];exact kM [(⟨2,⟨0,0,[]⟩,(fS st).1⟩:aN)]) afn fun y3 H3 hy3 hk3=>?_
     have hH3:H3 id=some (PO (fS st).2):=hk3 _ _ _ (ah ..);have hb3:H3 i6=some (.obj [.v (.int .i64 (⟨2,⟨0,0,[]⟩,(fS st).1⟩:aN).op),.v (.int .i64 (⟨2,⟨0,0,[]⟩,(fS st).1⟩:aN).val.kind),.v (.int .i64 (⟨2,⟨0,0,[]⟩,(fS st).1⟩:aN).val.n),.s (⟨2,⟨0,0,[]⟩,(fS st).1⟩:aN).val.s,.v (.int .i64 (⟨2,⟨0,0,[]⟩,(fS st).1⟩:aN).attr.cat),.s (⟨2,⟨0,0,[]⟩,(fS st).1⟩:aN).attr.name,.v (.bool (⟨2,⟨0,0,[]⟩,(fS st).1⟩:aN).attr.must)] 229):=hk3 _ _ _ ((ag _ _ n6).trans (ah ..));simp only[go_sem,hy3.len,acn,aci,List.length_cons,List.length_nil,Nat.zero_add,hdec];refine(cG (fS st).2 _ hha.1).go hH3 ?_;simp only[go_sem,ak,n6,hb3];refine⟨.of acw,?_⟩;have efin:ew (f+1) st l=((l++ [(⟨2,⟨0,0,[]⟩,(fS st).1⟩:aN)],(⟨2,⟨0,0,[]⟩,(fS st).1⟩:aN).op==2),bC (fS st).2 (decide (32<l.length+1))):=agv;exact .mk (.tup [y3,.b ((⟨2,⟨0,0,[]⟩,(fS st).1⟩:aN).op==2)]) (.refl _) (.refl _) ⟨y3,by rw[efin],ae0,adk⟩
    ·have k3:(aI st).s=qs:=by unfold qs;simpa using d3
     have en:iX (ew f) st l=((l,⟨1,(aC st).1,⟨0,[],false⟩⟩),(aC st).2):=by simp[iX,d0,k1,k3]
     simp only[go_sem,ak,n7,d1,d2,d3,Bool.not_false,Bool.not_true];exact agL
   ·have k2:(aI st).s=wL:=by unfold wL;simpa using d2
    have en:iX (ew f) st l=((l,⟨1,(aC st).1,⟨0,[],false⟩⟩),(aC st).2):=by simp[iX,d0,k1,k2]
    simp only[go_sem,ak,n7,d1,d2,Bool.not_true];exact agL
 ·have et:cm st [40]=(true,bf st):=by simp[cm,d0]
  have h1:=eS hw (dw d0);have hnp:(bf st).pos=st.pos+1:=rfl;have hnt:(bf st).ts=st.ts:=rfl;rw[et];simp only[go_sem];have ef:qv (ew f) (bf st) l=((lh,n),sth):=by rw[←eh];simp[iX,d0]
  have hfx:=Fx (qq f) ih (bf st) l h1.1 (by rw[hnt];omega) acu
  simp only[ef]at hfx;refine hfx.run (nV (hac7 _) _) fun y2 K2 hac2=>?_
  have k6:=hac2.1 _ _ g6;rw[ag _ _ n6]at k6;simp only[go_sem,c6,ak,n6,k6,dz];have hac3:=(sP hsG hac2).put gi6 ((ag _ _ n6).trans k6) (some (.obj [.i n.op,.i n.val.kind,.i n.val.n,.s n.val.s,.i n.attr.cat,.s n.attr.name,.b n.attr.must] 229));rw[c6]at hac3;refine(hac3).app (zs:=[dz n]) agp ago (fun k hk=>hk) afF (by rw[sH];exact kM [n]) afn fun y3 H3 hy3 hk3=>?_
  have hH3:H3 id=some (PO sth):=hk3 _ _ _ (ah ..);have hb3:H3 i6=some (.obj [.i n.op,.i n.val.kind,.i n.val.n,.s n.val.s,.i n.attr.cat,.s n.attr.name,.b n.attr.must] 229):=hk3 _ _ _ ((ag _ _ n6).trans (ah ..));simp only[go_sem,hy3.len,acn,aci,List.length_cons,List.length_nil,Nat.zero_add,hdec];refine(cG sth _ hha.1).go hH3 ?_;simp only[go_sem,ak,n6,hb3];refine⟨.of acw,?_⟩;have efin:ew (f+1) st l=((lh++ [n],n.op==2),bC sth (decide (32<lh.length+1))):=by simp only[ew,eh]
  exact .mk (.tup [y3,.b (n.op==2)]) (.refl _) (.refl _) ⟨y3,by rw[efin],ae0,adk⟩
theorem K0:∀f,EH (ew f) f
 |0=>fun st l hw hf _=>absurd hw.1 acu
 |f+1=>Q8 f (K0 f)
theorem Ft{P:Program}{f:FuncId}{args:List AV}{h:Heap}{Q Q' :AV→Heap→Prop}(hf:ai P f args h Q)(hq:∀x h1,Q x h1→∃y h2,Weak x y∧Sub h2 h1∧Q' y h2):ai P f args h Q' :=
 fun c vs h1 h2 h3 h4=>(hf c vs h1 h2 h3 h4).mono fun u w' ⟨c',x,h',g1,g2,g3,g4,g5,g6⟩=>by
  obtain⟨y,h'',k1,k2,k3⟩:=hq x h' g6;exact⟨c',y,h'',g1,g2,g3,g4.weak k1,k2.trans g5,k3⟩
def flat:AV→AV
 |.sl xs _=> .sl xs .no
 |x=>x
theorem gb(xs:List AV):Weak (.agg xs) (.agg (xs.map flat)):=.agg _ _ acD fun i h1 h2=>by
 rw[acj];cases xs[i]<;>first|exact .refl _|exact .sl _ _
theorem Ju(st:PS)(hw:WfP st):PC 239 [.sl [] .full,.b false] st (fm (ig (ew st.ts.length) st [] false).1) (ig (ew st.ts.length) st [] false).2:=.of fun G id=>by
 have hx:=AT (qq st.ts.length) (K0 st.ts.length) st [] false hw acu acD;refine Ft (hx G G id (.sl [] .full) (.full (base_start G id _))) fun r h1 ⟨y',e1,e2,e3⟩=>⟨_,upd G id (some (PO (ig (ew st.ts.length) st [] false).2)),?_,fl e3.1 e2,rfl,rfl⟩
 subst e1;exact e3.weak
theorem Ml(deny:Bool)(st:PS)(hw:WfP st):PC 206 [.b deny] st (aB (pP deny st).1) (pP deny st).2:=.of fun G id=>by
 have h1:=mW hw;have h2:=BF h1.1;have h3:=GG h2.1;have h4:=BD h3.1;have ht:=P4 _ h1.1;simp only[aU]at ht;refine acs Tryz.func206 23 [.cell 4 224] fun hwf=>?_
 simp only[go_sem];intro i4 hi4;have n4:=aF hi4;have hG4:G i4=none:=ac7;have c4:∀(f:Heap) (x y:Option Blk),upd (upd f id x) i4 y=upd (upd f i4 y) id x:=fun f x y=>cr f x y n4.symm
 simp only[go_sem,c4];refine(tQ st hw).run ?_;simp only[go_sem];refine ht.run ?_;simp only[go_sem];intro i5 hi5;have n5:=aF hi5;have hi5' :=hi5;rw[ag _ _ n5]at hi5';have n54:=aF hi5';have m54:¬i5=i4:=n54;have m45:¬i4=i5:=n54.symm;have hG5:G i5=none:=ac7;have c5:∀(f:Heap) (x y:Option Blk),upd (upd f id x) i5 y=upd (upd f i5 y) id x:=fun f x y=>cr f x y n5.symm
 have c45:∀(f:Heap) (x y:Option Blk),upd (upd f i5 x) i4 y=upd (upd f i4 y) i5 x:=fun f x y=>cr f x y n54
 simp only[go_sem,c5,ak,n5];refine(jT _ ifT h2.1).run ?_;cases d0:isD (gJ (ck st).2).2 ifT
 ·have et:cm (gJ (ck st).2).2 ifT=(false,(gJ (ck st).2).2):=by grind [cm]
  have ec:qn (gJ (ck st).2).2=([],(gJ (ck st).2).2):=by grind [qn]
  have er:pP deny st=(⟨(ck st).1,deny,(gJ (ck st).2).1,[],(gj (gJ (ck st).2).2).1⟩,dP (gj (gJ (ck st).2).2).2 [59]):=by grind [pP]
  rw[ec]at h4;have ho:=sX _ h2.1;simp only[az]at ho;rw[et];simp only[go_sem];refine ho.run ?_;simp only[go_sem,c5,ak,n5];refine(kH _ [59] h4.1).run ?_;simp only[go_sem,c4,c45,ak,n4,n5,m45];exact .mk (h' :=upd G id (some (PO (dP (gj (gJ (ck st).2).2).2 [59])))) (aB ⟨(ck st).1,deny,(gJ (ck st).2).1,[],(gj (gJ (ck st).2).2).1⟩) (gb _) (Sub.both acX _ _) ⟨by rw[er],by rw[er]⟩
 ·have et:cm (gJ (ck st).2).2 ifT=(true,bf (gJ (ck st).2).2):=by grind [cm]
  obtain⟨⟨cn,stc⟩,ec⟩:∃x,qn (gJ (ck st).2).2=x:=⟨_,rfl⟩;have er:pP deny st=(⟨(ck st).1,deny,(gJ (ck st).2).1,cn,(gj stc).1⟩,dP (gj stc).2 [59]):=by grind [pP]
  have hcnd:=Ju (bf (gJ (ck st).2).2) (eS h2.1 (dw d0)).1;have ec2:ig (ew (bf (gJ (ck st).2).2).ts.length) (bf (gJ (ck st).2).2) [] false=(cn,stc):=by rw[←ec];simp only[qn,d0,if_true];rfl
  rw[ec2]at hcnd;simp only[fm]at hcnd;rw[ec]at h3 h4;have ho:=sX _ h3.1;simp only[az]at ho;rw[et];simp only[go_sem];refine hcnd.run ?_;simp only[go_sem,c5,ak,n5];refine ho.run ?_;simp only[go_sem,c5,ak,n5];refine(kH _ [59] h4.1).run ?_;simp only[go_sem,c4,c45,ak,n4,n5,m45];exact .mk (h' :=upd G id (some (PO (dP (gj stc).2 [59])))) (aB ⟨(ck st).1,deny,(gJ (ck st).2).1,cn,(gj stc).1⟩) (gb _) (Sub.both acX _ _) ⟨by rw[er],by rw[er]⟩
theorem O2:(U 224).sz=5:=acK
theorem U9:(U 224).bytes=96:=acK
theorem xq(l:List cK):Sized 5 (l.map aB):=fun z hz=>by
 obtain⟨c,_,rfl⟩:=List.mem_map.1 hz;rfl
theorem RQ(st:PS)(hw:WfP st)(hr:st.rules≤64):PC 165 [] st (.sl ((jQ 17 st []).1.map aB) .no) (jQ 17 st []).2:=.of fun G id=>by
 obtain⟨M,eM⟩:∃M,jQ 17 st []=M:=⟨_,rfl⟩;rw[eM];refine acs Tryz.func165 51 [.tmp 2] fun hwf=>?_
 simp only[go_sem];have hB:upd G id none id=none:=ah ..;refine .intro (fun m ρ H=>∃(f:Nat) (st' :PS) (l:List cK) (y:AV),H id=some (PO st')∧Acc U 224 (upd G id none) H y (l.map aB)∧Ah st st'∧st'.rules≤64∧jQ f st' l=M∧f+l.length=17∧l.length≤16∧m=f∧lk ρ 0=some (.ptr id 0)∧lk ρ 3=some y) 17 ?_ ?_
 ·refine⟨17,st,[],.sl ([].map aB) .full,ah ..,.full (base_start G id _),.refl hw,hr,eM,acD,acD,rfl,?_,?_⟩<;>simp only[go_sem]<;>rfl
 ·rintro m ρ H ⟨f,st',l,y,hH,hy,ha,hru,hfin,hf,hll,rfl,r0,r3⟩
  have hlen:=ha.1.2.2;have hpos:=ha.1.1;obtain⟨g,rfl⟩:∃g,m=g+1:=⟨m - 1,acu⟩;simp only[go_sem,r0];refine(tv st' o7 ha.1).go hH ?_;rw[bD hH];have fin:isD st' o7=false→isD st' iU=false→(l,st')=M:=fun d1 d2=>by
   grind [jQ]
  have rest:isD st' o7=true∨isD st' iU=true→True:=fun _=>trivial
  cases d1:isD st' o7
  ·simp only[go_sem,r0]
   refine(tv st' iU ha.1).go hH ?_;rw[bD hH];cases d2:isD st' iU
   ·simp only[go_sem,r3]
    have e:=fin d1 d2;exact .mk (h' :=upd G id (some (PO M.2))) (.sl (M.1.map aB) .no) adA (by rw[←e];exact fl hy.1 hH) ⟨rfl,rfl⟩
   ·exact agK
  ·exact agK
theorem O1:(U 65).sz=7:=acK
theorem U7:(U 65).bytes=128:=acK
theorem xp(l:List bG):Sized 7 (l.map aL):=fun z hz=>by
 obtain⟨c,_,rfl⟩:=List.mem_map.1 hz;cases c;rfl
theorem Rk(pol:PoF)(d:Nat)(hd5:d≤5)(hp:∀st,WfP st→st.rules≤64→d≤4→PC 114 [.i d] st (aL (pol st).1) (pol st).2)(hpa:∀st,WfP st→Ah st (pol st).2)(hpr:∀st,nK st (pol st).2)
  (st:PS) (hw:WfP st) (hr:st.rules≤64):PC 164 [.i d] st (.sl ((jK pol (decide ((4:Int)<(d:Int))) 17 st []).1.map aL) .no) (jK pol (decide ((4:Int)<(d:Int))) 17 st []).2:=.of fun G id=>by
 obtain⟨M,eM⟩:∃M,jK pol (decide ((4:Int)<(d:Int))) 17 st []=M:=⟨_,rfl⟩;rw[eM];refine acs Tryz.func164 33 [.tmp 4] fun hwf=>?_
 simp only[go_sem];have hB:upd G id none id=none:=ah ..;refine .intro (fun m ρ H=>∃(f:Nat) (st' :PS) (l:List bG) (y:AV),H id=some (PO st')∧Acc U 65 (upd G id none) H y (l.map aL)∧Ah st st'∧st'.rules≤64∧jK pol (decide ((4:Int)<(d:Int))) f st' l=M∧f+l.length=17∧l.length≤16∧m=f∧lk ρ 0=some (.ptr id 0)∧lk ρ 1=some (.i d)∧lk ρ 5=some y) 17 ?_ ?_
 ·refine⟨17,st,[],.sl ([].map aL) .full,ah ..,.full (base_start G id _),.refl hw,hr,eM,acD,acD,rfl,?_,?_,?_⟩<;>simp only[go_sem]<;>rfl
 ·rintro m ρ H ⟨f,st',l,y,hH,hy,ha,hru,hfin,hf,hll,rfl,r0,r1,r5⟩
  have hlen:=ha.1.2.2;have hpos:=ha.1.1;obtain⟨g,rfl⟩:∃g,m=g+1:=⟨m - 1,acu⟩;simp only[go_sem,r0];refine(tv st' o8 ha.1).go hH ?_;rw[bD hH];have fin:isD st' o8=false→isD st' Gc=false→(l,st')=M:=fun d1 d2=>by
   grind [jK]
  cases d1:isD st' o8
  ·simp only[go_sem,r0]
   refine(tv st' Gc ha.1).go hH ?_;rw[bD hH];cases d2:isD st' Gc
   ·simp only[go_sem,r5]
    have e:=fin d1 d2;exact .mk (h' :=upd G id (some (PO M.2))) (.sl (M.1.map aL) .no) adA (by rw[←e];exact fl hy.1 hH) ⟨rfl,rfl⟩
   ·have hd:isD st' o8=true∨isD st' Gc=true:=by grind
    have eb:=(mE hd).1;have ek:=(mE hd).2;have db:(st'.bad !=0)=false:=acv;have gP:=hH;unfold PO at gP;have lim:l.length=16∨decide ((4:Int)<(d:Int))=true→(l,bC st' true)=M:=fun h=>by
     rw[←hfin];simp only[jK,if_pos hd,if_pos h]
    have hdl:bC st' true=bF st' 6 (aI st').pos:=rfl;have hlb:((bC st' true).bad !=0)=true:=by grind [bF]
    cases dA:((l.length:Int)==16)
    ·cases dB:decide ((4:Int)<(d:Int))
     ·have nA:l.length≠16:=fun e=>by grind
      have hno:¬(l.length=16∨decide ((4:Int)<(d:Int))=true):=fun h=>h.elim nA (fun e=>acv)
      simp only[jK,if_pos hd,if_neg hno]at hfin;rw[dB]at hfin;have hd4:d≤4:=acv;simp only[go_sem,r0,r1,r5,hy.len,aci,dA,dB];refine(cG st' false ha.1).go hH ?_;rw[show bC st' false=st' from rfl,bD hH]
      have h3:=hpa st' ha.1;have hrp:=hp st' ha.1 hru hd4;have hr3:=vh (hpr st') hru;obtain⟨x,st2,e2⟩:∃x st2,pol st' =(x,st2):=⟨_,_,rfl⟩;rw[e2]at hfin hrp h3 hr3;obtain⟨pid,pset,palg,ptgt,prules,pkids,pobls⟩:=x;simp only[aL]at hrp hfin h3 hr3;simp only[go_sem,r0,r1,r5,gP,db];refine hrp.go hH ?_;simp only[go_sem];refine(hy.put hB hH _).app (zs:=[aL ⟨pid,pset,palg,ptgt,prules,pkids,pobls⟩]) acz acz (fun k hk=>hk) (by grind [O1,xp]) aeQ (by grind [U7]) fun y' H2 hy' hk2=>?_
      have hH2:H2 id=some (PO st2):=hk2 _ _ _ (ah ..);simp only[go_sem];refine⟨_,?_,g,st2,l++ [⟨pid,pset,palg,ptgt,prules,pkids,pobls⟩],y',hH2,acv,ha.trans h3,hr3,hfin,acv,acv,rfl,?_,?_,?_⟩
      ·omega
      all_goals simp only[go_sem,r0,r1]
     ·have e:=lim (.inr dB)
      simp only[go_sem,r0,r1,r5,hy.len,aci,dA,dB];refine(cG st' true ha.1).go hH ?_;have g3:upd H id (some (PO (bC st' true))) id=some (PO (bC st' true)):=ah ..;unfold PO at g3;simp only[go_sem,r0,r5,g3,hlb,PO];exact .mk (h' :=upd G id (some (PO M.2))) (.sl (M.1.map aL) .no) adA ac4 ⟨rfl,rfl⟩
    ·have nA:l.length=16:=by grind
     have e:=lim (.inl nA);simp only[go_sem,r0,r5,hy.len,aci,dA];refine(cG st' true ha.1).go hH ?_;have g3:upd H id (some (PO (bC st' true))) id=some (PO (bC st' true)):=ah ..;unfold PO at g3;simp only[go_sem,r0,r5,g3,hlb,PO];exact .mk (h' :=upd G id (some (PO M.2))) (.sl (M.1.map aL) .no) adA ac4 ⟨rfl,rfl⟩
  ·have hd:isD st' o8=true∨isD st' Gc=true:=by grind
   have eb:=(mE hd).1;have ek:=(mE hd).2;have db:(st'.bad !=0)=false:=acv;have gP:=hH;unfold PO at gP;have lim:l.length=16∨decide ((4:Int)<(d:Int))=true→(l,bC st' true)=M:=fun h=>by
    rw[←hfin];simp only[jK,if_pos hd,if_pos h]
   have hdl:bC st' true=bF st' 6 (aI st').pos:=rfl;have hlb:((bC st' true).bad !=0)=true:=by grind [bF]
   cases dA:((l.length:Int)==16)
   ·cases dB:decide ((4:Int)<(d:Int))
    ·have nA:l.length≠16:=fun e=>by grind
     have hno:¬(l.length=16∨decide ((4:Int)<(d:Int))=true):=fun h=>h.elim nA (fun e=>acv)
     simp only[jK,if_pos hd,if_neg hno]at hfin;rw[dB]at hfin;have hd4:d≤4:=acv;simp only[go_sem,r0,r1,r5,hy.len,aci,dA,dB];refine(cG st' false ha.1).go hH ?_;rw[show bC st' false=st' from rfl,bD hH]
     have h3:=hpa st' ha.1;have hrp:=hp st' ha.1 hru hd4;have hr3:=vh (hpr st') hru;obtain⟨x,st2,e2⟩:∃x st2,pol st' =(x,st2):=⟨_,_,rfl⟩;rw[e2]at hfin hrp h3 hr3;obtain⟨pid,pset,palg,ptgt,prules,pkids,pobls⟩:=x;simp only[aL]at hrp hfin h3 hr3;simp only[go_sem,r0,r1,r5,gP,db];refine hrp.go hH ?_;simp only[go_sem];refine(hy.put hB hH _).app (zs:=[aL ⟨pid,pset,palg,ptgt,prules,pkids,pobls⟩]) acz acz (fun k hk=>hk) (by grind [O1,xp]) aeQ (by grind [U7]) fun y' H2 hy' hk2=>?_
     have hH2:H2 id=some (PO st2):=hk2 _ _ _ (ah ..);simp only[go_sem];refine⟨_,?_,g,st2,l++ [⟨pid,pset,palg,ptgt,prules,pkids,pobls⟩],y',hH2,acv,ha.trans h3,hr3,hfin,acv,acv,rfl,?_,?_,?_⟩
     ·omega
     all_goals simp only[go_sem,r0,r1]
    ·have e:=lim (.inr dB)
     simp only[go_sem,r0,r1,r5,hy.len,aci,dA,dB];refine(cG st' true ha.1).go hH ?_;have g3:upd H id (some (PO (bC st' true))) id=some (PO (bC st' true)):=ah ..;unfold PO at g3;simp only[go_sem,r0,r5,g3,hlb,PO];exact .mk (h' :=upd G id (some (PO M.2))) (.sl (M.1.map aL) .no) adA ac4 ⟨rfl,rfl⟩
   ·have nA:l.length=16:=by grind
    have e:=lim (.inl nA);simp only[go_sem,r0,r5,hy.len,aci,dA];refine(cG st' true ha.1).go hH ?_;have g3:upd H id (some (PO (bC st' true))) id=some (PO (bC st' true)):=ah ..;unfold PO at g3;simp only[go_sem,r0,r5,g3,hlb,PO];exact .mk (h' :=upd G id (some (PO M.2))) (.sl (M.1.map aL) .no) adA ac4 ⟨rfl,rfl⟩
theorem D5(r:Nat)(d:Nat)(hrd:r+d=4)(hp:∀st,WfP st→st.rules≤64→d+1≤4→PC 114 [.i (d+1:Nat)] st (aL (gy r st).1) (gy r st).2)(st:PS)(hw:WfP st)(hr:st.rules≤64):
  PC 114 [.i d] st (aL (gy (r+1) st).1) (gy (r+1) st).2:=.of fun G id=>by
 have h1:=gw mG hw;have h2:=mW h1.1;have h3:=gw xH h2.1;have h4:=BF h3.1;have h5:Ah _ (cO st).2:=jc [123] h4.1;have ht:=P4 _ h3.1;simp only[aU]at ht;have hrh:=vh (Eb st).big hr;have hset:(cO st).1.1=((aV st mG).1==2):=rfl;have w1:IntKind.i64.wrap ((d:Int)+1)=((d+1:Nat):Int):=acI;have hdp:(r==0)=decide ((4:Int)<((d+1:Nat):Int)):=by
  grind
 have hk:=Rk (gy r) (d+1) acu hp (fun _ h=>xD r _ h) (Ci r) _ h5.1 hrh
 have hs:=RQ _ h5.1 hrh;refine acs Tryz.func114 39 [.cell 4 65] fun hwf=>?_
 simp only[go_sem];intro i4 hi4;have n4:=aF hi4;have hG4:G i4=none:=ac7;have c4:∀(f:Heap) (x y:Option Blk),upd (upd f id x) i4 y=upd (upd f i4 y) id x:=fun f x y=>cr f x y n4.symm
 simp only[go_sem,c4];intro i5 hi5;have n5:=aF hi5;have hi5' :=hi5;rw[ag _ _ n5]at hi5';have n54:=aF hi5';have m54:¬i5=i4:=n54;have m45:¬i4=i5:=n54.symm;have hG5:G i5=none:=ac7;have c5:∀(f:Heap) (x y:Option Blk),upd (upd f id x) i5 y=upd (upd f i5 y) id x:=fun f x y=>cr f x y n5.symm
 have c45:∀(f:Heap) (x y:Option Blk),upd (upd f i5 x) i4 y=upd (upd f i4 y) i5 x:=fun f x y=>cr f x y n54
 simp only[go_sem,c5];refine(nX st mG .full acz hw).run ?_;simp only[go_sem,c5,ak,n5];refine(tQ _ h1.1).run ?_;simp only[go_sem,c5,ak,n5];refine(nX _ xH .full acz h2.1).run ?_;simp only[go_sem,c5,ak,n5];refine ht.run ?_;simp only[go_sem,c5,ak,n5];refine(kH _ [123] h4.1).run ?_;cases ds:((aV st mG).1==2)
 ·rw[ds]at hset
  simp only[go_sem,ak,n5];have eb:pJ (gy r) (r==0) (cO st).1.1 (cO st).2=(((jQ 17 (cO st).2 []).1,[]),(jQ 17 (cO st).2 []).2):=by grind [pJ]
  have hb:=BC (fun _ h=>xD r _ h) (r==0) (cO st).1.1 h5.1
  obtain⟨⟨rl,stb⟩,er⟩:∃x,jQ 17 (cO st).2 []=x:=⟨_,rfl⟩;rw[er]at eb hs;rw[eb]at hb;have ho:=sX _ (jc [125] hb.1).1;simp only[az]at ho hs;refine hs.run ?_;simp only[go_sem,c5,ak,n5];refine(kH _ [125] hb.1).run ?_;simp only[go_sem];refine ho.run ?_;simp only[go_sem,c4,c5,c45,ak,n4,n5,m45];have efin:gy (r+1) st=(.mk (cO st).1.2.1 false (cO st).1.2.2.1 (cO st).1.2.2.2 rl [] (gj (dP stb [125])).1,(gj (dP stb [125])).2):=by grind [gy]
  exact .mk (h' :=upd G id (some (PO (gj (dP stb [125])).2))) (aL (.mk (cO st).1.2.1 false (cO st).1.2.2.1 (cO st).1.2.2.2 rl [] (gj (dP stb [125])).1)) (gb _) (Sub.both acX _ _) ⟨acv,acv⟩
 ·rw[ds]at hset
  simp only[go_sem,ak,n5,w1];have eb:pJ (gy r) (r==0) (cO st).1.1 (cO st).2=(([],(jK (gy r) (r==0) 17 (cO st).2 []).1),(jK (gy r) (r==0) 17 (cO st).2 []).2):=by grind [pJ]
  have hb:=BC (fun _ h=>xD r _ h) (r==0) (cO st).1.1 h5.1
  rw[←hdp]at hk;obtain⟨⟨kl,stb⟩,er⟩:∃x,jK (gy r) (r==0) 17 (cO st).2 []=x:=⟨_,rfl⟩;rw[er]at eb hk;rw[eb]at hb;have ho:=sX _ (jc [125] hb.1).1;simp only[az]at ho hk;refine hk.run ?_;simp only[go_sem,c5,ak,n5];refine(kH _ [125] hb.1).run ?_;simp only[go_sem];refine ho.run ?_;simp only[go_sem,c4,c5,c45,ak,n4,n5,m45];have efin:gy (r+1) st=(.mk (cO st).1.2.1 true (cO st).1.2.2.1 (cO st).1.2.2.2 [] kl (gj (dP stb [125])).1,(gj (dP stb [125])).2):=by grind [gy]
  exact .mk (h' :=upd G id (some (PO (gj (dP stb [125])).2))) (aL (.mk (cO st).1.2.1 true (cO st).1.2.2.1 (cO st).1.2.2.2 [] kl (gj (dP stb [125])).1)) (by simp only[aL,aW];exact gb _) (Sub.both acX _ _) ⟨acv,acv⟩
theorem D4:∀(r d:Nat),r+d=4→∀st,WfP st→st.rules≤64→PC 114 [.i d] st (aL (gy (r+1) st).1) (gy (r+1) st).2
 |0,d,hrd=>fun st hw hr=>D5 0 d hrd acu st hw hr
 |r+1,d,hrd=>fun st hw hr=>D5 (r+1) d hrd (fun st hw hr _=>D4 r (d+1) acu st hw hr) st hw hr
def Keeps(S:List Nat)(h h' :Heap):Prop:=∀j k,j∉S→h j=some k→h' j=some k
theorem Keeps.trans{S:List Nat}{a b c:Heap}(x:Keeps S a b)(y:Keeps S b c):Keeps S a c:=fun j k hj e=>y j k hj (x j k hj e)
theorem Keeps.of{S:List Nat}{a b:Heap}(x:Ab.Sub a b):Keeps S a b:=fun j k _ e=>x j k e
theorem Keeps.upd{S:List Nat}{a:Heap}{i:Nat}{b:Option Blk}(hi:i∈S):Keeps S a (Ab.upd a i b):=fun j k hj e=>by
 grind [ag]
def gY(h:Heap)(idw mid:Nat)(m:dX):Prop:=h idw=some (.obj [.mp mid,.i m.rules] 255)∧h mid=some (.mp (zZ m.met))∧(∀l∈m.met,l.length≤16)∧m.rules≤64
theorem gY.ne{h:Heap}{idw mid:Nat}{m:dX}(hw:gY h idw mid m):idw≠mid:=fun e=>by
 have h1:=hw.1;have h2:=hw.2.1
 rw[e,h2]at h1;cases h1
theorem gY.keep{h h' :Heap}{idw mid:Nat}{m:dX}(hw:gY h idw mid m)(hs:Ab.Sub h h'):gY h' idw mid m:=⟨hs _ _ hw.1,hs _ _ hw.2.1,hw.2.2⟩
theorem Xr:(U 355).sz=0:=acK
theorem FW{s:Txt}(h:bh s=true):s.length≤16:=by
 grind [bh]
theorem yJ{m:dX}{s:Txt}(h:s∈m.met∨bh s=false):ja m s=none:=by
 unfold ja
 grind
theorem EK(idw mid:Nat)(m:dX)(s:Txt)(h:Heap)(hw:gY h idw mid m):ai Tryz.prog 240 [.ptr idw 0,.s s] h fun r h' =>match ja m s with
  |none=>r= .b false∧Ab.Sub h h'
  |some m' =>r= .b true∧Keeps [idw,mid] h h'∧gY h' idw mid m' :=by
 refine acs Tryz.func240 28 [.tmp 4] fun hwf=>?_
 obtain⟨w1,w2,w3,w4⟩:=hw;have hlen:s.length≤maxLen:=by
  have:=hwf (.s s) acD;simp only[wfA,wf1,lim]at this;unfold maxLen;omega
 have hkeys:Al .str (zZ m.met):=Jj fun l hl=>by grind [maxLen]
 simp only[go_sem,w1,w2];refine⟨hlen,.inr acK,hkeys,?_⟩;rw[Jm _ _ Xr];simp only[go_sem];intro idv hidv;simp only[go_sem];cases d1:decide (s∈m.met)
 case true=>
  have hm:=yJ (.inl (ack d1));simp only[go_sem];rw[hm];exact .mk _ (.refl _) (.aj hidv) ⟨rfl,.refl _⟩
 have e1:=acm d1;simp only[go_sem];refine(oU _ _).pthen ?_;cases d2:bh s
 ·have hm:=yJ (m:=m) (.inr d2)
  simp only[go_sem];rw[hm];exact .mk _ (.refl _) (.aj hidv) ⟨rfl,.refl _⟩
 have hm:ja m s=some ⟨m.met++ [s],m.rules⟩:=by grind [ja]
 have w1' :upd h idv (some (.obj [] 355)) idw=some (.obj [.mp mid,.i m.rules] 255):=ac7;have w2' :upd h idv (some (.obj [] 355)) mid=some (.mp (zZ m.met)):=ac7;simp only[go_sem,w1',w2'];refine⟨hlen,hkeys,?_⟩;rw[Mw e1];rw[hm];refine .same (.refl _) ⟨rfl,(Keeps.of (.aj hidv)).trans (.upd acD),?_,?_,?_,w4⟩
 ·grind [ag]
 ·rw[ah]
 grind [List.mem_singleton,FW]
theorem MY(idw mid:Nat)(m:dX)(r:cK)(h:Heap)(hw:gY h idw mid m):ai Tryz.prog 208 [.ptr idw 0,aB r] h fun x h' =>x= .v (.int .i64 (gm m r).err)∧Keeps [idw,mid] h h'∧∀m',gm m r= .ok m'→gY h' idw mid m' :=by
 refine acs Tryz.func208 39 [.tmp 4] fun hwf=>?_
 simp only[go_sem,aB,aU,fm,az];intro id hid;have n1:idw≠id:=fun e=>by have:=hw.1;rw[e,hid]at this;cases this
 have n2:mid≠id:=fun e=>by have:=hw.2.1;rw[e,hid]at this;cases this
 have hwb:=hw.keep (Sub.aj (k:=some (.obj [.s r.id,.b r.deny,.sl (r.tgt.map cN) .no,.sl (r.cond.map dz) .no,.sl (r.obls.map br) .no] 224)) hid);have hk0:Keeps [idw,mid] h (upd h id (some (.obj [.s r.id,.b r.deny,.sl (r.tgt.map cN) .no,.sl (r.cond.map dz) .no,.sl (r.obls.map br) .no] 224))):=.of (.aj hid);simp only[go_sem];obtain⟨hb,ehb⟩:∃hb,upd h id (some (.obj [.s r.id,.b r.deny,.sl (r.tgt.map cN) .no,.sl (r.cond.map dz) .no,.sl (r.obls.map br) .no] 224))=hb:=⟨_,rfl⟩;have hbid:hb id=some (.obj [.s r.id,.b r.deny,.sl (r.tgt.map cN) .no,.sl (r.cond.map dz) .no,.sl (r.obls.map br) .no] 224):=afY;rw[ehb]at hwb hk0⊢;refine(EK idw mid m r.id hb hwb).mono fun x h2 hx=>?_
 cases hm:ja m r.id with
 |none=>
  rw[hm]at hx;obtain⟨rfl,hs⟩:=hx;have hr:gm m r= .bad 1:=by grind [gm]
  simp only[go_sem];exact .same (.refl _) ⟨agD,hk0.trans (.of hs),fun m' h' =>acv⟩
 |some m1=>
  rw[hm]at hx;obtain⟨rfl,hk,hw2⟩:=hx;have g2:=hw2.1;have hle:=hw2.2.2.2;have hid2:h2 id=some (.obj [.s r.id,.b r.deny,.sl (r.tgt.map cN) .no,.sl (r.cond.map dz) .no,.sl (r.obls.map br) .no] 224):=hk id _ acv hbid;have w1:IntKind.i64.wrap ((m1.rules:Int)+1)=((m1.rules+1:Nat):Int):=acI;have hk3:Keeps [idw,mid] h (upd h2 idw (some (.obj [.mp mid,.i ((m1.rules+1:Nat):Int)] 255))):=(hk0.trans hk).trans (.upd acD);have hid3:upd h2 idw (some (.obj [.mp mid,.i ((m1.rules+1:Nat):Int)] 255)) id=some (.obj [.s r.id,.b r.deny,.sl (r.tgt.map cN) .no,.sl (r.cond.map dz) .no,.sl (r.obls.map br) .no] 224):=by
   grind [ag]
  cases d1:decide (64<((m1.rules+1:Nat):Int))
  case true=>
   have e1:m1.rules+1>64:=acv;have hr:gm m r= .bad 6:=by grind [gm]
   simp only[go_sem,g2,w1,d1];exact ahD
  have e1:¬m1.rules+1>64:=acv;have hr:gm m r=need (lu r.tgt) (need (jY r.cond) (need (ie r.obls) (.ok ⟨m1.met,m1.rules+1⟩))):=by grind [gm]
  simp only[go_sem,g2,w1,d1,hid3];refine(vn r.tgt _).pthen ?_;cases d2:(lu r.tgt !=0)
  case true=>
   have e2:lu r.tgt≠0:=acv;have hr:gm m r= .bad (lu r.tgt):=by grind [need]
   simp only[go_sem,d2];exact ahD
  have e2:lu r.tgt=0:=acv;rw[need,if_pos e2]at hr;simp only[go_sem,d2,hid3];refine(GS r.cond _).pthen ?_;cases d3:(jY r.cond !=0)
  case true=>
   have e3:jY r.cond≠0:=acv;have hr:gm m r= .bad (jY r.cond):=by grind [need]
   simp only[go_sem,d3];exact ahD
  have e3:jY r.cond=0:=acv;rw[need,if_pos e3]at hr;simp only[go_sem,d3,hid3];refine(Cc r.obls _).pthen ?_;simp only[go_sem]
  by_cases e4:ie r.obls=0
  ·rw[need,if_pos e4]at hr
   refine .same (.refl _) ⟨by rw[hr,e4];rfl,hk3,fun m' h' =>?_⟩
   rw[hr]at h';cases h';refine⟨ah ..,?_,hw2.2.2.1,acv⟩;rw[ag _ _ hw2.ne.symm];exact hw2.2.1
  ·rw[need,if_neg e4]at hr
   exact ahD
theorem yj{m:dX}{id:Txt}{set:Bool}{alg:Int}{tgt:fW}{nr nk:Nat}{obls:List cA}(h:ja m id=none):fc m id set alg tgt nr nk obls= .bad 1:=by
 grind [fc]
theorem MW(idw mid:Nat)(m:dX)(id:Txt)(set:Bool)(alg:Int)(tgt:fW)(rules:List cK)(kids:List bG)(obls:List cA)(h:Heap)(hw:gY h idw mid m):
  ai Tryz.prog 207 [.ptr idw 0,aL (.mk id set alg tgt rules kids obls)] h fun x h' =>x= .v (.int .i64 (fc m id set alg tgt rules.length kids.length obls).err)∧Keeps [idw,mid] h h'∧∀m',fc m id set alg tgt rules.length kids.length obls= .ok m'→gY h' idw mid m' :=by
 refine acs Tryz.func207 68 [.tmp 4] fun hwf=>?_
 simp -implicitDefEqProofs only[go_sem,aL,aU,az];intro ip hip;have n1:idw≠ip:=fun e=>by have:=hw.1;rw[e,hip]at this;cases this
 have n2:mid≠ip:=fun e=>by have:=hw.2.1;rw[e,hip]at this;cases this
 have hwb:=hw.keep (Sub.aj (k:=some (.obj [.s id,.b set,.i alg,.sl (tgt.map cN) .no,.sl (rules.map aB) .no,.sl (fD kids) .no,.sl (obls.map br) .no] 65)) hip);have hk0:Keeps [idw,mid] h (upd h ip (some (.obj [.s id,.b set,.i alg,.sl (tgt.map cN) .no,.sl (rules.map aB) .no,.sl (fD kids) .no,.sl (obls.map br) .no] 65))):=.of (.aj hip);simp -implicitDefEqProofs only[go_sem];obtain⟨hb,ehb⟩:∃hb,upd h ip (some (.obj [.s id,.b set,.i alg,.sl (tgt.map cN) .no,.sl (rules.map aB) .no,.sl (fD kids) .no,.sl (obls.map br) .no] 65))=hb:=⟨_,rfl⟩;have hbip:hb ip=some (.obj [.s id,.b set,.i alg,.sl (tgt.map cN) .no,.sl (rules.map aB) .no,.sl (fD kids) .no,.sl (obls.map br) .no] 65):=afY;rw[ehb]at hwb hk0⊢;refine(EK idw mid m id hb hwb).mono fun x h2 hx=>?_
 cases hm:ja m id with
 |none=>
  rw[hm]at hx;obtain⟨rfl,hs⟩:=hx;simp -implicitDefEqProofs only[go_sem];exact .same (.refl _) ⟨by rw[yj hm];rfl,hk0.trans (.of hs),fun m' h' =>by rw[yj hm]at h';cases h'⟩
 |some m1=>
  rw[hm]at hx;obtain⟨rfl,hk,hw2⟩:=hx;have hip2:h2 ip=some (.obj [.s id,.b set,.i alg,.sl (tgt.map cN) .no,.sl (rules.map aB) .no,.sl (fD kids) .no,.sl (obls.map br) .no] 65):=hk ip _ (by simp[n1.symm,n2.symm]) hbip
  have hkk:=hk0.trans hk;have bad:∀e,fc m id set alg tgt rules.length kids.length obls= .bad e→(.i e:AV)= .v (.int .i64 (fc m id set alg tgt rules.length kids.length obls).err)∧Keeps [idw,mid] h h2∧∀m',fc m id set alg tgt rules.length kids.length obls= .ok m'→gY h2 idw mid m' :=
   fun e he=>⟨by rw[he];rfl,hkk,fun m' h' =>by rw[he]at h';cases h'⟩
  cases d1:decide (alg<1)
  case true=>
   have e1:=ack d1;simp -implicitDefEqProofs only[go_sem,d1,hip2];exact .same (.refl _) (bad 1 (by simp[fc,hm,e1]))
  cases d2:decide (6<alg)
  case true=>
   have e2:=ack d2;simp -implicitDefEqProofs only[go_sem,d1,d2,hip2];exact .same (.refl _) (bad 1 (by simp[fc,hm,e2]))
  have e1:¬(alg<1∨alg>6):=by have:=acm d1;have:=acm d2;omega
  have tail:∀(z:Unit),¬(set=true∧rules.length>0∨set=false∧(kids.length>0∨alg=4))→fc m id set alg tgt rules.length kids.length obls=need (lu tgt) (need (ie obls) (if rules.length>16∨kids.length>16 then .bad 6 else .ok m1)):=fun _ hh=>by
   simp only[fc,hm];rw[if_neg e1,if_neg hh]
  cases set
  ·cases d4:decide (0<(kids.length:Int))
   case true=>
    have f4:0<kids.length:=by have:=ack d4;omega
    simp -implicitDefEqProofs only[go_sem,d1,d2,hip2,aW,aci,d4];exact .same (.refl _) (bad 1 (by simp[fc,hm,e1,f4]))
   have g4:¬0<kids.length:=by have:=acm d4;omega
   cases d5:(alg==4)
   case true=>
    have f5:alg=4:=by simpa using d5
    simp -implicitDefEqProofs only[go_sem,d1,d2,hip2,aW,aci,d4,d5];exact .same (.refl _) (bad 1 (by simp[fc,hm,f5]))
   have g5:alg≠4:=by simpa using d5
   simp -implicitDefEqProofs only[go_sem,d1,d2,hip2,aW,aci,d4,d5];have e3:=tail () (by simp[g4,g5])
   refine(vn tgt _).pthen ?_;cases t1:(lu tgt !=0)
   case true=>
    exact ahH
   have f1:lu tgt=0:=by simpa using t1
   simp -implicitDefEqProofs only[go_sem,t1,hip2];refine(Cc obls _).pthen ?_;cases t2:(ie obls !=0)
   case true=>
    exact ahF
   have f2:ie obls=0:=by simpa using t2
   cases t3:decide (16<(rules.length:Int))
   case true=>
    exact ahA
   have f3:¬16<rules.length:=by have:=acm t3;omega
   cases t4:decide (16<(kids.length:Int))
   case true=>
    exact ahx
   have f4:¬16<kids.length:=by have:=acm t4;omega
   simp -implicitDefEqProofs only[go_sem,t2,hip2,aci,t3,aW,t4];have e4:fc m id false alg tgt rules.length kids.length obls= .ok m1:=by rw[e3];simp[need,f1,f2,f3,f4]
   exact ah8
  ·cases d3:decide (0<(rules.length:Int))
   case true=>
    have f3:0<rules.length:=by have:=ack d3;omega
    simp -implicitDefEqProofs only[go_sem,d1,d2,hip2,aci,d3];exact .same (.refl _) (bad 1 (by simp[fc,hm,e1,f3]))
   have g3:¬0<rules.length:=by have:=acm d3;omega
   simp -implicitDefEqProofs only[go_sem,d1,d2,hip2,aci,d3];have e3:=tail () (by simp[g3])
   refine(vn tgt _).pthen ?_;cases t1:(lu tgt !=0)
   case true=>
    exact ahH
   have f1:lu tgt=0:=by simpa using t1
   simp -implicitDefEqProofs only[go_sem,t1,hip2];refine(Cc obls _).pthen ?_;cases t2:(ie obls !=0)
   case true=>
    exact ahF
   have f2:ie obls=0:=by simpa using t2
   cases t3:decide (16<(rules.length:Int))
   case true=>
    exact ahA
   have f3:¬16<rules.length:=by have:=acm t3;omega
   cases t4:decide (16<(kids.length:Int))
   case true=>
    exact ahx
   have f4:¬16<kids.length:=by have:=acm t4;omega
   simp -implicitDefEqProofs only[go_sem,t2,hip2,aci,t3,aW,t4];have e4:fc m id true alg tgt rules.length kids.length obls= .ok m1:=by rw[e3];simp[need,f1,f2,f3,f4]
   exact ah8
theorem L7(k:bG):(aL k).cells.length=7:=by
 cases k;rfl
theorem vb{m:dX}{d:Nat}{p:bG}(h:4<d):kj m d p= .bad 6:=by
 cases p;grind [kj]
theorem ve{m:dX}{d:Nat}{id:Txt}{set:Bool}{alg:Int}{tgt:fW}{rules:List cK}{kids:List bG}{obls:List cA}{e:Int}(h:¬4<d)
  (hh:fc m id set alg tgt rules.length kids.length obls= .bad e):kj m d (.mk id set alg tgt rules kids obls)= .bad e:=by
 grind [kj]
theorem yW{m m1:dX}{d:Nat}{id:Txt}{set:Bool}{alg:Int}{tgt:fW}{rules:List cK}{kids:List bG}{obls:List cA}{e:Int}(h:¬4<d)
  (hh:fc m id set alg tgt rules.length kids.length obls= .ok m1) (hr:fq m1 rules= .bad e):kj m d (.mk id set alg tgt rules kids obls)= .bad e:=by
 grind [kj]
theorem AZ{m m1 m2:dX}{d:Nat}{id:Txt}{set:Bool}{alg:Int}{tgt:fW}{rules:List cK}{kids:List bG}{obls:List cA}(h:¬4<d)
  (hh:fc m id set alg tgt rules.length kids.length obls= .ok m1) (hr:fq m1 rules= .ok m2):kj m d (.mk id set alg tgt rules kids obls)=iN m2 (d+1) kids:=by
 grind [kj]
theorem tT:∀(n d:Nat) (m:dX) (p:bG) (e:Int),d+n=5→kj m d p= .bad e→e≠0
 |0,d,m,p,e,hd,h=>by grind [vb]
 |n+1,d,m,.mk id set alg tgt rules kids obls,e,hd,h=>by
  by_cases h4:4<d
  ·omega
  cases hh:fc m id set alg tgt rules.length kids.length obls with
  |bad e' =>grind [ve,AG]
  |ok m1=>
   cases hr:fq m1 rules with
   |bad e' =>
    rw[yW h4 hh hr]at h;cases h
    clear hh hd
    induction rules generalizing m1 with
    |nil=>cases hr
    |cons r l ih=>
     grind [fq,gm,Bb]
   |ok m2=>
    rw[AZ h4 hh hr]at h;have ih:=fun m p e=>tT n (d+1) m p e acu
    clear hh hr
    induction kids generalizing m2 with
    |nil=>cases h
    |cons k l ihk=>
     simp only[iN]at h;cases hx:kj m2 (d+1) k with
     |bad x=>rw[hx]at h;cases h;exact ih _ _ _ hx
     |ok m3=>rw[hx]at h;exact ihk m3 h
theorem Hw{e:Int}{w:Went}{m:dX}(h:need e w= .ok m):e=0∧w= .ok m:=by
 grind [need]
theorem Lg{m m1:dX}{id:Txt}{set:Bool}{alg:Int}{tgt:fW}{nr nk:Nat}{obls:List cA}(h:fc m id set alg tgt nr nk obls= .ok m1):
  ja m id=some m1∧1≤alg∧alg≤6∧(set=true→nr=0)∧(set=false→nk=0∧alg≠4)∧lu tgt=0∧ie obls=0∧nr≤16∧nk≤16:=by
 unfold fc at h;split at h
 ·cases h
 split at h
 ·cases h
 split at h
 ·cases h
 obtain⟨h3,h⟩:=Hw h;obtain⟨h4,h⟩:=Hw h
 grind
theorem Ib:∀(n d:Nat),d+n=5→∀(idw mid:Nat) (m:dX) (p:bG) (h:Heap),gY h idw mid m→
  ai Tryz.prog 167 [.ptr idw 0,aL p,.i d] h fun x h' =>x= .v (.int .i64 (kj m d p).err)∧Keeps [idw,mid] h h'∧∀m',kj m d p= .ok m'→gY h' idw mid m'
 |n,d,hd,idw,mid,m,.mk id set alg tgt rules kids obls,h,hw=>by
  refine acs Tryz.func167 52 [.tmp 6] fun hwf=>?_
  simp only[go_sem,aL,aU,az];intro ip hip;have n1:idw≠ip:=fun e=>by have:=hw.1;rw[e,hip]at this;cases this
  have n2:mid≠ip:=fun e=>by have:=hw.2.1;rw[e,hip]at this;cases this
  have hwb:=hw.keep (Sub.aj (k:=some (.obj [.s id,.b set,.i alg,.sl (tgt.map cN) .no,.sl (rules.map aB) .no,.sl (fD kids) .no,.sl (obls.map br) .no] 65)) hip);have hk0:Keeps [idw,mid] h (upd h ip (some (.obj [.s id,.b set,.i alg,.sl (tgt.map cN) .no,.sl (rules.map aB) .no,.sl (fD kids) .no,.sl (obls.map br) .no] 65))):=.of (.aj hip);obtain⟨hb,ehb⟩:∃hb,upd h ip (some (.obj [.s id,.b set,.i alg,.sl (tgt.map cN) .no,.sl (rules.map aB) .no,.sl (fD kids) .no,.sl (obls.map br) .no] 65))=hb:=⟨_,rfl⟩;have hbip:hb ip=some (.obj [.s id,.b set,.i alg,.sl (tgt.map cN) .no,.sl (rules.map aB) .no,.sl (fD kids) .no,.sl (obls.map br) .no] 65):=afY;rw[ehb]at hwb hk0⊢;cases d0:decide (4<(d:Int))
  case true=>
   have e0:4<d:=acv;simp only[go_sem,d0];exact .same (.refl _) ⟨by rw[vb e0];rfl,hk0,fun m' h' =>by grind [vb]⟩
  have e0:¬4<d:=acv;simp only[go_sem,d0,hbip];have hhead:=MW idw mid m id set alg tgt rules kids obls hb hwb;simp only[aL,aU,az]at hhead;refine hhead.mono fun x h2 ⟨ex,hk,hw2⟩=>?_
  subst ex;have hk2:=hk0.trans hk;cases hh:fc m id set alg tgt rules.length kids.length obls with
  |bad e=>
   have hne:=AG hh;have t1:(e !=0)=true:=acv;simp only[go_sem,Went.err,t1];exact .same (.refl _) ⟨by rw[ve e0 hh];rfl,hk2,fun m' h' =>by grind [ve]⟩
  |ok m1=>
   have hw2:=hw2 _ hh;have hle:=(Lg hh).2.2.2.2.2.2.2;have hip2:=hk ip _ acv hbip;simp only[go_sem,Went.err,hip2,aci];refine .intro (fun k ρ h' =>∃(i:Nat) (mi:dX),i≤rules.length∧k=rules.length - i∧fq m1 (rules.take i)= .ok mi∧Keeps [idw,mid] h h'∧gY h' idw mid mi∧
    h' ip=some (.obj [.s id,.b set,.i alg,.sl (tgt.map cN) .no,.sl (rules.map aB) .no,.sl (fD kids) .no,.sl (obls.map br) .no] 65)∧
    lk ρ 0=some (.ptr idw 0)∧lk ρ 2=some (.i d)∧lk ρ 4=some (.ptr ip 0)∧lk ρ 23=some (.sl (rules.map aB) .no)∧lk ρ 24=some (.i rules.length)∧lk ρ 25=some (.i i)) rules.length ?_ ?_
   ·refine⟨0,m1,acu,rfl,rfl,hk2,hw2,hip2,?_,?_,?_,?_,?_,?_⟩<;>simp only[go_sem]
   ·rintro k ρ h' ⟨i,mi,hi,rfl,hri,hki,hwi,hipi,r0,r2,r4,r23,r24,r25⟩
    simp only[go_sem,r24,r25];refine .intro (fun e=>?_) (fun e=>?_)
    ·have hlt:i<rules.length:=acq e
     have w1:IntKind.i64.wrap ((i:Int)+1)=((i+1:Nat):Int):=acI;simp only[go_sem,r23,r25];refine .at i acv acL ?_;simp only[go_sem,acj,aB];intro ir hir;have hrl:=MY idw mid mi rules[i] _ (hwi.keep (Sub.aj (k:=some (.obj [.s rules[i].id,.b rules[i].deny,aU rules[i].tgt,fm rules[i].cond,az rules[i].obls] 224)) hir));simp only[aB]at hrl;simp only[go_sem,r0];refine hrl.mono fun x h3 ⟨ex,hk3,hw3⟩=>?_
     subst ex;have hk4:=(hki.trans (.of (Sub.aj hir))).trans hk3;have hip3:=hk3 ip _ acv ((Sub.aj hir) _ _ hipi);cases hx:gm mi rules[i]with
     |bad x=>
      have t1:(x !=0)=true:=by grind [Bb]
      simp only[go_sem,Went.err,t1];have hp:=yW (d:=d) (kids:=kids) e0 hh (Ej hlt hri hx);exact .same (.refl _) ⟨by rw[hp];rfl,hk4,fun m' h' =>acv⟩
     |ok m3=>
      simp only[go_sem,r25,Went.err,w1];refine⟨_,?_,i+1,m3,acu,rfl,by grind [wF],hk4,hw3 _ hx,hip3,?_,?_,?_,?_,?_,?_⟩
      ·omega
      all_goals simp only[go_sem,r0,r2,r4,r23,r24]
    ·have hge:i=rules.length:=by grind
     subst hge;rw[List.take_length]at hri;have hpk:=AZ (d:=d) (kids:=kids) e0 hh hri;simp only[go_sem,r4,hipi,aW,aci];refine .intro (fun k ρ h' =>∃(i:Nat) (mj:dX),i≤kids.length∧k=kids.length - i∧iN mi (d+1) (kids.take i)= .ok mj∧Keeps [idw,mid] h h'∧gY h' idw mid mj∧
      lk ρ 0=some (.ptr idw 0)∧lk ρ 2=some (.i d)∧lk ρ 37=some (.sl (kids.map aL) .no)∧lk ρ 38=some (.i kids.length)∧lk ρ 39=some (.i i)) kids.length ?_ ?_
     ·refine⟨0,mi,acu,rfl,rfl,hki,hwi,?_,?_,?_,?_,?_⟩<;>simp only[go_sem,r0,r2]
     ·rintro k ρ h' ⟨i,mj,hi,rfl,hkj,hki,hwi,r0,r2,r37,r38,r39⟩
      simp only[go_sem,r38,r39];refine .intro (fun e=>?_) (fun e=>?_)
      ·have hlt:i<kids.length:=acq e
       have w1:IntKind.i64.wrap ((i:Int)+1)=((i+1:Nat):Int):=acI;have w2:IntKind.i64.wrap ((d:Int)+1)=((d+1:Nat):Int):=acI;obtain⟨n',rfl⟩:∃n',n=n' +1:=⟨n - 1,acu⟩;have hrec:=Ib n' (d+1) acu idw mid mj kids[i];cases hki' :kids[i]with
       |mk kid kset kalg ktgt krules kkids kobls=>
       rw[hki']at hrec;simp only[aL,aU,az]at hrec;simp only[go_sem,r37,r39];refine .at i acv (by grind [L7]) ?_
       simp only[go_sem,acj,hki',aL,aU,az];intro ir hir;simp only[go_sem,r0,r2,w2];refine(hrec _ (hwi.keep (Sub.aj hir))).mono fun x h3 ⟨ex,hk3,hw3⟩=>?_
       subst ex;have hk4:=(hki.trans (.of (Sub.aj hir))).trans hk3;cases hx:kj mj (d+1) (.mk kid kset kalg ktgt krules kkids kobls)with
       |bad x=>
        have t1:(x !=0)=true:=by simpa using tT n' (d+1) _ _ _ acu hx
        simp only[go_sem,Went.err,t1];have hp:=FM hlt hkj (by rw[hki'];exact hx)
        exact .same (.refl _) ⟨by rw[hpk,hp];rfl,hk4,fun m' h' =>acv⟩
       |ok m3=>
        simp only[go_sem,r39,Went.err,w1];refine⟨_,?_,i+1,m3,acu,rfl,by grind [yw],hk4,hw3 _ hx,?_,?_,?_,?_,?_⟩
        ·omega
        all_goals simp only[go_sem,r0,r2,r37,r38]
      ·have hge:i=kids.length:=by grind
       subst hge;rw[List.take_length]at hkj;simp only[go_sem];exact .same (.refl _) ⟨by rw[hpk,hkj];rfl,hki,fun m' h' =>acv⟩
theorem FX{h:Heap}{i j:Nat}{b:Blk}(e:upd h i (some b) j=none):j≠i:=fun hh=>by
 subst hh;rw[ah]at e;cases e
theorem ua(p:bG)(h:Heap):ai Tryz.prog 117 [aL p] h fun r h' =>r= .i (gu p)∧h' =h:=by
 cases p with
 |mk id set alg tgt rules kids obls=>
 refine acs Tryz.func117 10 [.tmp 2] fun hwf=>?_
 simp only[go_sem,aL,aU,az];intro ip hip;simp only[go_sem];intro im him;simp only[go_sem];intro iw hiw;have n1:=FX him;have n2:=FX hiw;have hiw1:=hiw;rw[ag _ _ n2]at hiw1;have n3:=FX hiw1;have s1:Ab.Sub h (upd (upd (upd h ip (some (.obj [.s id,.b set,.i alg,.sl (tgt.map cN) .no,.sl (rules.map aB) .no,.sl (fD kids) .no,.sl (obls.map br) .no] 65))) im (some (.mp []))) iw (some (.obj [.mp im,.i 0] 255))):=
  ((Sub.aj hip).trans (.aj him)).trans (.aj hiw)
 obtain⟨h3,e3⟩:∃h3,upd (upd (upd h ip (some (.obj [.s id,.b set,.i alg,.sl (tgt.map cN) .no,.sl (rules.map aB) .no,.sl (fD kids) .no,.sl (obls.map br) .no] 65))) im (some (.mp []))) iw (some (.obj [.mp im,.i 0] 255))=h3:=⟨_,rfl⟩;have g1:h3 ip=some (.obj [.s id,.b set,.i alg,.sl (tgt.map cN) .no,.sl (rules.map aB) .no,.sl (fD kids) .no,.sl (obls.map br) .no] 65):=by
  rw[←e3,ag _ _ n3.symm,ag _ _ n1.symm,ah]
 have g2:gY h3 iw im ⟨[],0⟩:=by
  refine⟨by rw[←e3,ah];rfl,by rw[←e3,ag _ _ n2.symm,ah];rfl,fun l hl=>acv,acz⟩
 have hi0:h im=none:=ac7;have hw0:h iw=none:=ac7;simp only[go_sem];rw[e3]at s1⊢;simp only[go_sem,g1];have hp:=Ib 4 1 rfl iw im ⟨[],0⟩ (.mk id set alg tgt rules kids obls) h3 g2;refine hp.mono fun x h4 ⟨ex,hk,_⟩=>?_
 subst ex;simp only[go_sem];refine .mk _ (.refl _) (fun j k hj=>?_) ⟨rfl,rfl⟩
 refine hk j k ?_ (s1 _ _ hj)
 grind
def jO(x:bG×Int×Int):AV:=.tup [aL x.1,.i x.2.1,.i x.2.2]
theorem js(a b c:AV)(h:Weak a b)(d:AV):Weak (.tup [a,c,d]) (.tup [b,c,d]):=.tup _ _ rfl fun i h1 h2=>by
 rcases i with _|_|_|i
 ·exact h
 ·exact adQ
 ·exact adQ
 grind
theorem yR(s:Txt)(h:Heap)(he:jC h):ai Tryz.prog 67 [.s s] h fun r h' =>r=jO (aQ s)∧h' =h:=by
 refine acs Tryz.func67 61 [.cell 2 65,.tmp 3,.tmp 4] fun hwf=>?_
 simp only[go_sem];intro i2 hi2;simp only[go_sem];refine(xI s _ (he.sub (.aj hi2))).pthen ?_;cases el:qF s with
 |bad e a=>
  have e1:=tD el;have d1:(e !=0)=true:=by
   grind
  have efin:aQ s=(oE,e,a):=by grind [aQ]
  simp only[go_sem,FO,d1];rw[efin];exact .mk (h' :=h) (jO (oE,e,a)) (js _ _ _ (gb _) _) (.aj hi2) ⟨rfl,rfl⟩
 |ok ts=>
  have efin:aQ s=yQ s ts:=by grind [aQ]
  have hw:=J7 el 0 0 0;have hpol:=D4 3 1 rfl ⟨ts,0,0,0,0⟩ hw (Nat.zero_le _);have hap:=xD 4 ⟨ts,0,0,0,0⟩ hw;obtain⟨⟨⟨pid,pset,palg,ptgt,prules,pkids,pobls⟩,st1⟩,ep⟩:∃x,gy 4 ⟨ts,0,0,0,0⟩=x:=⟨_,rfl⟩;rw[show 3+1=4 from rfl,ep]at hpol
  rw[ep]at hap;simp only[aL]at hpol hap;simp only[yQ,ep]at efin;simp only[go_sem,FO];intro i8 hi8;have n8:=aF hi8;have m82:¬i8=i2:=n8;have m28:¬i2=i8:=fun e=>n8 e.symm
  have hh8:h i8=none:=ac7;simp only[go_sem];refine hpol.go (ah ..) ?_;rw[dQ];simp only[go_sem];intro i9 hi9;have n9:=aF hi9;have hi9' :=hi9;rw[ag _ _ n9]at hi9';have n92:=aF hi9';have m92:¬i9=i2:=n92;have m29:¬i2=i9:=fun e=>n92 e.symm
  have m98:¬i9=i8:=n9;have m89:¬i8=i9:=fun e=>n9 e.symm
  have hh9:h i9=none:=ac7;have c9:∀(f:Heap) (x y:Option Blk),upd (upd f i8 x) i9 y=upd (upd f i9 y) i8 x:=fun f x y=>cr f x y n9.symm
  simp only[go_sem,c9,ak,m98];refine(lU st1 hap.1).run ?_;have subs:∀x y z,Sub h (upd (upd (upd h i2 x) i9 y) i8 z):=fun x y z=>((Sub.aj hi2).put hh9 _).put hh8 _
  cases d1:((aI st1).kind !=7)
  ·have k1:(aI st1).kind=7:=by grind
   have e2:(if(aI st1).kind=7 then st1 else bl st1)=st1:=if_pos k1
   simp only[go_sem,fu,d1];cases db:((st1).bad==0)
   ·have eb:(st1).bad≠0:=by grind
    simp only[go_sem,PO,db];have eend:pS s (.mk pid pset palg ptgt prules pkids pobls,st1)=st1:=by
     simp_all [pS,if_neg]
    have hbb:(st1).bad≠0:=eb;have dn:((st1).bad !=0)=true:=acv;simp only[go_sem,dn];refine .calls (hm1 i8 (PO (st1))) [0,1,2,3,4,5,6,7,8,9,10,11] (.hm1 (ah ..)) acw rfl ?_;simp only[go_sem,ak,m28,m29,PO,fY];refine⟨.hm1 ((ag _ _ n8).trans (ah ..)),?_⟩;have efin2:aQ s=(oE,(st1).bad,(st1).place):=acv;rw[efin2];exact .mk (h' :=h) (jO (oE,(st1).bad,(st1).place)) (js _ _ _ (gb _) _) (Sub.put (subs _ _ _) hi2 _) ⟨rfl,rfl⟩
   ·have eb:(st1).bad=0:=by grind
    simp only[go_sem,ak,m98,PO,db];refine(ua (.mk pid pset palg ptgt prules pkids pobls) _).pthen ?_;cases dr:(gu (.mk pid pset palg ptgt prules pkids pobls) !=0)
    ·have er:gu (.mk pid pset palg ptgt prules pkids pobls)=0:=by grind
     have dn:((st1).bad !=0)=false:=acv;simp only[go_sem,ak,m28,m29,m98,dr,dn];have eend:pS s (.mk pid pset palg ptgt prules pkids pobls,st1)=st1:=by
      simp_all [pS,if_neg]
     exact ail
    ·have er:gu (.mk pid pset palg ptgt prules pkids pobls)≠0:=by grind
     simp only[go_sem,dr];refine(rm (st1) 5 s.length).run ?_;have eend:pS s (.mk pid pset palg ptgt prules pkids pobls,st1)=bF (st1) 5 s.length:=by
      simp_all [pS,if_pos]
     have hwb:bF (st1) 5 s.length= {(st1)with bad:=5,place:=s.length}:=by rw[bF,if_pos eb]
     have hbb:(bF (st1) 5 s.length).bad≠0:=acv;have dn:((bF (st1) 5 s.length).bad !=0)=true:=acv;simp only[go_sem,PO,dn];refine .calls (hm1 i8 (PO (bF (st1) 5 s.length))) [0,1,2,3,4,5,6,7,8,9,10,11] (.hm1 (ah ..)) acw rfl ?_;simp only[go_sem,ak,m28,m29,PO,fY];refine⟨.hm1 ((ag _ _ n8).trans (ah ..)),?_⟩;have efin2:aQ s=(oE,(bF (st1) 5 s.length).bad,(bF (st1) 5 s.length).place):=acv;rw[efin2];exact .mk (h' :=h) (jO (oE,(bF (st1) 5 s.length).bad,(bF (st1) 5 s.length).place)) (js _ _ _ (gb _) _) (Sub.put (subs _ _ _) hi2 _) ⟨rfl,rfl⟩
  ·have k1:(aI st1).kind≠7:=by grind
   have e2:(if(aI st1).kind=7 then st1 else bl st1)=bl st1:=if_neg k1
   simp only[go_sem,fu,d1];refine(lp st1 hap.1).run ?_;simp only[go_sem];cases db:((bl st1).bad==0)
   ·have eb:(bl st1).bad≠0:=by grind
    simp only[go_sem,PO,db];have eend:pS s (.mk pid pset palg ptgt prules pkids pobls,st1)=bl st1:=by
     simp_all [pS,if_neg]
    have hbb:(bl st1).bad≠0:=eb;have dn:((bl st1).bad !=0)=true:=acv;simp only[go_sem,dn];refine .calls (hm1 i8 (PO (bl st1))) [0,1,2,3,4,5,6,7,8,9,10,11] (.hm1 (ah ..)) acw rfl ?_;simp only[go_sem,ak,m28,m29,PO,fY];refine⟨.hm1 ((ag _ _ n8).trans (ah ..)),?_⟩;have efin2:aQ s=(oE,(bl st1).bad,(bl st1).place):=acv;rw[efin2];exact .mk (h' :=h) (jO (oE,(bl st1).bad,(bl st1).place)) (js _ _ _ (gb _) _) (Sub.put (subs _ _ _) hi2 _) ⟨rfl,rfl⟩
   ·have eb:(bl st1).bad=0:=by grind
    simp only[go_sem,ak,m98,PO,db];refine(ua (.mk pid pset palg ptgt prules pkids pobls) _).pthen ?_;cases dr:(gu (.mk pid pset palg ptgt prules pkids pobls) !=0)
    ·have er:gu (.mk pid pset palg ptgt prules pkids pobls)=0:=by grind
     have dn:((bl st1).bad !=0)=false:=acv;simp only[go_sem,ak,m28,m29,m98,dr,dn];have eend:pS s (.mk pid pset palg ptgt prules pkids pobls,st1)=bl st1:=by
      simp_all [pS,if_neg]
     exact ail
    ·have er:gu (.mk pid pset palg ptgt prules pkids pobls)≠0:=by grind
     simp only[go_sem,dr];refine(rm (bl st1) 5 s.length).run ?_;have eend:pS s (.mk pid pset palg ptgt prules pkids pobls,st1)=bF (bl st1) 5 s.length:=by
      simp_all [pS,if_pos]
     have hwb:bF (bl st1) 5 s.length= {(bl st1)with bad:=5,place:=s.length}:=by rw[bF,if_pos eb]
     have hbb:(bF (bl st1) 5 s.length).bad≠0:=acv;have dn:((bF (bl st1) 5 s.length).bad !=0)=true:=acv;simp only[go_sem,PO,dn];refine .calls (hm1 i8 (PO (bF (bl st1) 5 s.length))) [0,1,2,3,4,5,6,7,8,9,10,11] (.hm1 (ah ..)) acw rfl ?_;simp only[go_sem,ak,m28,m29,PO,fY];refine⟨.hm1 ((ag _ _ n8).trans (ah ..)),?_⟩;have efin2:aQ s=(oE,(bF (bl st1) 5 s.length).bad,(bF (bl st1) 5 s.length).place):=acv;rw[efin2];exact .mk (h' :=h) (jO (oE,(bF (bl st1) 5 s.length).bad,(bF (bl st1) 5 s.length).place)) (js _ _ _ (gb _) _) (Sub.put (subs _ _ _) hi2 _) ⟨rfl,rfl⟩
end Go.Proofs.YtcochaoekecfdaaGreatDoor
namespace Go.Ab
open Go
theorem OwE.keepb{tb:TypeId}{h0 h h' :Heap}{sz:Nat}{y:AV}{xs:List AV}(hw:OwE tb h0 h sz y xs)(hk:∀id,h0 id=Option.none→h id≠Option.none→h' id=h id):OwE tb h0 h' sz y xs:=
 hw.keep fun id e=>hk id (hw.nid e).1 (hw.nid e).2.1
end Go.Ab
namespace Go.Proofs.YtcochaoekecfdaaGreatDoor
open Go Go.Ab Go.Bf
theorem fk.keepb{h0 h h' :Heap}{ys:List AV}{x:AV}{c:aK}(hm:fk h0 h ys x c)(hk:∀id,h0 id=none→h id≠none→h' id=h id):fk h0 h' ys x c:=by
 obtain⟨f,l,e,a,b,c,d⟩:=hm;exact⟨f,l,e,a.keepb hk,b.keepb hk,c,d⟩
theorem lQ.keepb{h0 h h' :Heap}{ys:List AV}{y:AV}{cs:List aK}{i0:Nat}(ho:lQ h0 h ys y cs i0)(hk:∀id,h0 id=none→h id≠none→h' id=h id):lQ h0 h' ys y cs i0:=by
 obtain⟨xs,a,b,c,d⟩:=ho;exact⟨xs,a.keepb hk,b,c,fun h1 h2=>(d h1 h2).keepb hk⟩
theorem sO.keepb{h0 h h' :Heap}{x:AV}{s:an}{i0:Nat}(ho:sO h0 h x s i0)(hk:∀id,h0 id=none→h id≠none→h' id=h id):sO h0 h' x s i0:=by
 obtain⟨y1,y2,y3,y4,e,a,b,c,d,r⟩:=ho;exact⟨y1,y2,y3,y4,e,a.keepb hk,b.keepb hk,c.keepb hk,d.keepb hk,r⟩
theorem lQ.keepx{h0 h h' :Heap}{ys:List AV}{y z:AV}{cs:List aK}{i0:Nat}(ho:lQ h0 h ys y cs i0)(hz:z∈ys)(hy:apart y z)(hk:∀id,h0 id=none→h id≠none→nid z≠some id→h' id=h id):lQ h0 h' ys y cs i0:=by
 obtain⟨xs,a,b,c,d⟩:=ho;refine⟨xs,a.keep fun id e=>hk id (a.nid e).1 (a.nid e).2.1 (hy id e),b,c,fun h1 h2=>?_⟩
 obtain⟨f,l,e,of,ol,hap,hys⟩:=d h1 h2;exact⟨f,l,e,of.keep fun id e=>hk id (of.nid e).1 (of.nid e).2.1 ((hys z hz).1 id e),ol.keep fun id e=>hk id (ol.nid e).1 (ol.nid e).2.1 ((hys z hz).2 id e),hap,hys⟩
theorem fk.frz{g h0 h:Heap}{ys:List AV}{x:AV}{c:aK}(hm:fk h0 h ys x c)(hg:Ab.Sub g h0):Frz g h x (cp c):=by
 obtain⟨f,l,rfl,a,b,_⟩:=hm;refine .agg _ _ rfl fun j h1 h2=>?_
 rcases j with _|_|_|_|_|j
 ·exact acP
 ·exact acP
 ·exact acP
 ·exact(a.less hg).frz (bt (fun _=>rfl) _)
 ·exact(b.less hg).frz (bt (fun _=>rfl) _)
 ·simp at h1;omega
theorem IY{g h0 h:Heap}{y:AV}{xs:List AV}{cs:List aK}(hw:OwE 134 h0 h 5 y xs)(hg:Ab.Sub g h0)(hn:xs.length=cs.length)(hx:∀j (h1:j<xs.length) (h2:j<cs.length),Frz g h xs[j] (cp cs[j])):Frz g h y (fX cs):=by
 rcases hw with⟨rfl,rfl⟩|⟨id,h1,hw⟩
 ·have:cs= []:=by grind
  subst this;exact .sl [] [] .full rfl acu acD
 ·have hsz:∀i (h1:i<xs.length),xs[i].cells.length=5:=fun i h1=>hw.rd.1 _ acD
  refine hw.frz (hg.none h1) acv (fun i h1 h2=>by rw[hsz i h1,acj];rfl) fun i h1 h2 j h3 h4=>?_
  have h2' :i<cs.length:=acu;have hf:=hx i h1 h2';have key:∀x y:AV,Frz g h x y→bz y=true→cH y=true→∀j (h3:j<x.cells.length) (h4:j<y.cells.length),Frz g h x.cells[j] y.cells[j]:=by
   intro x y hf ha hp j h3 h4;cases hf with
   |keep x hx=>exact .pure (nC hp _ (aco h4))
   |agg xs ys hn hr=>exact hr j h3 h4
   |_=>cases ha
  have e:(cs.map cp)[i]'h2=cp cs[i]:=acD;simp only[e]at h4⊢;exact key _ _ hf rfl (by simp only[cp,ng,cH,gS,gq,su,Bool.and_true,Bool.true_and,Bool.and_eq_true];exact⟨bt (fun _=>rfl) _,bt (fun _=>rfl) _⟩) j h3 h4
theorem lQ.frz{g h0 h:Heap}{ys:List AV}{y:AV}{cs:List aK}{i0:Nat}(ho:lQ h0 h ys y cs i0)(hg:Ab.Sub g h0):Frz g h y (fX cs):=by
 obtain⟨xs,a,b,c,d⟩:=ho;refine IY a hg b fun j h1 h2=>?_
 by_cases e:j=i0
 ·subst e;exact(d h1 h2).frz hg
 grind [C9]
theorem L8{g h:Heap}(p:bG):∀x∈fT p,Frz g h x x:=fun x hx=>by
 refine .pure (nC (x:=aL p) (D6 p) x ?_);rw[Oy];exact hx
theorem Da{g h:Heap}{xs:List AV}(hx:∀x∈xs,Frz g h x x):∀i (h1:i<xs.length) (h2:i<xs.length),Frz g h xs[i] xs[i]:=fun i h1 _=>hx _ (aco h1)
theorem G0{g h:Heap}{ps bs cs ds:List AV}(n1:ps.length=bs.length)(n2:cs.length=ds.length)(h1:∀i (a:i<ps.length) (b:i<bs.length),Frz g h ps[i] bs[i])(h2:∀i (a:i<cs.length) (b:i<ds.length),Frz g h cs[i] ds[i]):
  ∀i (a:i<(ps++cs).length) (b:i<(bs++ds).length),Frz g h (ps++cs)[i] (bs++ds)[i]:=fun i a b=>by
 by_cases e:i<ps.length
 ·rw[List.getElem_append_left e,List.getElem_append_left acu];exact h1 i e acu
 ·rw[List.getElem_append_right acu,List.getElem_append_right acu]
  simp only[acn]at a b;have:=h2 (i - ps.length) acu acu;simp only[n1]at this⊢;exact adi
theorem uH{g h:Heap}{s:an}{y1 y2 y3 y4:AV}(a:Frz g h y1 (fX s.cases))(b:Frz g h y2 (j4 s.reviews))(c:Frz g h y3 (kY s.notices))(d:Frz g h y4 (dV s.roles)):
  Frz g h (.agg ([.i s.tick,y1,y2,y3,y4]++fT s.policy++ [.i s.version])) (cI s):=by
 refine .agg _ _ acD (G0 acD rfl (G0 rfl rfl (fun i h1 h2=>?_) (Da (L8 _))) (Da fun x hx=>by rw[List.mem_singleton.1 hx];exact .pure rfl))
 rcases i with _|_|_|_|_|i
 ·exact acP
 ·exact a
 ·exact b
 ·exact c
 ·exact d
 ·simp at h1;omega
theorem lQ.rd{h0 h:Heap}{ys:List AV}{y:AV}{cs:List aK}{i0:Nat}(ho:lQ h0 h ys y cs i0):zI h y cs:=by
 obtain⟨xs,a,b,c,d⟩:=ho;refine⟨xs,a.rd,b,fun j h1 h2=>?_⟩
 by_cases e:j=i0
 ·subst e
  obtain⟨f,l,e,a,b,_⟩:=d h1 h2;exact⟨f,l,e,a.rd,b.rd⟩
 grind [rdC]
theorem sO.rd{h0 h:Heap}{x:AV}{s:an}{i0:Nat}(ho:sO h0 h x s i0):RdS h x s:=by
 obtain⟨y1,y2,y3,y4,rfl,a,b,c,d,r⟩:=ho;exact⟨y1,y2,y3,y4,rfl,a.rd,b.rd,c.rd,d.rd⟩
end Go.Proofs.YtcochaoekecfdaaGreatDoor
namespace Go.Ab
open Go
theorem OwE.bI{tb:TypeId}{h0 h1 h:Heap}{sz:Nat}{y:AV}{xs:List AV}(hw:OwE tb h1 h sz y xs)(hs:∀i,h1 i=Option.none→h0 i=Option.none):OwE tb h0 h sz y xs:=by
 rcases hw with hw|⟨id,e,hw⟩
 ·exact agx
 ·exact .inr ⟨id,hs _ e,hw⟩
end Go.Ab
namespace Go.Proofs.YtcochaoekecfdaaGreatDoor
open Go Go.Ab Go.Bf
theorem fk.bI{g h0 h:Heap}{ys:List AV}{x:AV}{c:aK}(hm:fk h0 h ys x c)(hg:∀i,h0 i=none→g i=none):fk g h ys x c:=by
 obtain⟨f,l,e,a,b,c⟩:=hm;exact⟨f,l,e,a.bI hg,b.bI hg,c⟩
theorem lQ.bI{g h0 h:Heap}{ys:List AV}{y:AV}{cs:List aK}{i0:Nat}(ho:lQ h0 h ys y cs i0)(hg:∀i,h0 i=none→g i=none):lQ g h ys y cs i0:=by
 obtain⟨xs,a,b,c,d⟩:=ho;exact⟨xs,a.bI hg,b,c,fun h1 h2=>(d h1 h2).bI hg⟩
theorem sO.bI{g h0 h:Heap}{x:AV}{s:an}{i0:Nat}(ho:sO h0 h x s i0)(hg:∀i,h0 i=none→g i=none):sO g h x s i0:=by
 obtain⟨y1,y2,y3,y4,e,a,b,c,d,r⟩:=ho;exact⟨y1,y2,y3,y4,e,a.bI hg,b.bI hg,c.bI hg,d.bI hg,r⟩
theorem o6{g K:Heap}{S:an}{j:Nat}{y1 y2 y3 y4:AV}{tk ver palg:Int}{pid:Txt}{pset:Bool}{ptgt:fW}{prules:List cK}{pkids:List bG}{pobls:List cA}(h1:S.tick=tk)(h2:S.policy= .mk pid pset palg ptgt prules pkids pobls)(h3:S.version=ver)
  (a:lQ g K [y1,y2,y3,y4] y1 S.cases j) (b:OwE 143 g K 7 y2 (S.reviews.map iL)) (c:OwE 146 g K 3 y3 (S.notices.map mS)) (d:OwE 149 g K 2 y4 (S.roles.map eD)) (ap:apart y1 y2∧apart y1 y3∧apart y1 y4∧apart y2 y3∧apart y2 y4∧apart y3 y4):
  sO g K (.agg [.i tk,y1,y2,y3,y4,.s pid,.b pset,.i palg,aU ptgt,.sl (prules.map aB) .no,.sl (pkids.map aL) .no,az pobls,.i ver]) S j:=by
 refine⟨y1,y2,y3,y4,?_,a,b,c,d,ap⟩;rw[h1,h2,h3,show fT (.mk pid pset palg ptgt prules pkids pobls)= [.s pid,.b pset,.i palg,aU ptgt,.sl (prules.map aB) .no,.sl (pkids.map aL) .no,az pobls] by simp[fT,aW]]
 rfl
theorem lQ.move{h0 h h' :Heap}{ys ys' :List AV}{y z:AV}{cs:List aK}{i0:Nat}(ho:lQ h0 h ys y cs i0)(hz:z∈ys)(hy:apart y z)(hk:∀id,h0 id=none→h id≠none→nid z≠some id→h' id=h id)
  (hr:∀y'∈ys',∀k,nid y' =some k→h k=none∨∃w∈ys,nid w=some k):lQ h0 h' ys' y cs i0:=by
 obtain⟨xs,a,b,c,d⟩:=ho;refine⟨xs,a.keep fun id e=>hk id (a.nid e).1 (a.nid e).2.1 (hy id e),b,c,fun h1 h2=>?_⟩
 obtain⟨f,l,e,of,ol,hap,hys⟩:=d h1 h2;refine⟨f,l,e,of.keep fun id e=>hk id (of.nid e).1 (of.nid e).2.1 ((hys z hz).1 id e),ol.keep fun id e=>hk id (ol.nid e).1 (ol.nid e).2.1 ((hys z hz).2 id e),hap,fun w hw=>⟨fun k e1 e2=>?_,fun k e1 e2=>?_⟩⟩
 ·rcases hr w hw k e2 with hn|⟨v,hv,e3⟩
  ·exact(of.nid e1).2.1 hn
  ·exact(hys v hv).1 k e1 e3
 ·rcases hr w hw k e2 with hn|⟨v,hv,e3⟩
  ·exact(ol.nid e1).2.1 hn
  ·exact(hys v hv).2 k e1 e3
theorem Ox{g K:Heap}{r X:AV}{A B:List aK}{C:aK}{ys:List AV}{j:Nat}(hj:A.length=j)(hw:OwE 134 g K 5 r (A.map cp++([X]++B.map cp)))(hX:fk g K ys X C):lQ g K ys r (A++ [C]++B) j:=by
 refine⟨_,hw,acD,fun k h1 h2 hk=>?_,fun h1 h2=>?_⟩
 ·grind
 grind
theorem Ce{g K:Heap}{z:AV}{xs:List AV}{cs:List aK}{j:Nat}{X:AV}{F:aK→aK}{ys:List AV}(hw:OwE 134 g K 5 z (xs.set j X))(hn:xs.length=cs.length)(hlo:∀k (h1:k<xs.length) (h2:k<cs.length),k≠j→xs[k]=cp cs[k])(hX:∀h:j<cs.length,fk g K ys X (F cs[j])):lQ g K ys z (cs.modify j F) j:=by
 refine⟨_,hw,acv,fun k h1 h2 e=>?_,fun h1 h2=>?_⟩
 ·grind
 grind
theorem tf{xs:List AV}{j:Nat}(hj:j<xs.length)(x:AV):au (xs.set j x)=au (xs.take j)++(x.cells++au (xs.drop (j+1))):=by
 simp_all [List.set_eq_take_append_cons_drop,if_pos,l9,au]
theorem BV{xs:List AV}{j:Nat}(hj:j<xs.length):au xs=au (xs.take j)++(xs[j].cells++au (xs.drop (j+1))):=by
 grind [tf,List.set_getElem_self]
theorem zc{s:an}{o:OpD}(h:bJ s o=0)(hk:o.kind=3∨o.kind=4):bX s.cases o.case=true:=by
 grind [bX,bJ,bW]
theorem KS{g:Heap}{x:AV}{s:an}(hb:RdS g x s)(o:OpD)(hf:Few s)(hp:mI 1 s.policy)(hr:i64 o.review)(ht:i64 s.tick)(hver:0≤s.version∧s.version≤1000000)(he:jC g):
  ai Tryz.prog 74 [x,opA o] g fun r h' =>Ab.Sub g h'∧∃j,sO g h' r (dO aQ s o) j∧(bJ s o=0→j=findD s.cases o.case):=by
 obtain⟨i0,ei0⟩:∃i0,(if o.kind=1 then s.cases.length else findD s.cases o.case)=i0:=⟨_,rfl⟩
 have hown:=fun(G:Heap) (hG:Ab.Sub g G)=>RE (hb.sub hG) i0 hf hp
 have hrdy:=fun(G:Heap) (hG:Ab.Sub g G)=>Eg (hb.sub hG) o hf hr ht
 obtain⟨y1,y2,y3,y4,rfl,hb'⟩:=hb;cases hpp:s.policy with
 |mk pid pset palg ptgt prules pkids pobls=>
 have hcC:fT (.mk pid pset palg ptgt prules pkids pobls)= [.s pid,.v (.bool pset),.v (.int .i64 palg),aU ptgt,.sl (prules.map aB) .no,.sl (pkids.map aL) .no,az pobls]:=afC;rw[hpp,hcC]at hown hrdy;simp only[opA,opC,List.cons_append,List.nil_append]at hown hrdy;refine acs Tryz.func74 138 [.cell 4 67] fun hwf=>?_
 simp only[go_sem,hcC,opA,opC,List.cons_append,List.nil_append];intro i2 h2;simp only[go_sem];intro i3 h3;have n32:=aF h3;have h3' :=aA h3;simp only[go_sem];intro i4 h4;have n43:=aF h4;have h4a:=aA h4;have n42:=aF h4a;have h4' :=aA h4a;simp only[go_sem,ak,n32.symm,n42.symm];obtain⟨H,eH⟩:∃H,upd (upd (upd g i2 (some (.obj [.v (.int .i64 s.tick),y1,y2,y3,y4,.s pid,.v (.bool pset),.v (.int .i64 palg),aU ptgt,.sl (prules.map aB) .no,.sl (pkids.map aL) .no,az pobls,.v (.int .i64 s.version)] 67))) i3 (some (.obj (opC o) 32))) i4 (some (.obj [.v (.int .i64 0),.sl [] .full,.sl [] .full,.sl [] .full,.sl [] .full,.s [],.v (.bool false),.v (.int .i64 0),.sl [] .full,.sl [] .full,.sl [] .full,.sl [] .full,.v (.int .i64 0)] 67))=H:=⟨_,rfl⟩;have hH:Ab.Sub g H:=by rw[←eH];exact(((Sub.refl g).put h2 _).put h3' _).put h4' _
 have g2:H i2=some (.obj [.v (.int .i64 s.tick),y1,y2,y3,y4,.s pid,.v (.bool pset),.v (.int .i64 palg),aU ptgt,.sl (prules.map aB) .no,.sl (pkids.map aL) .no,az pobls,.v (.int .i64 s.version)] 67):=by rw[←eH,ag _ _ n42.symm,ag _ _ n32.symm,ah]
 have g3:H i3=some (.obj (opC o) 32):=by rw[←eH,ag _ _ n43.symm,ah]
 have g4:H i4=some (.obj [.v (.int .i64 0),.sl [] .full,.sl [] .full,.sl [] .full,.sl [] .full,.s [],.v (.bool false),.v (.int .i64 0),.sl [] .full,.sl [] .full,.sl [] .full,.sl [] .full,.v (.int .i64 0)] 67):=adX;simp only[opC]at eH g3;rw[eH];clear eH;refine(hown H hH).mono fun r H1 ⟨hS,s1⟩=>?_
 obtain⟨z1,z2,z3,z4,er,hS1⟩:=id hS;subst er;rw[hpp,hcC]at hS⊢;obtain⟨hC,w2,w3,w4,a12,a13,a14,a23,a24,a34⟩:=hS1;obtain⟨xs,w1,hnx,hlo,hmy⟩:=id hC;simp only[go_sem,List.cons_append,List.nil_append];intro i5 h5;simp only[go_sem];have q2:=s1 _ _ g2;have q3:=s1 _ _ g3;have q4:=s1 _ _ g4;have n52:i2≠i5:=fun e=>by rw[←e,q2]at h5;cases h5
 have n53:i3≠i5:=fun e=>by rw[←e,q3]at h5;cases h5
 have n54:i4≠i5:=fun e=>by rw[←e,q4]at h5;cases h5
 obtain⟨K,eK⟩:∃K,upd H1 i5 (some (.obj [.v (.int .i64 s.tick),z1,z2,z3,z4,.s pid,.v (.bool pset),.v (.int .i64 palg),aU ptgt,.sl (prules.map aB) .no,.sl (pkids.map aL) .no,az pobls,.v (.int .i64 s.version)] 67))=K:=⟨_,rfl⟩;have sK:Ab.Sub H1 K:=by rw[←eK];exact .aj h5
 have k5:K i5=some (.obj [.v (.int .i64 s.tick),z1,z2,z3,z4,.s pid,.v (.bool pset),.v (.int .i64 palg),aU ptgt,.sl (prules.map aB) .no,.sl (pkids.map aL) .no,az pobls,.v (.int .i64 s.version)] 67):=by rw[←eK,ah]
 rw[eK];have hz5:∀k,H k=none→H1 k≠none→k≠i5:=fun k _ hk e=>hk (by rw[e];exact h5)
 have k2:=sK _ _ q2;have k3:=sK _ _ q3;have k4:=sK _ _ q4;clear eK;have sg:Ab.Sub g K:=hH.trans (s1.trans sK);simp only[go_sem,k2,k3];refine(hrdy K sg).pthen ?_;have g5:g i5=none:=(hH.trans s1).none h5;have kK:∀k,H1 k≠none→K k=H1 k:=fun k hk=>by
  cases e:H1 k with
  |none=>exact(hk e).elim
  |some b=>exact sK _ _ e
 have hz4:∀k,H k=none→k≠i4:=fun k hk e=>by rw[e,g4]at hk;cases hk
 by_cases p0:bJ s o=0
 ·have d0:(bJ s o !=0)=false:=by simp[p0]
  simp only[go_sem,d0];simp only[go_sem,k5,k3];have hSK:sO H K (.agg ([.v (.int .i64 s.tick),z1,z2,z3,z4]++fT s.policy++ [.v (.int .i64 s.version)])) s i0:=by
   rw[hpp,hcC];exact hS.keepb fun k _ hk=>kK k hk
  have hfi:=BU hSK.rd o.case hf.cases;rw[hpp,hcC]at hfi;simp only[List.cons_append,List.nil_append]at hfi;refine hfi.pthen ?_;simp only[go_sem,k3];have hform:dG o=true:=by
   cases e:dG o
   ·simp[bJ,e]at p0
   ·rfl
  have hdone:dO aQ s o=doD aQ s o:=by simp[dO,p0]
  rw[hdone]
  by_cases p1:o.kind=1
  ·have k1:(o.kind==1)=true:=by simp[p1]
   simp only[go_sem,k1];simp only[go_sem,k3];intro i8 h8;have n82:i2≠i8:=fun e=>by rw[←e,k2]at h8;cases h8
   have n83:i3≠i8:=fun e=>by rw[←e,k3]at h8;cases h8
   have n84:i4≠i8:=fun e=>by rw[←e,k4]at h8;cases h8
   have n85:i5≠i8:=fun e=>by rw[←e,k5]at h8;cases h8
   simp only[go_sem];obtain⟨K2,eK2⟩:∃K2,upd K i8 (some (.obj [.s o.case,.s o.subj,.s [111,112,101,110],.sl [] .full,.sl [] .full] 134))=K2:=⟨_,rfl⟩;have sK2:Ab.Sub K K2:=by rw[←eK2];exact .aj h8
   have e8:K2 i8=some (.obj [.s o.case,.s o.subj,.s [111,112,101,110],.sl [] .full,.sl [] .full] 134):=by rw[←eK2,ah]
   rw[eK2];clear eK2;have m3:=sK2 _ _ k3;have m4:=sK2 _ _ k4;have m5:=sK2 _ _ k5;simp only[go_sem,m3,m5];have hha:=sk (h0:=H) (s:=s) z1 z2 z3 z4 (k:=i8) (o:=0) (A:=[]) (B:=[]) (t:=134) (c:=⟨o.case,o.subj,jy,[],[]⟩) (f:=.sl [] .full) (l:=.sl [] .full) rfl e8 acz (.inl ⟨rfl,rfl⟩) (s1.trans (sK.trans sK2)) (Nat.zero_le _) o.subj [110,101,119];rw[hpp,hcC]at hha;simp only[List.cons_append,List.nil_append]at hha;refine hha.mono fun r K3 ⟨l',ol,e8',fr3,ap3⟩=>?_
   have kK3:∀k,K2 k≠none→k≠i8→K3 k=K2 k:=fun k hk hk8=>fr3 k hk hk8 (by simp[nid])
   have m3' :K3 i3=_:=(kK3 i3 (by rw[m3];simp) n83).trans m3
   have m4' :K3 i4=_:=(kK3 i4 (by rw[m4];simp) n84).trans m4
   have m5' :K3 i5=_:=(kK3 i5 (by rw[m5];simp) n85).trans m5
   simp only[cc,List.append_nil]at e8';simp only[go_sem];simp only[go_sem,m5',e8'];have kk2:∀k,H1 k≠none→K2 k=H1 k:=fun k hk=>by
    have:=kK k hk;cases e:K k with
    |none=>rw[e]at this;exact(hk this.symm).elim
    |some b=>rw[sK2 _ _ e,←e,this]
   have k8:∀k,H1 k≠none→k≠i8:=fun k hk e=>hk (by have:=kK k hk;rw[e,h8]at this;rw[e];exact this.symm)
   have kk3:∀k,H1 k≠none→K3 k=H1 k:=fun k hk=>(kK3 k (by rw[kk2 k hk];exact hk) (k8 k hk)).trans (kk2 k hk)
   have sH3:Ab.Sub H1 K3:=fun k b hk=>by rw[kk3 k (by rw[hk];simp)];exact hk
   have hfl:findD s.cases o.case≤s.cases.length:=List.findIdx_le_length;have hfc:=hf.cases;refine(FG z1 xs (.agg [.s o.case,.s o.subj,.s jy,.sl [] .full,l']) (findD s.cases o.case) H K3 (w1.keepb fun k _ hk=>kk3 k hk) (s1.trans sH3) acu acu rfl (by simp[Ab.fit])).mono fun r K4 ⟨ow5,fr4,ap4⟩=>?_
   have m4'' :K4 i4=_:=(fr4 i4 (by rw[m4'];simp) (fun e=>by have:=(w1.nid e).1;rw[g4]at this;cases this)).trans m4'
   have m5'' :K4 i5=_:=(fr4 i5 (by rw[m5'];simp) (fun e=>(w1.nid e).2.1 h5)).trans m5'
   simp only[go_sem,m5'',ow5.rd.fit,ow5.rd.cells];simp only[go_sem,ak,n54,m4''];have hi0:i0=s.cases.length:=by rw[←ei0,if_pos p1]
   have hxs:xs=s.cases.map cp:=List.ext_getElem (by simpa using hnx) fun j a b=>by rw[hlo j a acu acu,acj]
   have kk4:∀k,H1 k≠none→nid z1≠some k→K4 k=H1 k:=fun k hk hz=>(fr4 k (by rw[kk3 k hk];exact hk) hz).trans (kk3 k hk)
   obtain⟨K5,eK5⟩:∃K5,upd (upd K4 i5 (some (.obj [.v (.int .i64 s.tick),r,z2,z3,z4,.s pid,.v (.bool pset),.v (.int .i64 palg),aU ptgt,.sl (prules.map aB) .no,.sl (pkids.map aL) .no,az pobls,.v (.int .i64 s.version)] 67))) i4 (some (.obj [.v (.int .i64 s.tick),r,z2,z3,z4,.s pid,.v (.bool pset),.v (.int .i64 palg),aU ptgt,.sl (prules.map aB) .no,.sl (pkids.map aL) .no,az pobls,.v (.int .i64 s.version)] 67))=K5:=⟨_,rfl⟩;rw[eK5];have o5:∀k,k≠i4→k≠i5→K5 k=K4 k:=fun k a b=>by rw[←eK5,ag _ _ a,ag _ _ b]
   have kk5:∀k,H k=none→H1 k≠none→nid z1≠some k→K5 k=H1 k:=fun k a b c=>(o5 k (hz4 k a) (hz5 k a b)).trans (kk4 k b c)
   have ow:OwE 134 H K5 5 r (List.take (findD s.cases o.case) xs++([.agg [.s o.case,.s o.subj,.s jy,.sl [] .full,l']]++List.drop (findD s.cases o.case) xs)):=ow5.keep fun id e=>o5 id (hz4 id (ow5.nid e).1) fun e5=>by
    subst e5;rcases ap4 _ e with h|h
    ·rw[m5']at h;cases h
    ·exact(w1.nid h).2.1 h5
   have ol5:OwE 205 H K5 3 l' _:=ol.keep fun id e=>by
    have h2n:K2 id=none:=(ap3 id e).resolve_right (by simp[nid])
    have hz:nid z1≠some id:=fun e1=>by
     have:=kk2 id (w1.nid e1).2.1;rw[h2n]at this;exact(w1.nid e1).2.1 this.symm
    rw[o5 id (hz4 id (ol.nid e).1) (fun e5=>by rw[e5,m5]at h2n;cases h2n),fr4 id (ol.nid e).2.1 hz]
   have hmc:fk H K5 [] (.agg [.s o.case,.s o.subj,.s jy,.sl [] .full,l']) (jk s ⟨o.case,o.subj,jy,[],[]⟩ o.subj [110,101,119]):=⟨.sl [] .full,l',rfl,.inl ⟨rfl,rfl⟩,ol5,(fun i e=>acV),fun y hy=>by cases hy⟩
   have sg4:Ab.Sub g K4:=fun k b hk=>by
    have h1:=hH _ _ hk;have h2:=s1 _ _ h1;rw[kk4 k (by rw[h2];simp) (fun e=>by have:=(w1.nid e).1;rw[h1]at this;cases this)]
    exact agF
   have sg5:Ab.Sub g K5:=by rw[←eK5];exact(sg4.put g5 _).put h4' _
   have hdo:doD aQ s o= {s with cases:=s.cases.take (findD s.cases o.case)++ [jk s ⟨o.case,o.subj,jy,[],[]⟩ o.subj [110,101,119]]++s.cases.drop (findD s.cases o.case)}:=by simp[doD,p1]
   refine .mk _ (.refl _) (.refl _) ⟨sg5,_,?_,fun _=>rfl⟩
   rw[hdo];have apr:∀k,nid r=some k→H1 k=none∨nid z1=some k:=fun k e=>(ap4 k e).imp (fun h=>sH3.none h) id
   have hro:∀ {w:AV},apart z1 w→(∀k,nid w=some k→H1 k≠none)→apart r w:=fun ha hw k e1 e2=>(apr k e1).elim (fun h=>hw k e2 h) (fun h=>ha k h e2)
   have hl0:∀k,nid l' =some k→H1 k=none:=fun k e=>(sK.trans sK2).none ((ap3 k e).resolve_right (by simp[nid]))
   have hlr:apart l' r:=fun k e1 e2=>(ap4 k e2).elim (fun h=>(ol.nid e1).2.1 h) (fun h=>(w1.nid h).2.1 (hl0 k e1))
   rw[hxs,←List.map_take,←List.map_drop]at ow;refine o6 rfl hpp rfl (Ox aeu (ow.bI (fun _ e=>hH.none e)) ⟨.sl [] .full,l',rfl,.inl ⟨rfl,rfl⟩,ol5.bI (fun _ e=>hH.none e),(fun i e=>acV),fun y hy=>⟨(fun i e=>acV),?_⟩⟩) ((w2.keep fun id e=>kk5 id (w2.nid e).1 (w2.nid e).2.1 fun e1=>a12 id e1 e).bI fun _ e=>hH.none e) ((w3.keep fun id e=>kk5 id (w3.nid e).1 (w3.nid e).2.1 fun e1=>a13 id e1 e).bI fun _ e=>hH.none e) ((w4.keep fun id e=>kk5 id (w4.nid e).1 (w4.nid e).2.1 fun e1=>a14 id e1 e).bI fun _ e=>hH.none e) ⟨hro a12 fun k e=>(w2.nid e).2.1,hro a13 fun k e=>(w3.nid e).2.1,hro a14 fun k e=>(w4.nid e).2.1,a23,a24,a34⟩
   simp only[List.mem_cons,List.not_mem_nil,or_false]at hy;rcases hy with rfl|rfl|rfl|rfl
   ·exact hlr
   ·exact fun k e1 e2=>(w2.nid e2).2.1 (hl0 k e1)
   ·exact fun k e1 e2=>(w3.nid e2).2.1 (hl0 k e1)
   ·exact fun k e1 e2=>(w4.nid e2).2.1 (hl0 k e1)
  have k1:(o.kind==1)=false:=by simp[p1]
  have hi0:i0=findD s.cases o.case:=by rw[←ei0,if_neg p1]
  simp only[go_sem,k1]
  by_cases p3:o.kind=3
  ·have k3' :(o.kind==3)=true:=by simp[p3]
   simp only[go_sem,k3'];have hth:=zc p0 (.inl p3);have hlt:=jA hth;obtain⟨j,ej⟩:∃j,findD s.cases o.case=j:=⟨_,rfl⟩;have hj:j<s.cases.length:=by rw[←ej];exact hlt
   have hjx:j<xs.length:=acu;rw[ej]at hi0;subst hi0;obtain⟨f,l,ex,of,ol,hap,hys⟩:=hmy hjx hj;obtain⟨id1,hg1,o1⟩:=w1.ow afq;have o1' :=o1;obtain⟨cap,rest,ey,hid,hrl,hcap,hsz⟩:=o1';have lA:i0*5=(au (xs.take i0)).length:=adB;have hidK:K id1=some (.obj (au (xs.take i0)++(cc s.cases[i0] f l++(au (xs.drop (i0+1))++rest))) 134):=by
    rw[sK _ _ hid,BV hjx,ex];simp[cc,AV.cells]
   have n14:id1≠i4:=hz4 id1 hg1;have n13:id1≠i3:=fun e=>by rw[e,g3]at hg1;cases hg1
   have n15:id1≠i5:=fun e=>o1.none (by rw[e];exact h5)
   have nf4:∀k,nid f=some k→k≠i3∧k≠i4∧k≠i5∧k≠id1:=fun k e=>⟨(fun e' =>afk),hz4 k (of.nid e).1,hz5 k (of.nid e).1 (of.nid e).2.1,fun e' =>(hys z1 acD).1 k e af1⟩
   have nl4:∀k,nid l=some k→k≠i3∧k≠i4∧k≠i5∧k≠id1:=fun k e=>⟨(fun e' =>afl),hz4 k (ol.nid e).1,hz5 k (ol.nid e).1 (ol.nid e).2.1,fun e' =>(hys z1 acD).2 k e af1⟩
   have hff:=hf.fields _ (aco hj);have hfl:=hf.log _ (aco hj);rw[ej];refine .calls (pick K [i3,i5]) [0,1,2,3,4,5,6,7,8] bQ acw rfl ?_;simp only[go_sem,bB (show i5∈ [i3,i5] by simp),k3,k5]
   refine(o1.sub sK).idx (U:=U) (e:=134) i0 rfl hjx nE acz ?_;simp only[go_sem,bB (show i3∈ [i3,i5] by simp),k3,k5]
   refine(show ai Tryz.prog 136 [.ptr id1 (i0*5),.s o.field,.agg [.v (.int .i64 o.val.kind),.v (.int .i64 o.val.n),.s o.val.s]] K _ from MX lA hidK acz (of.sub sK) (s1.trans sK) hff o.field o.val).mono fun r K3 ⟨f',of',e1',fr3,ap3⟩=>?_
   have kk3:∀k,H1 k≠none→k≠id1→nid f≠some k→K3 k=H1 k:=fun k a b c=>(fr3 k (by rw[kK k a];exact a) b c).trans (kK k a)
   have m3:K3 i3=_:=(fr3 i3 (by rw[k3];simp) n13.symm fun e=>(nf4 _ e).1 rfl).trans k3
   have m4:K3 i4=_:=(fr3 i4 (by rw[k4];simp) n14.symm fun e=>(nf4 _ e).2.1 rfl).trans k4
   have m5:K3 i5=_:=(fr3 i5 (by rw[k5];simp) n15.symm fun e=>(nf4 _ e).2.2.1 rfl).trans k5
   refine⟨iK fun k hk=>?_,?_⟩
   ·simp only[List.mem_cons,List.not_mem_nil,or_false]at hk
    rcases hk with rfl|rfl
    ·rw[m3,k3]
    ·rw[m5,k5]
   simp only[go_sem];have sH3:Ab.Sub H K3:=fun k b hk=>ade
   have ol3:OwE 205 H K3 3 l (s.cases[i0].log.map iH):=ol.keep fun k e=>kk3 k (ol.nid e).2.1 (nl4 k e).2.2.2 (fun e1=>hap k e1 e)
   have hX5:∀y1 y2:AV,Sized 5 (xs.set i0 (.agg (cc s.cases[i0] y1 y2))):=fun y1 y2 z hz=>by
    exact aho
   have mkO:∀ {G:Heap} {y1 y2:AV},G id1=some (.obj (au (xs.take i0)++(cc s.cases[i0] y1 y2++(au (xs.drop (i0+1))++rest))) 134)→Ow 134 G 5 id1 z1 (xs.set i0 (.agg (cc s.cases[i0] y1 y2))):=fun {G y1 y2} hG=>⟨cap,rest,aeN,by rw[hG,tf hjx];simp[AV.cells],afG,aeG,hX5 _ _⟩
   have hjs:∀x:AV,i0<(xs.set i0 x).length:=fun x=>by rw[List.length_set];exact hjx
   refine .calls (pick K3 [i3,i5]) [0,1,2,3,4,5,6,7] bQ acw rfl ?_;simp only[go_sem,bB (show i5∈ [i3,i5] by simp),m3,m5]
   refine(mkO e1').idx (U:=U) (e:=134) i0 rfl (hjs _) nE acz ?_;simp only[go_sem,bB (show i3∈ [i3,i5] by simp),m3,m5]
   have hha:=sk (h0:=H) (h:=K3) (s:=s) z1 z2 z3 z4 (k:=id1) (c:=s.cases[i0]) (f:=f') (l:=l) lA e1' acz ol3 sH3 hfl o.subj [119,114,105,116,101];rw[hpp,hcC]at hha;simp only[List.cons_append,List.nil_append]at hha;refine hha.mono fun r K4 ⟨l',ol',e1'',fr4,ap4⟩=>?_
   have m3' :K4 i3=_:=(fr4 i3 (by rw[m3];simp) n13.symm fun e=>(nl4 _ e).1 rfl).trans m3
   have m4' :K4 i4=_:=(fr4 i4 (by rw[m4];simp) n14.symm fun e=>(nl4 _ e).2.1 rfl).trans m4
   have m5' :K4 i5=_:=(fr4 i5 (by rw[m5];simp) n15.symm fun e=>(nl4 _ e).2.2.1 rfl).trans m5
   refine⟨iK fun k hk=>?_,?_⟩
   ·simp only[List.mem_cons,List.not_mem_nil,or_false]at hk
    rcases hk with rfl|rfl
    ·rw[m3',m3]
    ·rw[m5',m5]
   simp only[go_sem];simp only[go_sem,m5',m4'];obtain⟨K5,eK5⟩:∃K5,upd K4 i4 (some (.obj [.v (.int .i64 s.tick),z1,z2,z3,z4,.s pid,.v (.bool pset),.v (.int .i64 palg),aU ptgt,.sl (prules.map aB) .no,.sl (pkids.map aL) .no,az pobls,.v (.int .i64 s.version)] 67))=K5:=⟨_,rfl⟩;rw[eK5];have o5:∀k,k≠i4→K5 k=K4 k:=fun k a=>by rw[←eK5,ag _ _ a]
   have kk5:∀k,H k=none→H1 k≠none→k≠id1→nid f≠some k→nid l≠some k→K5 k=H1 k:=fun k a b c d e=>by
    exact ait
   have of5:OwE 215 H K5 4 f' _:=of'.keep fun id e=>by
    exact ag4
   have ol5:OwE 205 H K5 3 l' _:=ol'.keep fun id e=>o5 id (hz4 id (ol'.nid e).1)
   have sg4:Ab.Sub g K4:=fun k b hk=>by
    exact ahy
   have sg5:Ab.Sub g K5:=by rw[←eK5];exact sg4.put h4' _
   have n1' :nid z1=some id1:=o1.nid;have hdo:doD aQ s o= {s with cases:=s.cases.modify i0 fun c=>jk s {c with fields:=eY c.fields o.field o.val} o.subj [119,114,105,116,101]}:=by simp[doD,p3,ej]
   refine .mk _ (.refl _) (.refl _) ⟨sg5,_,?_,fun _=>rfl⟩
   rw[hdo];have thr:∀w∈ [z1,z2,z3,z4],∀k,nid w=some k→H1 k≠none:=fun w hw k e=>by
    exact ahu
   refine o6 rfl hpp rfl ?_ ((w2.keep fun id e=>kk5 id (w2.nid e).1 (w2.nid e).2.1 (fun e1=>a12 id1 n1' afh) (fun e1=>(hys z2 acD).1 id e1 e) (fun e1=>(hys z2 acD).2 id e1 e)).bI fun _ e=>hH.none e) ((w3.keep fun id e=>kk5 id (w3.nid e).1 (w3.nid e).2.1 (fun e1=>a13 id1 n1' afh) (fun e1=>(hys z3 acD).1 id e1 e) (fun e1=>(hys z3 acD).2 id e1 e)).bI fun _ e=>hH.none e) ((w4.keep fun id e=>kk5 id (w4.nid e).1 (w4.nid e).2.1 (fun e1=>a14 id1 n1' afh) (fun e1=>(hys z4 acD).1 id e1 e) (fun e1=>(hys z4 acD).2 id e1 e)).bI fun _ e=>hH.none e) ⟨a12,a13,a14,a23,a24,a34⟩
   refine Ce (X:=.agg (cc s.cases[i0] f' l')) ((show OwE 134 H K5 5 z1 _ from .inr ⟨id1,hg1,mkO ((o5 id1 n14).trans e1'')⟩).bI (fun _ e=>hH.none e)) hnx (fun k h1 h2 hk=>hlo k h1 h2 hk) fun hh=>⟨f',l',rfl,of5.bI (fun _ e=>hH.none e),ol5.bI (fun _ e=>hH.none e),fun k e1 e2=>?_,fun w hw=>⟨fun k e1 e2=>?_,fun k e1 e2=>?_⟩⟩
   ·rcases ap4 k e2 with h|h
    ·exact(of'.nid e1).2.1 h
    ·rcases ap3 k e1 with h' |h'
     ·exact(ol.nid h).2.1 (sK.none h')
     ·exact hap k h' h
   ·rcases ap3 k e1 with h|h
    ·exact thr w hw k e2 (sK.none h)
    ·exact(hys w hw).1 k h e2
   ·rcases ap4 k e1 with h|h
    ·by_cases h1:k=id1
     ·subst h1;rw[e1']at h;cases h
     ·have:=kk3 k (thr w hw k e2) h1 (fun e=>(hys w hw).1 k e e2)
      rw[h]at this;exact thr w hw k e2 this.symm
    ·exact(hys w hw).2 k h e2
  have k3' :(o.kind==3)=false:=by simp[p3]
  simp only[go_sem,k3']
  by_cases p4:o.kind=4
  ·have k4' :(o.kind==4)=true:=by simp[p4]
   simp only[go_sem,k4'];have hth:=zc p0 (.inr p4);have hlt:=jA hth;obtain⟨j,ej⟩:∃j,findD s.cases o.case=j:=⟨_,rfl⟩;have hj:j<s.cases.length:=by rw[←ej];exact hlt
   have hjx:j<xs.length:=acu;rw[ej]at hi0;subst hi0;obtain⟨f,l,ex,of,ol,hap,hys⟩:=hmy hjx hj;obtain⟨id1,hg1,o1⟩:=w1.ow afq;have o1' :=o1;obtain⟨cap,rest,ey,hid,hrl,hcap,hsz⟩:=o1';have lA:i0*5=(au (xs.take i0)).length:=adB;have hidK:K id1=some (.obj (au (xs.take i0)++(cc s.cases[i0] f l++(au (xs.drop (i0+1))++rest))) 134):=by
    rw[sK _ _ hid,BV hjx,ex];simp[cc,AV.cells]
   have n14:id1≠i4:=hz4 id1 hg1;have n13:id1≠i3:=fun e=>by rw[e,g3]at hg1;cases hg1
   have n15:id1≠i5:=fun e=>o1.none (by rw[e];exact h5)
   have nf4:∀k,nid f=some k→k≠i3∧k≠i4∧k≠i5∧k≠id1:=fun k e=>⟨(fun e' =>afk),hz4 k (of.nid e).1,hz5 k (of.nid e).1 (of.nid e).2.1,fun e' =>(hys z1 acD).1 k e af1⟩
   have nl4:∀k,nid l=some k→k≠i3∧k≠i4∧k≠i5∧k≠id1:=fun k e=>⟨(fun e' =>afl),hz4 k (ol.nid e).1,hz5 k (ol.nid e).1 (ol.nid e).2.1,fun e' =>(hys z1 acD).2 k e af1⟩
   have hff:=hf.fields _ (aco hj);have hfl:=hf.log _ (aco hj);rw[ej];simp only[go_sem,k5,k3];refine(o1.sub sK).idx (U:=U) (e:=134) i0 rfl hjx nE acz ?_;simp only[go_sem,hidK];have e2:List.take (i0*5+2) (au (xs.take i0)++(cc s.cases[i0] f l++(au (xs.drop (i0+1))++rest)))++ [.s o.to]++List.drop (i0*5+2+1) (au (xs.take i0)++(cc s.cases[i0] f l++(au (xs.drop (i0+1))++rest)))=au (xs.take i0)++(cc {s.cases[i0]with state:=o.to} f l++(au (xs.drop (i0+1))++rest)):=by
    have:=oT (A:=au (xs.take i0)++ [.s s.cases[i0].id,.s s.cases[i0].owner]) (B:=[.s s.cases[i0].state]) (C:=f::l::(au (xs.drop (i0+1))++rest)) (X:=[.s o.to]) (k:=i0*5+2) (m:=1) (by rw[lA];simp) rfl rfl
    exact aip
   rw[e2];obtain⟨K3,eK3⟩:∃K3,upd K id1 (some (.obj (au (xs.take i0)++(cc {s.cases[i0]with state:=o.to} f l++(au (xs.drop (i0+1))++rest))) 134))=K3:=⟨_,rfl⟩
   rw[eK3];refine⟨by simp only[acn,←lA,cc,List.length_cons,List.length_nil];omega,?_⟩
   have e1' :K3 id1=some (.obj (au (xs.take i0)++(cc {s.cases[i0]with state:=o.to} f l++(au (xs.drop (i0+1))++rest))) 134):=by rw[←eK3,ah]
   have fr3:∀k,K k≠none→k≠id1→nid f≠some k→K3 k=K k:=fun k _ hk _=>by rw[←eK3,ag _ _ hk]
   have ap3:∀k,nid f=some k→K k=none∨nid f=some k:=fun k hk=> .inr hk
   have kk3:∀k,H1 k≠none→k≠id1→nid f≠some k→K3 k=H1 k:=fun k a b c=>(fr3 k (by rw[kK k a];exact a) b c).trans (kK k a)
   have m3:K3 i3=_:=(fr3 i3 (by rw[k3];simp) n13.symm fun e=>(nf4 _ e).1 rfl).trans k3
   have m4:K3 i4=_:=(fr3 i4 (by rw[k4];simp) n14.symm fun e=>(nf4 _ e).2.1 rfl).trans k4
   have m5:K3 i5=_:=(fr3 i5 (by rw[k5];simp) n15.symm fun e=>(nf4 _ e).2.2.1 rfl).trans k5
   obtain⟨f',of',ef'⟩:∃f',OwE 215 H K3 4 f' (s.cases[i0].fields.map bL)∧f=f' :=⟨f,of.keep fun k e=>by rw[←eK3,ag _ _ (nf4 k e).2.2.2,kK k (of.nid e).2.1],rfl⟩
   rw[ef']at e1';replace ap3:∀k,nid f' =some k→K k=none∨nid f=some k:=by rw[←ef'];exact ap3
   have sH3:Ab.Sub H K3:=fun k b hk=>ade
   have ol3:OwE 205 H K3 3 l (s.cases[i0].log.map iH):=ol.keep fun k e=>kk3 k (ol.nid e).2.1 (nl4 k e).2.2.2 (fun e1=>hap k e1 e)
   have hX5:∀y1 y2:AV,Sized 5 (xs.set i0 (.agg (cc ({s.cases[i0]with state:=o.to}:aK) y1 y2))):=fun y1 y2 z hz=>by
    exact aho
   have mkO:∀ {G:Heap} {y1 y2:AV},G id1=some (.obj (au (xs.take i0)++(cc ({s.cases[i0]with state:=o.to}:aK) y1 y2++(au (xs.drop (i0+1))++rest))) 134)→Ow 134 G 5 id1 z1 (xs.set i0 (.agg (cc ({s.cases[i0]with state:=o.to}:aK) y1 y2))):=fun {G y1 y2} hG=>⟨cap,rest,aeN,by rw[hG,tf hjx];simp[AV.cells],afG,aeG,hX5 _ _⟩
   have hjs:∀x:AV,i0<(xs.set i0 x).length:=fun x=>by rw[List.length_set];exact hjx
   refine .calls (pick K3 [i3,i5]) [0,1,2,3,4,5,6,7,8,9] bQ acw rfl ?_;simp only[go_sem,bB (show i5∈ [i3,i5] by simp),m3,m5]
   refine(mkO e1').idx (U:=U) (e:=134) i0 rfl (hjs _) nE acz ?_;simp only[go_sem,bB (show i3∈ [i3,i5] by simp),m3,m5]
   have hha:=sk (h0:=H) (h:=K3) (s:=s) z1 z2 z3 z4 (k:=id1) (c:=({s.cases[i0]with state:=o.to}:aK)) (f:=f') (l:=l) lA e1' acz ol3 sH3 hfl o.subj o.to
   rw[hpp,hcC]at hha;simp only[List.cons_append,List.nil_append]at hha;refine hha.mono fun r K4 ⟨l',ol',e1'',fr4,ap4⟩=>?_
   have m3' :K4 i3=_:=(fr4 i3 (by rw[m3];simp) n13.symm fun e=>(nl4 _ e).1 rfl).trans m3
   have m4' :K4 i4=_:=(fr4 i4 (by rw[m4];simp) n14.symm fun e=>(nl4 _ e).2.1 rfl).trans m4
   have m5' :K4 i5=_:=(fr4 i5 (by rw[m5];simp) n15.symm fun e=>(nl4 _ e).2.2.1 rfl).trans m5
   refine⟨iK fun k hk=>?_,?_⟩
   ·simp only[List.mem_cons,List.not_mem_nil,or_false]at hk
    rcases hk with rfl|rfl
    ·rw[m3',m3]
    ·rw[m5',m5]
   simp only[go_sem];simp only[go_sem,m5',m4'];obtain⟨K5,eK5⟩:∃K5,upd K4 i4 (some (.obj [.v (.int .i64 s.tick),z1,z2,z3,z4,.s pid,.v (.bool pset),.v (.int .i64 palg),aU ptgt,.sl (prules.map aB) .no,.sl (pkids.map aL) .no,az pobls,.v (.int .i64 s.version)] 67))=K5:=⟨_,rfl⟩;rw[eK5];have o5:∀k,k≠i4→K5 k=K4 k:=fun k a=>by rw[←eK5,ag _ _ a]
   have kk5:∀k,H k=none→H1 k≠none→k≠id1→nid f≠some k→nid l≠some k→K5 k=H1 k:=fun k a b c d e=>by
    exact ait
   have of5:OwE 215 H K5 4 f' _:=of'.keep fun id e=>by
    exact ag4
   have ol5:OwE 205 H K5 3 l' _:=ol'.keep fun id e=>o5 id (hz4 id (ol'.nid e).1)
   have sg4:Ab.Sub g K4:=fun k b hk=>by
    exact ahy
   have sg5:Ab.Sub g K5:=by rw[←eK5];exact sg4.put h4' _
   have n1' :nid z1=some id1:=o1.nid;have hdo:doD aQ s o= {s with cases:=s.cases.modify i0 fun c=>jk s {c with state:=o.to} o.subj o.to}:=by simp[doD,p4,ej]
   refine .mk _ (.refl _) (.refl _) ⟨sg5,_,?_,fun _=>rfl⟩
   rw[hdo];have thr:∀w∈ [z1,z2,z3,z4],∀k,nid w=some k→H1 k≠none:=fun w hw k e=>by
    exact ahu
   refine o6 rfl hpp rfl ?_ ((w2.keep fun id e=>kk5 id (w2.nid e).1 (w2.nid e).2.1 (fun e1=>a12 id1 n1' afh) (fun e1=>(hys z2 acD).1 id e1 e) (fun e1=>(hys z2 acD).2 id e1 e)).bI fun _ e=>hH.none e) ((w3.keep fun id e=>kk5 id (w3.nid e).1 (w3.nid e).2.1 (fun e1=>a13 id1 n1' afh) (fun e1=>(hys z3 acD).1 id e1 e) (fun e1=>(hys z3 acD).2 id e1 e)).bI fun _ e=>hH.none e) ((w4.keep fun id e=>kk5 id (w4.nid e).1 (w4.nid e).2.1 (fun e1=>a14 id1 n1' afh) (fun e1=>(hys z4 acD).1 id e1 e) (fun e1=>(hys z4 acD).2 id e1 e)).bI fun _ e=>hH.none e) ⟨a12,a13,a14,a23,a24,a34⟩
   refine Ce (X:=.agg (cc ({s.cases[i0]with state:=o.to}:aK) f' l')) ((show OwE 134 H K5 5 z1 _ from .inr ⟨id1,hg1,mkO ((o5 id1 n14).trans e1'')⟩).bI (fun _ e=>hH.none e)) hnx (fun k h1 h2 hk=>hlo k h1 h2 hk) fun hh=>⟨f',l',rfl,of5.bI (fun _ e=>hH.none e),ol5.bI (fun _ e=>hH.none e),fun k e1 e2=>?_,fun w hw=>⟨fun k e1 e2=>?_,fun k e1 e2=>?_⟩⟩
   ·rcases ap4 k e2 with h|h
    ·exact(of'.nid e1).2.1 h
    ·rcases ap3 k e1 with h' |h'
     ·exact(ol.nid h).2.1 (sK.none h')
     ·exact hap k h' h
   ·rcases ap3 k e1 with h|h
    ·exact thr w hw k e2 (sK.none h)
    ·exact(hys w hw).1 k h e2
   ·rcases ap4 k e1 with h|h
    ·by_cases h1:k=id1
     ·subst h1;rw[e1']at h;cases h
     ·have:=kk3 k (thr w hw k e2) h1 (fun e=>(hys w hw).1 k e e2)
      rw[h]at this;exact thr w hw k e2 this.symm
    ·exact(hys w hw).2 k h e2
  have k4' :(o.kind==4)=false:=by simp[p4]
  simp only[go_sem,k4'];have kkK:∀k,H k=none→H1 k≠none→K k=H1 k:=fun k _ b=>kK k b
  by_cases p5:o.kind=5
  ·have k5' :(o.kind==5)=true:=by simp[p5]
   simp only[go_sem,k5'];have hrv:0<o.review:=by
    simp only[dG,dJ,Bool.and_eq_true]at hform;simpa[okD,p5]using hform.2.1.2
   obtain⟨n,en⟩:∃n:Nat,o.review=((n:Nat):Int)+1:=⟨(o.review - 1).toNat,acu⟩;have w5:IntKind.i64.wrap (o.review - 1)=((n:Nat):Int):=by rw[bg _ (by have:=hr.2;omega)];omega
   have hn5:n<s.reviews.length:=by
    have:fM s o=0:=by simpa[bJ,hform,p5]using p0
    unfold fM at this;have e1:wE s.reviews o.review=s.reviews[n]? :=by unfold wE;rw[if_pos acu,show(o.review - 1).toNat=n by omega]
    rw[e1]at this
    by_cases hlt:n<s.reviews.length
    ·exact hlt
    ·rw[List.getElem?_eq_none acu]at this;cases this
   have hnm:n<(s.reviews.map iL).length:=by simpa using hn5
   obtain⟨id2,hg2,o2⟩:=w2.ow (by intro e;rw[e]at hnm;cases hnm)
   have o2' :=o2;obtain⟨cap,rest,ey,hid,hrl,hcap,hsz⟩:=o2';have n24:id2≠i4:=hz4 id2 hg2;have n25:id2≠i5:=hz5 id2 hg2 o2.none;have hidK:=sK _ _ hid;simp only[go_sem,k5,k3,w5];refine(o2.sub sK).idx (U:=U) (e:=143) n rfl hnm acF acz ?_;simp only[go_sem,hidK];have e2:List.take (n*7+6) (au (s.reviews.map iL)++rest)++ [.v (.bool false)]++List.drop (n*7+6+1) (au (s.reviews.map iL)++rest)=au ((s.reviews.modify n fun r=> {r with isOpen:=false}).map iL)++rest:=by
    refine(ld hsz n hnm 6 [.v (.bool false)] (ach rfl)).trans ?_
    congr 2
    refine List.ext_getElem acD fun j h1 h2=>?_
    by_cases e:j=n
    ·subst e;simp[iL,AV.cells,Ab.over]
    ·rw[List.getElem_set_ne (Ne.symm e)];simp[Ne.symm e]
   rw[e2];refine⟨by rw[acn,aX hsz];omega,?_⟩
   have k5b:∀b,upd K id2 b i5=_:=fun b=>(ag _ _ n25.symm).trans k5
   have k4b:∀b,upd K id2 b i4=_:=fun b=>(ag _ _ n24.symm).trans k4
   simp only[go_sem,k5b,k4b];have hdo:doD aQ s o= {s with reviews:=s.reviews.modify n fun r=> {r with isOpen:=false}}:=by simp[doD,p5,en]
   have kz:∀a b k,H k=none→H1 k≠none→nid z2≠some k→upd (upd K id2 a) i4 b k=H1 k:=fun a b k c d e=>by rw[ag _ _ (hz4 k c),ag _ _ (fun e' =>e (by rw[e'];exact o2.nid)),kK k d]
   refine .mk _ (.refl _) (.refl _) ⟨(Sub.put (i:=id2) sg (hH.none hg2) _).put h4' _,_,?_,fun _=>hi0⟩
   rw[hdo];exact o6 rfl hpp rfl ((hC.keepx (z:=z2) acD a12 (kz _ _)).bI (fun _ e=>hH.none e)) (.inr ⟨id2,hH.none hg2,cap,rest,by rw[ey];simp,by rw[ag _ _ n24,ah],by rw[hrl];simp,by simpa using hcap,bu (f:=iL) (n:=7) (fun _=>rfl) _⟩) ((w3.keep fun id e=>kz _ _ id (w3.nid e).1 (w3.nid e).2.1 fun e1=>a23 id e1 e).bI fun _ e=>hH.none e) ((w4.keep fun id e=>kz _ _ id (w4.nid e).1 (w4.nid e).2.1 fun e1=>a24 id e1 e).bI fun _ e=>hH.none e) ⟨a12,a13,a14,a23,a24,a34⟩
  have k5' :(o.kind==5)=false:=by simp[p5]
  simp only[go_sem,k5']
  by_cases p6:o.kind=6
  ·have k6' :(o.kind==6)=true:=by simp[p6]
   simp only[go_sem,k6'];simp only[go_sem,k5,k3];have hha6:=FD hSK.rd o.case o.field (Nat.le_trans hf.roles acz);rw[hpp,hcC]at hha6;simp only[List.cons_append,List.nil_append]at hha6;refine hha6.pthen ?_;cases dha:yh s.roles ⟨o.case,o.field⟩
   ·simp only[go_sem]
    simp only[go_sem,k5,k3];have hap1:Rd K 2 (.sl [eD ⟨o.case,o.field⟩] .full) [eD ⟨o.case,o.field⟩]:=.sl adj .full;have hfr:=hf.roles;refine OwE.app (U:=U) (tb:=149) (w4.sub sK) (s1.trans sK) hap1 acF acz acA acF acD ac3 fun id4 y' K3 g4' hor hw ho2=>?_
    have hor' :K id4=none∨nid z4=some id4:=by
     exact ahi
    have n44:i4≠id4:=fun e=>by rw[←e,g4]at g4';cases g4'
    have n45:i5≠id4:=fun e=>by
     rcases hor' with hor|hor
     ·rw[←e,k5]at hor;cases hor
     ·exact(w4.nid hor).2.1 (by rw[←e];exact h5)
    have m4:K3 i4=_:=(ho2 i4 n44).trans k4;have m5:K3 i5=_:=(ho2 i5 n45).trans k5;simp only[go_sem,m5,hw.rd.fit,hw.rd.cells];simp only[go_sem,ak,n54,m4];have hdo:doD aQ s o= {s with roles:=s.roles++ [⟨o.case,o.field⟩]}:=by simp[doD,p6,dha]
    have gid4:g id4=none:=hH.none g4';have kz:∀a b k,H k=none→H1 k≠none→nid z4≠some k→upd (upd K3 i5 a) i4 b k=H1 k:=fun a b k c d e=>by
     have:k≠id4:=fun e' =>by
      rcases hor' with hor|hor
      ·have:=kK k d;rw[e',hor]at this;exact d (by rw[e'];exact this.symm)
      ·exact e (by rw[e'];exact hor)
     rw[ag _ _ (hz4 k c),ag _ _ (hz5 k c d),ho2 k this,kK k d]
    have sg3:Ab.Sub g K3:=fun k b hk=>by rw[ho2 k (fun e=>by rw[e,gid4]at hk;cases hk)];exact sg _ _ hk
    refine .mk _ (.refl _) (.refl _) ⟨(sg3.put g5 _).put h4' _,_,?_,fun _=>hi0⟩
    rw[hdo];have hw' :OwE 149 g K3 2 y' ((s.roles++ [(⟨o.case,o.field⟩:gV)]).map eD):=by rw[List.map_append];exact .inr ⟨id4,gid4,hw⟩
    have hry:∀k,nid y' =some k→H1 k=none∨nid z4=some k:=fun k e=>by
     have:id4=k:=by have:=hw.nid;rw[e]at this;exact(Option.some.inj this).symm
     subst this;exact hor'.imp (fun h=>sK.none h) id
    have har:∀ {w:AV},apart w z4→(∀k,nid w=some k→H1 k≠none)→apart w y' :=fun ha hh k e1 e2=>(hry k e2).elim (fun h=>hh k e1 h) (fun h=>ha k e1 h)
    refine o6 rfl hpp rfl ((hC.move (z:=z4) acD a14 (kz _ _) fun w hw k e=>?_).bI (fun _ e=>hH.none e)) ((w2.keep fun id e=>kz _ _ id (w2.nid e).1 (w2.nid e).2.1 fun e1=>a24 id e e1).bI fun _ e=>hH.none e) ((w3.keep fun id e=>kz _ _ id (w3.nid e).1 (w3.nid e).2.1 fun e1=>a34 id e e1).bI fun _ e=>hH.none e) (hw'.keep fun id e=>?_) ⟨a12,a13,har a14 fun k e=>(w1.nid e).2.1,a23,har a24 fun k e=>(w2.nid e).2.1,har a34 fun k e=>(w3.nid e).2.1⟩
    ·simp only[List.mem_cons,List.not_mem_nil,or_false]at hw
     rcases hw with rfl|rfl|rfl|rfl
     ·exact .inr ⟨w,acD,e⟩
     ·exact .inr ⟨w,acD,e⟩
     ·exact .inr ⟨w,acD,e⟩
     ·exact(hry k e).imp id fun h=>⟨z4,acD,h⟩
    ·have:id=id4:=by have:=hw.nid;rw[e]at this;exact Option.some.inj this
     rw[this,ag _ _ n44.symm,ag _ _ n45.symm]
   ·simp only[go_sem]
    simp only[go_sem,k5,k4];have hdo:doD aQ s o=s:=by simp[doD,p6,dha]
    rw[hdo];refine .mk _ (.refl _) (.refl _) ⟨sg.put h4' _,_,(hS.keepb fun k hk hk1=>?_).bI fun _ e=>hH.none e,fun _=>hi0⟩
    rw[ag _ _ (hz4 k hk),kK k hk1]
  have k6' :(o.kind==6)=false:=by simp[p6]
  simp only[go_sem,k6']
  by_cases p7:o.kind=7
  ·have k7' :(o.kind==7)=true:=by simp[p7]
   simp only[go_sem,k7'];simp only[go_sem,k3];refine(yR o.text _ (he.sub sg)).pthen ?_;obtain⟨⟨pp,e,a⟩,epp⟩:∃x,aQ o.text=x:=⟨_,rfl⟩;obtain⟨qid,qset,qalg,qtgt,qrules,qkids,qobls⟩:=pp;rw[epp];simp only[go_sem,jO,aL,aW];intro i9 h9;have n95:i5≠i9:=fun e=>by rw[←e,k5]at h9;cases h9
   have n94:i4≠i9:=fun e=>by rw[←e,k4]at h9;cases h9
   simp only[go_sem];have g9:g i9=none:=sg.none h9;have sg9:∀b,Ab.Sub g (upd K i9 b):=fun b=>sg.put g9 b
   have hz9:∀k,H1 k≠none→k≠i9:=fun k hk e=>hk (by have:=kK k hk;rw[e,h9]at this;rw[e];exact this.symm)
   by_cases pe:e=0
   ·have de:(e==0)=true:=by simp[pe]
    have wv:IntKind.i64.wrap (s.version+1)=s.version+1:=bg _ acu;simp only[go_sem,de];simp only[go_sem,ak,n95,n94,n54,k5,k4,wv];have hdo:doD aQ s o= {s with policy:=.mk qid qset qalg qtgt qrules qkids qobls,version:=s.version+1}:=by simp[doD,p7,epp,pe]
    have kz:∀a b c k,H k=none→H1 k≠none→upd (upd (upd K i9 a) i5 b) i4 c k=H1 k:=fun a b c k d e=>by rw[ag _ _ (hz4 k d),ag _ _ (hz5 k d e),ag _ _ (hz9 k e),kK k e]
    refine .mk _ (.refl _) (.refl _) ⟨((sg9 _).put g5 _).put h4' _,_,?_,fun _=>hi0⟩
    rw[hdo];exact o6 rfl rfl rfl ((hC.keepb (kz _ _ _)).bI (fun _ e=>hH.none e)) ((w2.keepb (kz _ _ _)).bI (fun _ e=>hH.none e)) ((w3.keepb (kz _ _ _)).bI (fun _ e=>hH.none e)) ((w4.keepb (kz _ _ _)).bI (fun _ e=>hH.none e)) ⟨a12,a13,a14,a23,a24,a34⟩
   ·have de:(e==0)=false:=by simp[pe]
    simp only[go_sem,de];simp only[go_sem,ak,n95,n94,k5,k4];have hdo:doD aQ s o=s:=by simp[doD,p7,epp,pe]
    rw[hdo];refine .mk _ (.refl _) (.refl _) ⟨(sg9 _).put h4' _,_,(hS.keepb fun k hk hk1=>?_).bI fun _ e=>hH.none e,fun _=>hi0⟩
    rw[ag _ _ (hz4 k hk),ag _ _ (hz9 k hk1),kK k hk1]
  have k7' :(o.kind==7)=false:=by simp[p7]
  simp only[go_sem,k7']
  by_cases p8:o.kind=8
  ·have k8' :(o.kind==8)=true:=by simp[p8]
   simp only[go_sem,k8'];have hrv:0<o.review∧o.review≤1099511627776:=by
    simp only[dG,dJ,Bool.and_eq_true]at hform;simpa[okD,p8]using hform.2.1.2
   have htk:¬s.tick>1099511627776 - o.review:=by
    intro hgt;simp[bJ,hform,p8,hgt]at p0
   have w8:IntKind.i64.wrap (s.tick+o.review)=s.tick+o.review:=bg _ (by have:=ht.1;omega)
   simp only[go_sem,k5,k3,w8];simp only[go_sem,ak,n54,k4];have hdo:doD aQ s o= {s with tick:=s.tick+o.review}:=by simp[doD,p8]
   have kz:∀a b k,H k=none→H1 k≠none→upd (upd K i5 a) i4 b k=H1 k:=fun a b k c d=>by rw[ag _ _ (hz4 k c),ag _ _ (hz5 k c d),kK k d]
   refine .mk _ (.refl _) (.refl _) ⟨(sg.put g5 _).put h4' _,_,?_,fun _=>hi0⟩
   rw[hdo];exact o6 rfl hpp rfl ((hC.keepb (kz _ _)).bI (fun _ e=>hH.none e)) ((w2.keepb (kz _ _)).bI (fun _ e=>hH.none e)) ((w3.keepb (kz _ _)).bI (fun _ e=>hH.none e)) ((w4.keepb (kz _ _)).bI (fun _ e=>hH.none e)) ⟨a12,a13,a14,a23,a24,a34⟩
  have k8' :(o.kind==8)=false:=by simp[p8]
  simp only[go_sem,k8'];simp only[go_sem,k5,k4];have hdo:doD aQ s o=s:=by simp[doD,p1,p3,p4,p5,p6,p7,p8]
  rw[hdo];refine .mk _ (.refl _) (.refl _) ⟨sg.put h4' _,_,(hS.keepb fun k hk hk1=>?_).bI fun _ e=>hH.none e,fun _=>hi0⟩
  rw[ag _ _ (hz4 k hk),kK k hk1]
 ·have d0:(bJ s o !=0)=true:=by simp[p0]
  simp only[go_sem,d0];simp only[go_sem,k5,k4];have hdone:dO aQ s o=s:=by simp[dO,p0]
  rw[hdone];refine .mk _ (.refl _) (.refl _) ⟨sg.put h4' _,_,(hS.keepb fun k hk hk1=>?_).bI fun _ e=>hH.none e,fun h=>(p0 h).elim⟩
  rw[ag _ _ (hz4 k hk),kK k hk1]
end Go.Proofs.YtcochaoekecfdaaGreatDoor
namespace Go.Bf
def LB:Txt:=[112,111,108,105,99,121,32,111,112,101,110,32,112,101,114,109,105,116,117,110,108,101,115,115,32,123,32,125]
def lI:bG:=.mk jy false 6 [] [] [] []
def yM:an:=⟨0,[],[],[],[],lI,0⟩
end Go.Bf
namespace Go.Proofs.YtcochaoekecfdaaGreatDoor
open Go Go.Ab Go.Bf
theorem NS{g K:Heap}{S:an}{y1 y2 y3 y4:AV}{tk ver palg:Int}{pid:Txt}{pset:Bool}{ptgt:fW}{prules:List cK}{pkids:List bG}{pobls:List cA}(h1:S.tick=tk)(h2:S.policy= .mk pid pset palg ptgt prules pkids pobls)(h3:S.version=ver)
  (a:Frz g K y1 (fX S.cases)) (b:Frz g K y2 (j4 S.reviews)) (c:Frz g K y3 (kY S.notices)) (d:Frz g K y4 (dV S.roles)):
  Frz g K (.agg [.i tk,y1,y2,y3,y4,.s pid,.b pset,.i palg,aU ptgt,.sl (prules.map aB) .no,.sl (pkids.map aL) .no,az pobls,.i ver]) (cI S):=by
 have:=uH a b c d;rw[h1,h2,h3,show fT (.mk pid pset palg ptgt prules pkids pobls)= [.s pid,.b pset,.i palg,aU ptgt,.sl (prules.map aB) .no,.sl (pkids.map aL) .no,az pobls] by simp[fT,aW]]at this
 exact adi
theorem J5{H:Heap}{i j:Nat}{a b:Option Blk}(c:Option Blk)(h:i≠j):upd (upd (upd H i a) j b) i c=upd (upd H i c) j b:=by
 grind [ah,ag]
theorem LC:aQ LB=(lI,0,0):=acK
theorem Rv(h:Heap)(he:jC h):ai Tryz.prog 26 [] h fun r h' =>r=cI yM∧h' =h:=
 ai.freeze fun g hg _=>by
 replace he:=he.sub hg;refine acs Tryz.func26 11 [.cell 0 67] fun hwf=>?_
 simp only[go_sem];intro i1 h1;simp only[go_sem];refine(yR LB _ (he.sub (.aj h1))).pthen ?_;rw[LC];simp only[go_sem,jO,lI,aL,aU,az,fD,jy,List.map_nil];intro i2 h2;have n21:=aF h2;have n2:=aA h2;simp only[go_sem,ak,n21.symm];refine .mk _ (.refl _) (.refl _) ⟨?_,cI yM,NS (S:=yM) rfl rfl rfl mb mb mb mb,rfl⟩;rw[J5 _ n21.symm];exact((Sub.refl g).put h1 _).put n2 _
theorem rQ(s:Txt)(h:Heap):ai Tryz.prog 125 [.s s] h fun r h' =>r=aO (idV s)∧h' =h:=by
 refine acs Tryz.func125 5 [.cell 2 30] fun hwf=>?_
 exact ah6
theorem dL(cat:Int)(name:Txt)(xs:List AV)(q:Perm)(h:Heap):ai Tryz.prog 126 [.i cat,.s name,.sl xs q] h fun r h' =>r= .agg [.i cat,.s name,.sl xs q]∧h' =h:=by
 refine acs Tryz.func126 11 [.cell 6 196] fun hwf=>?_
 exact ah6
theorem Lm{α:Type}(y:AV)(xs:List AV)(ds:List α)(q:α→Bool)(g:FuncId)(cap:List AV)(h:Heap)(hb:Rd h 3 y xs)(hn:xs.length=ds.length)(hl:xs.length≤1000000000)(hx:∀x∈xs,bz x=true)
  (hp:∀i (h1:i<xs.length) (h2:i<ds.length),ai Tryz.prog g (xs[i]::cap) h fun r h' =>r= .b (q ds[i])∧h' =h):
  ai Tryz.prog 252 [y,.fn g cap] h fun r h' =>r= .i (ixD q ds)∧h' =h:=by
 refine acs Tryz.func252 19 [.tmp 4] fun hwf=>?_
 simp only[go_sem,hb.len];refine .intro (fun m ρ h' =>h' =h∧∃i:Nat,i≤xs.length∧m=xs.length - i∧(∀j (hj:j<i) (h2:j<ds.length),q ds[j]=false)∧lk ρ 0=some y∧lk ρ 1=some (.fn g cap)∧lk ρ 7=some (.i xs.length)∧lk ρ 8=some (.i i)) xs.length ?_ ?_
 ·refine⟨rfl,0,acu,rfl,fun j hj=>acu,?_,?_,?_,?_⟩<;>simp only[go_sem]
 ·rintro m ρ h' ⟨rfl,i,hi,rfl,hc,r0,r1,r7,r8⟩
  simp only[go_sem,r7,r8];refine .intro (fun e=>?_) (fun e=>?_)
  ·have hlt:i<xs.length:=acq e
   have hlt2:i<ds.length:=acu;have w1:IntKind.i64.wrap ((i:Int)+1)=((i+1:Nat):Int):=acI;simp only[go_sem,r0,r1,r8];refine hb.idx (e:=205) i rfl hlt acK acz fun p hp1=>?_
   have hld:=hp1.all (U:=U) (ty:=205) acz adq aek;simp only[go_sem,hld];refine(show ai Tryz.prog g (xs[i]::cap) _ _ from hp i hlt hlt2).pthen ?_
   cases d1:q ds[i]
   ·simp only[go_sem,r8,w1]
    refine⟨_,?_,rfl,i+1,acu,rfl,fun j hj h2=>?_,?_,?_,?_,?_⟩
    ·omega
    ·grind
    all_goals simp only[go_sem,r0,r1,r7]
   ·simp only[go_sem]
    exact .same (.refl _) ⟨adf,rfl⟩
  ·have hge:i=xs.length:=by grind
   simp only[go_sem];exact .same (.refl _) ⟨acY,rfl⟩
theorem MH{h:Heap}(x:xz){k:Nat}{subj:Txt}(hk:h k=some (.obj [.s subj] 9)):ai Tryz.prog 216 [iH x,.ptr k 0] h fun r h' =>r= .b (x.actor==subj)∧h' =h:=by
 refine acs Tryz.func216 8 [.tmp 3] fun hwf=>?_
 simp only[go_sem,iH];exact agZ
theorem uw{α:Type}(q:α→Bool)(l:List α):decide ((0:Int)≤ixD q l)=l.any q:=by
 unfold ixD
 grind
theorem I7(y:AV)(ds:List xz)(q:xz→Bool)(g:FuncId)(cap:List AV)(h:Heap)(hb:Rd h 3 y (ds.map iH))(hl:ds.length≤1000000000)
  (hp:∀i (h2:i<ds.length),ai Tryz.prog g (iH ds[i]::cap) h fun r h' =>r= .b (q ds[i])∧h' =h):
  ai Tryz.prog 215 [y,.fn g cap] h fun r h' =>r= .b (ds.any q)∧h' =h:=by
 refine acs Tryz.func215 9 [.tmp 4] fun hwf=>?_
 simp only[go_sem];refine(Lm y _ ds q g cap h hb acD acv (oH (fun _=>rfl) _) fun i a b=>by rw[acj];exact hp i b).pthen ?_
 simp only[go_sem,uw];exact acE
theorem OV{h:Heap}{x:AV}{c:aK}(hb:RdC h x c)(subj:Txt)(hl:c.log.length≤1000000000):ai Tryz.prog 174 [x,.s subj] h fun r h' =>r=aO (ug c.log subj)∧h' =h:=by
 obtain⟨f,l,rfl,hf,hlg⟩:=hb;refine acs Tryz.func174 13 [.cell 4 30] fun hwf=>?_
 simp only[go_sem];intro i1 h1;simp only[go_sem];intro i2 h2;have n21:=aF h2;have n2:=aA h2;simp only[go_sem];intro i3 h3;have h3' :=aA h3;have n31:=aF h3';have n3:=aA h3';simp only[go_sem];intro i4 h4;have n43:=aF h4;have h4' :=aA h4;have h4'' :=aA h4';have n41:=aF h4'';have n4:=aA h4'';have hs:∀a b d e,Ab.Sub h (upd (upd (upd (upd h i1 a) i2 b) i3 d) i4 e):=fun a b d e=>((((Sub.refl h).put h1 a).put n2 b).put n3 d).put n4 e
 simp only[go_sem,ak,n21.symm,n31.symm,n41.symm];refine(I7 l c.log (fun x=>x.actor==subj) _ [.ptr i2 0] _ (hlg.sub (hs _ _ _ _)) hl fun i b=>MH _ (by grind [ak,ga,not_false_eq_true])).pthen ?_
 cases d1:c.log.any fun x=>x.actor==subj
 ·exact ahO
 ·exact ahO
def zM(g:bn)(q:Perm):AV:=.agg [.i g.cat,.s g.name,.sl (g.bag.map aO) q]
def GRow(ys:List AV)(gs:List bn):Prop:=ys.length=gs.length∧∀j (h1:j<ys.length) (h2:j<gs.length),∃q,ys[j]=zM gs[j] q
theorem GRow.sized{ys:List AV}{gs:List bn}(h:GRow ys gs):Sized 3 ys:=fun z hz=>by
 obtain⟨i,hi,rfl⟩:=List.mem_iff_getElem.1 hz;obtain⟨q,e⟩:=h.2 i hi (by rw[←h.1];omega)
 rw[e];rfl
theorem GRow.one(g:bn)(q:Perm):GRow [zM g q] [g]:=⟨rfl,fun j h1 h2=>by
 grind⟩
theorem GRow.app{ys zs:List AV}{gs ks:List bn}(h:GRow ys gs)(k:GRow zs ks):GRow (ys++zs) (gs++ks):=⟨by simp[h.1,k.1],fun j h1 h2=>by
 have hl:=h.1
 by_cases e:j<ys.length
 ·rw[List.getElem_append_left e,List.getElem_append_left acu];exact h.2 j e acu
 ·rw[List.getElem_append_right acu,List.getElem_append_right acu]
  simp only[acn]at h1 h2;obtain⟨q,e'⟩:=k.2 (j - ys.length) acu acu;exact⟨q,acv⟩⟩
theorem GRow.weak{ys:List AV}{gs:List bn}(h:GRow ys gs)(q:Perm):Weak (.sl ys q) (bH gs):=by
 refine .deep _ _ q (by simp[h.1]) (fun k h1 h2=>?_) fun k h1 h2 j h3 h4=>?_
 ·obtain⟨q',e'⟩:=h.2 k h1 acv
  rw[e',acj];rfl
 ·obtain⟨q',e'⟩:=h.2 k h1 acv
  simp only[e',acj];simp only[e',zM,AV.cells]at h3;rcases j with _|_|_|j
  ·exact adQ
  ·exact adQ
  ·exact afc
  ·simp at h3;omega
theorem GRow.givs(gs:List bn):GRow (gs.map kT) gs:=⟨acD,fun j h1 h2=>⟨.no,acL⟩⟩
theorem cq:(U 196).sz=3:=acK
theorem fI(g:bn)(q:Perm):Sized 3 [zM g q]:=fun z hz=>afr
def sn(c:aK)(subj:Txt):List bn:=[⟨3,idT,[idV c.id]⟩,⟨3,[111,119,110,101,114],[idV c.owner]⟩,⟨3,[115,116,97,116,101],[idV c.state]⟩,⟨3,[101,118,101,110,116,115],[⟨2,c.log.length,[]⟩]⟩,⟨3,[116,111,111,107],[ug c.log subj]⟩]
def sr(c:aK):List bn:=match c.log.getLast? with
 |some x=>[⟨3,[108,97,115,116],[idV x.actor]⟩]
 |none=>[]
def fK(l:List cV):List bn:=(l.filter fun f=>decide (f.name.length≤14)).map fun f=>⟨3,[102,95]++f.name,[f.val]⟩
theorem lS(l:List cV)(i:Nat)(h:i<l.length):fK (l.take (i+1))=fK (l.take i)++(if l[i].name.length≤14 then [⟨3,[102,95]++l[i].name,[l[i].val]⟩]else []):=by
 grind [fK,List.take_succ_eq_append_getElem]
theorem qc(c:aK)(subj:Txt):cB c subj=sn c subj++sr c++fK c.fields:=rfl
theorem EW{h:Heap}(c:aK)(subj:Txt)(hl:c.log.length≤1000000)(hlf:c.fields.length≤1000000):ai Tryz.prog 127 [cp c,.s subj] h fun r h' =>r=bH (cB c subj)∧h' =h:=by
 refine acs Tryz.func127 77 [.tmp 4] fun hwf=>?_
 simp only[go_sem,cp,ng,gq,su];intro i1 h1;simp only[go_sem];refine .quiet acw ?_;simp only[go_sem];refine⟨_,rQ _ _,?_⟩;simp only[go_sem,aO,idV];refine⟨_,dL _ _ _ _ _,?_⟩;simp only[go_sem];refine⟨_,rQ _ _,?_⟩;simp only[go_sem,aO,idV];refine⟨_,dL _ _ _ _ _,?_⟩;simp only[go_sem];refine⟨_,rQ _ _,?_⟩;simp only[go_sem,aO,idV];refine⟨_,dL _ _ _ _ _,?_⟩;simp only[go_sem];refine⟨_,dL _ _ _ _ _,?_⟩;simp only[go_sem];refine⟨_,OV (show RdC _ (.agg [.s c.id,.s c.owner,.s c.state,.sl (c.fields.map bL) .no,.sl (c.log.map iH) .no]) c from rdC _ c) subj acu,?_⟩
 simp only[go_sem,aO];refine⟨_,dL _ _ _ _ _,?_⟩;simp only[go_sem,aci];have hs1:∀b,Ab.Sub h (upd h i1 b):=fun b=>(Sub.refl h).put h1 b
 have hrow5:GRow [.agg [.i 3,.s [105,100],.sl [.agg [.i 5,.i 0,.s c.id]] .full],.agg [.i 3,.s [111,119,110,101,114],.sl [.agg [.i 5,.i 0,.s c.owner]] .full],.agg [.i 3,.s [115,116,97,116,101],.sl [.agg [.i 5,.i 0,.s c.state]] .full],.agg [.i 3,.s [101,118,101,110,116,115],.sl [.agg [.i 2,.i c.log.length,.s []]] .full],.agg [.i 3,.s [116,111,111,107],.sl [aO (ug c.log subj)] .full]] (sn c subj):=(GRow.one ⟨3,idT,[idV c.id]⟩ .full).app ((GRow.one ⟨3,[111,119,110,101,114],[idV c.owner]⟩ .full).app ((GRow.one ⟨3,[115,116,97,116,101],[idV c.state]⟩ .full).app ((GRow.one ⟨3,[101,118,101,110,116,115],[⟨2,c.log.length,[]⟩]⟩ .full).app (GRow.one ⟨3,[116,111,111,107],[ug c.log subj]⟩ .full))));simp only[aO]at hrow5;cases d1:decide ((0:Int)<(c.log.length:Int))
 ·have hl0:c.log= []:=List.length_eq_zero_iff.1 acv
  simp only[go_sem];simp only[go_sem,aci];refine .intro (fun m ρ H=>∃(i:Nat) (y:AV) (ys:List AV),Acc U 196 h H y ys∧H i1=some (.obj [.s c.id,.s c.owner,.s c.state,.sl (c.fields.map bL) .no,.sl (c.log.map iH) .no] 134)∧GRow ys (sn c subj++fK (c.fields.take i))∧i≤c.fields.length∧m=c.fields.length - i∧lk ρ 5=some y∧lk ρ 2=some (.ptr i1 0)∧lk ρ 55=some (.sl (c.fields.map bL) .no)∧lk ρ 56=some (.i c.fields.length)∧lk ρ 57=some (.i i)) c.fields.length ?_ ?_
  ·refine⟨0,_,_,.full (hs1 _),ah ..,(by have:=hrow5;simpa[fK]using this),acu,rfl,?_,?_,?_,?_,?_⟩<;>simp only[go_sem]
  ·rintro m ρ H ⟨i,y,ys,hy,g1,hrow,hi,rfl,r5,r2,r55,r56,r57⟩
   simp only[go_sem,r56,r57];refine .intro (fun e=>?_) (fun e=>?_)
   ·have hlt:i<c.fields.length:=acq e
    have w1:IntKind.i64.wrap ((i:Int)+1)=((i+1:Nat):Int):=acI;simp only[go_sem,r55,r57];refine .at i acv acL ?_;simp only[go_sem,acj,bL];intro i8 h8;have n81:i1≠i8:=fun e=>acv
    simp only[go_sem];cases d2:decide ((c.fields[i].name.length:Int)≤14)
    ·exact ag2
    ·simp only[go_sem,r5]
     have h14:c.fields[i].name.length≤14:=acv;refine⟨by grind [Nat,lim],?_⟩
     refine(dL _ _ _ _ _).pthen ?_;simp only[go_sem];refine(hy.sub (.aj h8)).app (zs:=[zM ⟨3,[102,95]++c.fields[i].name,[c.fields[i].val]⟩ .full]) acz acz (fun k hk=>(Rd.sl (fI _ _) .full:Rd _ 3 _ _).src cq hk) (by rw[cq];exact hrow.sized) (by grind [cq,fI]) (by
      have hln:(fK (c.fields.take i)).length≤i:=aeB;simp only[go_sem,hrow.1,List.length_cons,List.length_nil,sn];omega) fun y' H' hy' kp=>?_
     exact ahn
   ·have hge:i=c.fields.length:=by grind
    subst hge;rw[List.take_length]at hrow;obtain⟨q,rfl⟩:=hy.row;simp only[go_sem,r5];exact .mk (bH (cB c subj)) (show Weak (.sl ys q) _ by rw[qc,sr,hl0];simpa using hrow.weak q) hy.1 ⟨rfl,rfl⟩
 ·have hl1:0<c.log.length:=by grind
  simp only[go_sem];have w0:IntKind.i64.wrap ((c.log.length:Int) - 1)=((c.log.length - 1:Nat):Int):=acI;simp only[go_sem,w0];refine .at (c.log.length - 1) acv acL ?_;simp only[go_sem,acj,iH];rw[if_neg (fun hh=>hh.1)]
  refine(rQ _ _).pthen ?_;simp only[go_sem,aO,idV];refine(dL _ _ _ _ _).pthen ?_;simp only[go_sem];have hgl:c.log.getLast? =some c.log[c.log.length - 1]:=acv;have hlast:GRow [.agg [.i 3,.s [108,97,115,116],.sl [.agg [.i 5,.i 0,.s c.log[c.log.length - 1].actor]] .full]] (sr c):=by
   unfold sr;rw[hgl];exact GRow.one ⟨3,[108,97,115,116],[idV c.log[c.log.length - 1].actor]⟩ .full
  refine .accs (hs1 _) fun y0 H0 hy0 kp0=>?_
  simp only[go_sem,kp0 _ _ _ (ah ..),aci];refine .intro (fun m ρ H=>∃(i:Nat) (y:AV) (ys:List AV),Acc U 196 h H y ys∧H i1=some (.obj [.s c.id,.s c.owner,.s c.state,.sl (c.fields.map bL) .no,.sl (c.log.map iH) .no] 134)∧GRow ys ((sn c subj++sr c)++fK (c.fields.take i))∧i≤c.fields.length∧m=c.fields.length - i∧lk ρ 5=some y∧lk ρ 2=some (.ptr i1 0)∧lk ρ 55=some (.sl (c.fields.map bL) .no)∧lk ρ 56=some (.i c.fields.length)∧lk ρ 57=some (.i i)) c.fields.length ?_ ?_
  ·refine⟨0,_,_,hy0,kp0 _ _ _ (ah ..),(by have:=hrow5.app hlast;simpa[fK]using this),acu,rfl,?_,?_,?_,?_,?_⟩<;>simp only[go_sem]
  ·rintro m ρ H ⟨i,y,ys,hy,g1,hrow,hi,rfl,r5,r2,r55,r56,r57⟩
   simp only[go_sem,r56,r57];refine .intro (fun e=>?_) (fun e=>?_)
   ·have hlt:i<c.fields.length:=acq e
    have w1:IntKind.i64.wrap ((i:Int)+1)=((i+1:Nat):Int):=acI;simp only[go_sem,r55,r57];refine .at i acv acL ?_;simp only[go_sem,acj,bL];intro i8 h8;have n81:i1≠i8:=fun e=>acv
    simp only[go_sem];cases d2:decide ((c.fields[i].name.length:Int)≤14)
    ·exact ag2
    ·simp only[go_sem,r5]
     have h14:c.fields[i].name.length≤14:=acv;refine⟨by grind [Nat,lim],?_⟩
     refine(dL _ _ _ _ _).pthen ?_;simp only[go_sem];refine(hy.sub (.aj h8)).app (zs:=[zM ⟨3,[102,95]++c.fields[i].name,[c.fields[i].val]⟩ .full]) acz acz (fun k hk=>(Rd.sl (fI _ _) .full:Rd _ 3 _ _).src cq hk) (by rw[cq];exact hrow.sized) (by grind [cq,fI]) (by
      have hln:(fK (c.fields.take i)).length≤i:=aeB;simp only[go_sem,hrow.1,List.length_cons,List.length_nil,sn,sr,hgl];omega) fun y' H' hy' kp=>?_
     exact ahn
   ·have hge:i=c.fields.length:=by grind
    subst hge;rw[List.take_length]at hrow;obtain⟨q,rfl⟩:=hy.row;simp only[go_sem,r5];exact .mk (bH (cB c subj)) (show Weak (.sl ys q) _ by rw[qc];exact hrow.weak q) hy.1 ⟨rfl,rfl⟩
end Go.Proofs.YtcochaoekecfdaaGreatDoor
