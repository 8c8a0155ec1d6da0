/- The law TopLog,TopTampered: pack 6 of its texts. -/
import Derived.WalkKit
import Derived.Lib.Walk
import Derived.Lib.SliceRun
import Derived.Lib.AppendZerosOnto
import Derived.Test.YtelkmnkejghkeaaGreatDoorPk1
import Derived.Test.YtelkmnkejghkeaaGreatDoorPk2
import Derived.Test.YtelkmnkejghkeaaGreatDoorPk3
import Derived.Test.YtelkmnkejghkeaaGreatDoorPk4
import Derived.Test.YtelkmnkejghkeaaGreatDoorPk5
set_option linter.unusedSimpArgs false
set_option linter.unusedVariables false
set_option maxRecDepth 100000
namespace Go.Bf
open Go Go.Ab Go.Proofs.YtelkmnkejghkeaaGreatDoor
def mB(r:jk):List AV:=[.i r.err,aN r.mark,.b r.glass,.i r.val.kind,.i r.val.n,.s r.val.s,.b r.hidden,.i r.at_]
def sS(d:oA):List AV:=opC d.op++ [.i d.version,aN d.mark,.b d.glass,ay d.obls]
def ov:List AV:=[.i 0,.v (.complex .f64 0 0),.b false,.i 0,.i 0,.s [],.b false,.i 0]
def j7(x:an×jk×oA×Int):AV:=.tup [cG x.1,.agg (mB x.2.1),.agg (sS x.2.2.1),.i x.2.2.2]
theorem Bh{cs ds:List aM}(h:ds.map (·.id)=cs.map (·.id))(id:Txt):findD ds id=findD cs id:=by
 have e:∀l:List aM,findD l id=(l.map (·.id)).findIdx fun x=>geB x id:=fun l=>by
  rw[List.findIdx_map];rfl
 rw[e,e,h]
theorem MN(id:Txt):geB id id=true:=by
 have:Op.bytesLess id id=false:=by simpa[lt]using lt_irrefl id
 simp[geB,this]
theorem JK{s:an}{o:OpD}(hr:bI s o=0):findD (cR aQ s o).cases o.case=findD s.cases o.case:=by
 unfold cR;rw[if_pos hr];unfold doD
 by_cases k1:o.kind=1
 ·simp only[k1,if_true]
  obtain⟨f,ef⟩:∃f,findD s.cases o.case=f:=⟨_,rfl⟩;have hf:f≤s.cases.length:=by rw[←ef];exact List.findIdx_le_length
  rw[ef];refine(List.findIdx_eq aeD).2 ⟨?_,fun j hj=>?_⟩
  ·have:((List.take f s.cases++ [jG s ⟨o.case,o.subj,jV,[],[]⟩ o.subj [110,101,119]]++List.drop f s.cases)[f]?)=some (jG s ⟨o.case,o.subj,jV,[],[]⟩ o.subj [110,101,119]):=by
    grind
   rw[(List.getElem_eq_iff _).2 this];exact MN _
  ·have hj2:j<s.cases.length:=by omega
   have:((List.take f s.cases++ [jG s ⟨o.case,o.subj,jV,[],[]⟩ o.subj [110,101,119]]++List.drop f s.cases)[j]?)=some s.cases[j]:=by
    grind
   rw[(List.getElem_eq_iff _).2 this];have h3:j<s.cases.findIdx fun c=>geB c.id o.case:=by grind [findD]
   simpa using List.not_of_lt_findIdx h3
 ·by_cases k3:o.kind=3
  ·simp only[k3,show¬(3:Int)=1 by decide,if_false,if_true]
   exact Bh (kW (f:=fun c=>jG s {c with fields:=eO c.fields o.field o.val} o.subj [119,114,105,116,101]) (g:=fun c:aM=>c.id) fun c=>rfl) _
  ·by_cases k4:o.kind=4
   ·simp only[k4,show¬(4:Int)=1 by decide,show¬(4:Int)=3 by decide,if_false,if_true]
    exact Bh (kW (f:=fun c=>jG s {c with state:=o.to} o.subj o.to) (g:=fun c:aM=>c.id) fun c=>rfl) _
   grind
theorem Pv{k:Nat}{s:an}{o:OpD}(h:dI k s)(hr:bI s o=0)(hx:iX (cR aQ s o).cases o.case<(cR aQ s o).cases.length):findD s.cases o.case=iX (cR aQ s o).cases o.case:=by rw[←JK hr];exact GD (qj o h).asc hx
theorem KL{t:Txt}(h:(aQ t).2.1=0):(aQ t).2.2=0:=by
 unfold aQ at h⊢;cases hl:pR t with
 |bad e a=>
  rw[hl]at h;simp only at h;have:=(ur hl).1;omega
 |ok ts=>
  simp only[zF]at h⊢
  grind
end Go.Bf
namespace Go.Proofs.YtelkmnkejghkeaaGreatDoor
open Go Go.Ab Go.Bf Tryz
variable {g h H:Heap}{S s:an}{k j:Nat}
theorem KO(c:aM):cI (cu c)=true:=by simp[cu,nU,cI,gE,gI,tf,bn (f:=bN) (fun _=>rfl),bn (f:=iW) (fun _=>rfl)]
theorem S0(s:an):Frz g h (cG s) (cG s):=by
 have:=vu (g:=g) (h:=h) (s:=s) (y1:=gw s.cases) (y2:=kR s.reviews) (y3:=lU s.notices) (y4:=eJ s.roles) (.pure (by grind [gw,cI,bn,KO])) (.pure (by simp only[kR,cI];exact bn (fun _=>rfl) _)) (.pure (by simp only[lU,cI];exact bn (fun _=>rfl) _)) (.pure (by simp only[eJ,cI];exact bn (fun _=>rfl) _))
 exact afk
theorem ML(l:List cB)(q:Perm):Frz g h (.sl (l.map bl) q) (ay l):=.sl _ _ _ rfl aeC fun i h1 h2 j h3 h4=>by
 refine .pure ?_;have:cI (l.map bl)[i]=true:=aeQ;exact oh this _ aeJ
theorem Bj{x:AV}(r:jk)(d:oA)(e:Int)(a:Frz g h x (cG S))(q:Perm):Frz g h (.tup [x,.agg (mB r),.agg (opC d.op++ [.i d.version,aN d.mark,.b d.glass,.sl (d.obls.map bl) q]),.i e]) (j7 (S,r,d,e)):=by
 refine .tup _ _ rfl fun i h1 h2=>?_
 rcases i with _|_|_|_|i
 ·exact a
 ·exact aeW
 ·refine .agg _ _ aeR fun j h3 h4=>?_
  rcases j with _|_|_|_|_|_|_|_|_|_|_|_|_|_|_|_|j
  ·exact aeW
  ·exact aeW
  ·exact aeW
  ·exact aeW
  ·exact aeW
  ·exact aeW
  ·exact aeW
  ·exact aeW
  ·exact aeW
  ·exact aeW
  ·exact aeW
  ·exact aeW
  ·exact aeW
  ·exact aeW
  ·exact aeW
  ·exact ML d.obls q
  ·simp[opC]at h3;omega
 ·exact aeW
 grind
theorem GSt.put(hG:GSt g H k s j){i:Nat}(hi:i≠k)(hgi:g i≠none)(b:Blk):GSt (upd g i (some b)) (upd H i (some b)) k s j:=by
 obtain⟨y1,y2,y3,y4,hk,ho,hgk,hfr⟩:=hG;refine⟨y1,y2,y3,y4,afe,(ho.more (g:=upd g i (some b)) fun q hq _=>afe).keep fun q hq _=>ag _ _ fun e=>?_,afe,fun q c hq hc=>?_⟩
 ·grind [ah]
 grind [ah,ag]
theorem GSt.at(hG:GSt g H k s j){i:Nat}{b:Blk}(hi:i≠k)(hb:g i=some b):H i=some b:=by
 obtain⟨_,_,_,_,_,_,_,hfr⟩:=hG
 grind
theorem GSt.sub{f:Heap}(hG:GSt g H k s j)(hs:Ab.Sub f g)(hk:f k=none):Ab.Sub f H:=fun i b hi=>by
 obtain⟨_,_,_,_,_,_,_,hfr⟩:=hG;exact hfr i b aeD (hs i b hi)
theorem GSt.same{H':Heap}(hG:GSt g H k s j)(hs:Ab.Sub H H'):GSt g H' k s j:=by
 obtain⟨y1,y2,y3,y4,hk,ho,hgk,hfr⟩:=hG;exact⟨y1,y2,y3,y4,hs _ _ hk,ho.keep fun q _ hne=>by
  cases hh:H q with
  |none=>grind
  |some b=>exact hs _ _ hh,hgk,fun i b hi hb=>hs _ _ (hfr i b hi hb)⟩
theorem rQ{pid:Txt}{pset:Bool}{palg:Int}{ptgt:gv}{prules:List cQ}{pkids:List bD}{pobls:List cB}(hpp:s.policy= .mk pid pset palg ptgt prules pkids pobls)(y1 y2 y3 y4:AV):stC s y1 y2 y3 y4= [.i s.tick,y1,y2,y3,y4,.s pid,.b pset,.i palg,.sl (ptgt.map cV) .no,.sl (prules.map aC) .no,.sl (pkids.map aO) .no,.sl (pobls.map bl) .no,.i s.version]:=by simp[stC,hpp,gq,bf,aV,ay]
theorem NS(p:bD):∃a b c d e f g,p= .mk a b c d e f g:=by cases p;simp
theorem nu(s:an)(hG:gG k s)(hk:k≤1000)(o:OpD)(ho:oC o)(h:Heap)(he:iB h):ai prog 14 [cG s,opA o] h fun r h' =>r=j7 (aE s o)∧h' =h:=
 ai.freeze fun g hg _=>by
 replace he:=he.sub hg;obtain⟨pid,pset,palg,ptgt,prules,pkids,pobls,hpp⟩:∃a b c d e f g,s.policy= .mk a b c d e f g:=by cases s.policy;exact⟨_,_,_,_,_,_,_,rfl⟩
 have hst:cG s= .agg [.i s.tick,.sl (s.cases.map cu) .no,.sl (s.reviews.map jb) .no,.sl (s.notices.map nO) .no,.sl (s.roles.map eW) .no,.s pid,.b pset,.i palg,.sl (ptgt.map cV) .no,.sl (prules.map aC) .no,.sl (pkids.map aO) .no,.sl (pobls.map bl) .no,.i s.version]:=by
  simp[cG,gq,hpp,gw,kR,lU,eJ,bf,aV,ay]
 rw[hst];refine ai.of_wp hU func14 rfl aeF 131 rfl [.cell 4 41,.cell 5 57,.cell 6 59,.tmp 7] rfl (aer rfl) ?_;refine .one hU hm ?_;simp only[go_sem,opA,opC];intro i2 h2;simp only[go_sem];obtain⟨H2,e2⟩:∃H2,upd g i2 (some (.obj [.i s.tick,.sl (s.cases.map cu) .no,.sl (s.reviews.map jb) .no,.sl (s.notices.map nO) .no,.sl (s.roles.map eW) .no,.s pid,.b pset,.i palg,.sl (ptgt.map cV) .no,.sl (prules.map aC) .no,.sl (pkids.map aO) .no,.sl (pobls.map bl) .no,.i s.version] 41))=H2:=⟨_,rfl⟩;have s2:Ab.Sub g H2:=by rw[←e2];exact .aj h2
 have b2:H2 i2=some (.obj [.i s.tick,.sl (s.cases.map cu) .no,.sl (s.reviews.map jb) .no,.sl (s.notices.map nO) .no,.sl (s.roles.map eW) .no,.s pid,.b pset,.i palg,.sl (ptgt.map cV) .no,.sl (prules.map aC) .no,.sl (pkids.map aO) .no,.sl (pobls.map bl) .no,.i s.version] 41):=by rw[←e2,ah]
 have q2:g i2=none:=h2;have sg:Ab.Sub g H2:=s2;rw[e2];clear e2;intro i3 h3;simp only[go_sem];obtain⟨H3,e3⟩:∃H3,upd H2 i3 (some (.obj [.i o.kind,.s o.subj,.s o.case,.s o.field,.s o.to,.i o.val.kind,.i o.val.n,.s o.val.s,.i o.review,.s o.text,.s o.reason,.b o.glass] 50))=H3:=⟨_,rfl⟩;have s3:Ab.Sub H2 H3:=by rw[←e3];exact .aj h3
 have n3_2:i3≠i2:=fun e=>by rw[e,b2]at h3;cases h3
 replace b2:=s3 _ _ b2;have b3:H3 i3=some (.obj [.i o.kind,.s o.subj,.s o.case,.s o.field,.s o.to,.i o.val.kind,.i o.val.n,.s o.val.s,.i o.review,.s o.text,.s o.reason,.b o.glass] 50):=by rw[←e3,ah]
 have q3:g i3=none:=sg.none h3;have sg:Ab.Sub g H3:=sg.trans s3;rw[e3];clear e3;intro i4 h4;simp only[go_sem];obtain⟨H4,e4⟩:∃H4,upd H3 i4 (some (.obj [.i 0,.sl [] .full,.sl [] .full,.sl [] .full,.sl [] .full,.s [],.b false,.i 0,.sl [] .full,.sl [] .full,.sl [] .full,.sl [] .full,.i 0] 41))=H4:=⟨_,rfl⟩;have s4:Ab.Sub H3 H4:=by rw[←e4];exact .aj h4
 have n4_2:i4≠i2:=fun e=>by rw[e,b2]at h4;cases h4
 have n4_3:i4≠i3:=fun e=>by rw[e,b3]at h4;cases h4
 replace b2:=s4 _ _ b2;replace b3:=s4 _ _ b3;have b4:H4 i4=some (.obj [.i 0,.sl [] .full,.sl [] .full,.sl [] .full,.sl [] .full,.s [],.b false,.i 0,.sl [] .full,.sl [] .full,.sl [] .full,.sl [] .full,.i 0] 41):=by rw[←e4,ah]
 have q4:g i4=none:=sg.none h4;have sg:Ab.Sub g H4:=sg.trans s4;rw[e4];clear e4;intro i5 h5;simp only[go_sem];obtain⟨H5,e5⟩:∃H5,upd H4 i5 (some (.obj [.i 0,.v (.complex .f64 0 0),.b false,.i 0,.i 0,.s [],.b false,.i 0] 57))=H5:=⟨_,rfl⟩;have s5:Ab.Sub H4 H5:=by rw[←e5];exact .aj h5
 have n5_2:i5≠i2:=fun e=>by rw[e,b2]at h5;cases h5
 have n5_3:i5≠i3:=fun e=>by rw[e,b3]at h5;cases h5
 have n5_4:i5≠i4:=fun e=>by rw[e,b4]at h5;cases h5
 replace b2:=s5 _ _ b2;replace b3:=s5 _ _ b3;replace b4:=s5 _ _ b4;have b5:H5 i5=some (.obj [.i 0,.v (.complex .f64 0 0),.b false,.i 0,.i 0,.s [],.b false,.i 0] 57):=by rw[←e5,ah]
 have q5:g i5=none:=sg.none h5;have sg:Ab.Sub g H5:=sg.trans s5;rw[e5];clear e5;intro i6 h6;simp only[go_sem];obtain⟨H6,e6⟩:∃H6,upd H5 i6 (some (.obj [.i 0,.s [],.s [],.s [],.s [],.i 0,.i 0,.s [],.i 0,.s [],.s [],.b false,.i 0,.v (.complex .f64 0 0),.b false,.sl [] .full] 59))=H6:=⟨_,rfl⟩;have s6:Ab.Sub H5 H6:=by rw[←e6];exact .aj h6
 have n6_2:i6≠i2:=fun e=>by rw[e,b2]at h6;cases h6
 have n6_3:i6≠i3:=fun e=>by rw[e,b3]at h6;cases h6
 have n6_4:i6≠i4:=fun e=>by rw[e,b4]at h6;cases h6
 have n6_5:i6≠i5:=fun e=>by rw[e,b5]at h6;cases h6
 replace b2:=s6 _ _ b2;replace b3:=s6 _ _ b3;replace b4:=s6 _ _ b4;replace b5:=s6 _ _ b5;have b6:H6 i6=some (.obj [.i 0,.s [],.s [],.s [],.s [],.i 0,.i 0,.s [],.i 0,.s [],.s [],.b false,.i 0,.v (.complex .f64 0 0),.b false,.sl [] .full] 59):=by rw[←e6,ah]
 have q6:g i6=none:=sg.none h6;have sg:Ab.Sub g H6:=sg.trans s6;rw[e6];clear e6;refine WP.Of hU hm 0 (fun(_:Nat) (ρ:Env) (H' :Heap)=>∃(e a:Int),Ab.Sub g H'∧H' i2=some (.obj [.i s.tick,.sl (s.cases.map cu) .no,.sl (s.reviews.map jb) .no,.sl (s.notices.map nO) .no,.sl (s.roles.map eW) .no,.s pid,.b pset,.i palg,.sl (ptgt.map cV) .no,.sl (prules.map aC) .no,.sl (pkids.map aO) .no,.sl (pobls.map bl) .no,.i s.version] 41)∧H' i4=some (.obj [.i 0,.sl [] .full,.sl [] .full,.sl [] .full,.sl [] .full,.s [],.b false,.i 0,.sl [] .full,.sl [] .full,.sl [] .full,.sl [] .full,.i 0] 41)∧H' i5=some (.obj [.i 0,.v (.complex .f64 0 0),.b false,.i 0,.i 0,.s [],.b false,.i 0] 57)∧H' i6=some (.obj [.i 0,.s [],.s [],.s [],.s [],.i 0,.i 0,.s [],.i 0,.s [],.s [],.b false,.i 0,.v (.complex .f64 0 0),.b false,.sl [] .full] 59)∧lk ρ 2=some (.ptr i2 0)∧lk ρ 4=some (.ptr i4 0)∧lk ρ 5=some (.ptr i5 0)∧lk ρ 6=some (.ptr i6 0)∧lk ρ 12=some (.i e)∧lk ρ 13=some (.i a)∧aE s o=(s,⟨e,naM,false,aq,false,a⟩,yg,e)) rfl ?_ ?_
 ·rintro m ρ H' ⟨e,a,sg',b2,b4,b5,b6,r2,r4,r5,r6,r12,r13,hgd⟩
  refine .vc hU hm ?_;simp only[go_sem,r2,r4,r5,r6,r12,r13,b2,b4,b5,b6,ak,n5_4,n5_4.symm,n6_4,n6_4.symm,n6_5,n6_5.symm];refine .mk _ (.refl _) (.refl _) ⟨((sg'.put q4 _).put q5 _).put q6 _,_,?_,rfl⟩;rw[hgd];exact Bj (S:=s) ⟨e,naM,false,aq,false,a⟩ yg e (by rw[←hst];exact S0 s) .full
 intro _;refine .one hU hm ?_;simp only[go_sem];intro i8 h8;simp only[go_sem];obtain⟨H8,e8⟩:∃H8,upd H6 i8 (some (.obj [.v (.complex .f64 0 0),.sl [] .full] 103))=H8:=⟨_,rfl⟩;have s8:Ab.Sub H6 H8:=by rw[←e8];exact .aj h8
 have n8_2:i8≠i2:=fun e=>by rw[e,b2]at h8;cases h8
 have n8_3:i8≠i3:=fun e=>by rw[e,b3]at h8;cases h8
 have n8_4:i8≠i4:=fun e=>by rw[e,b4]at h8;cases h8
 have n8_5:i8≠i5:=fun e=>by rw[e,b5]at h8;cases h8
 have n8_6:i8≠i6:=fun e=>by rw[e,b6]at h8;cases h8
 replace b2:=s8 _ _ b2;replace b3:=s8 _ _ b3;replace b4:=s8 _ _ b4;replace b5:=s8 _ _ b5;replace b6:=s8 _ _ b6;have b8:H8 i8=some (.obj [.v (.complex .f64 0 0),.sl [] .full] 103):=by rw[←e8,ah]
 have q8:g i8=none:=sg.none h8;have sg:Ab.Sub g H8:=sg.trans s8;rw[e8];clear e8;refine .one hU hm ?_;simp only[go_sem];intro i9 h9;simp only[go_sem];obtain⟨H9,e9⟩:∃H9,upd H8 i9 (some (.obj [.i 0,.v (.complex .f64 0 0),.b false,.i 0,.i 0,.s [],.b false,.i 0] 57))=H9:=⟨_,rfl⟩;have s9:Ab.Sub H8 H9:=by rw[←e9];exact .aj h9
 have n9_2:i9≠i2:=fun e=>by rw[e,b2]at h9;cases h9
 have n9_3:i9≠i3:=fun e=>by rw[e,b3]at h9;cases h9
 have n9_4:i9≠i4:=fun e=>by rw[e,b4]at h9;cases h9
 have n9_5:i9≠i5:=fun e=>by rw[e,b5]at h9;cases h9
 have n9_6:i9≠i6:=fun e=>by rw[e,b6]at h9;cases h9
 have n9_8:i9≠i8:=fun e=>by rw[e,b8]at h9;cases h9
 replace b2:=s9 _ _ b2;replace b3:=s9 _ _ b3;replace b4:=s9 _ _ b4;replace b5:=s9 _ _ b5;replace b6:=s9 _ _ b6;replace b8:=s9 _ _ b8;have b9:H9 i9=some (.obj [.i 0,.v (.complex .f64 0 0),.b false,.i 0,.i 0,.s [],.b false,.i 0] 57):=by rw[←e9,ah]
 have q9:g i9=none:=sg.none h9;have sg:Ab.Sub g H9:=sg.trans s9;rw[e9];clear e9;refine .one hU hm ?_;simp only[go_sem];intro i10 h10;simp only[go_sem];obtain⟨H10,e10⟩:∃H10,upd H9 i10 (some (.obj [.i 0,.sl [] .full,.sl [] .full,.sl [] .full,.sl [] .full,.s [],.b false,.i 0,.sl [] .full,.sl [] .full,.sl [] .full,.sl [] .full,.i 0] 41))=H10:=⟨_,rfl⟩;have s10:Ab.Sub H9 H10:=by rw[←e10];exact .aj h10
 have n10_2:i10≠i2:=fun e=>by rw[e,b2]at h10;cases h10
 have n10_3:i10≠i3:=fun e=>by rw[e,b3]at h10;cases h10
 have n10_4:i10≠i4:=fun e=>by rw[e,b4]at h10;cases h10
 have n10_5:i10≠i5:=fun e=>by rw[e,b5]at h10;cases h10
 have n10_6:i10≠i6:=fun e=>by rw[e,b6]at h10;cases h10
 have n10_8:i10≠i8:=fun e=>by rw[e,b8]at h10;cases h10
 have n10_9:i10≠i9:=fun e=>by rw[e,b9]at h10;cases h10
 replace b2:=s10 _ _ b2;replace b3:=s10 _ _ b3;replace b4:=s10 _ _ b4;replace b5:=s10 _ _ b5;replace b6:=s10 _ _ b6;replace b8:=s10 _ _ b8;replace b9:=s10 _ _ b9;have b10:H10 i10=some (.obj [.i 0,.sl [] .full,.sl [] .full,.sl [] .full,.sl [] .full,.s [],.b false,.i 0,.sl [] .full,.sl [] .full,.sl [] .full,.sl [] .full,.i 0] 41):=by rw[←e10,ah]
 have q10:g i10=none:=sg.none h10;have sg:Ab.Sub g H10:=sg.trans s10;rw[e10];clear e10;refine .one hU hm ?_;simp only[go_sem];have hrd:=fun G=>E8 (rdS G s) o hG.few ho.2.2.2 hG.HF
 have hpa:=fun(G:Heap) (hs:Ab.Sub g G)=>zG o.text G (he.sub hs)
 rw[hst]at hrd;simp only[opA,opC]at hrd;refine .one hU hm ?_;simp only[go_sem,b2,b3];refine(hrd _).pthen ?_;simp only[go_sem];refine .cut (fun ρ H' =>H' =H10∧lk ρ 2=some (.ptr i2 0)∧lk ρ 3=some (.ptr i3 0)∧lk ρ 4=some (.ptr i4 0)∧lk ρ 5=some (.ptr i5 0)∧lk ρ 6=some (.ptr i6 0)∧lk ρ 8=some (.ptr i8 0)∧lk ρ 9=some (.ptr i9 0)∧lk ρ 10=some (.ptr i10 0)∧lk ρ 11=some (.b false)∧lk ρ 12=some (.v (.int .i64 (jL s o).1))∧lk ρ 13=some (.v (.int .i64 (jL s o).2))) ?_ ?_
 ·refine .vc hU hm ?_
  cases dr:(bI s o==0)
  ·have er:bI s o≠0:=by simpa using dr
   have ep:jL s o=(bI s o,0):=by unfold jL;rw[if_neg fun hh=>er hh.1]
   simp only[go_sem,dr];refine⟨rfl,?_,?_,?_,?_,?_,?_,?_,?_,?_,?_,?_⟩<;>simp only[go_sem,ep]
  have er:bI s o=0:=by simpa using dr
  cases d7:(o.kind==7)
  ·have e7:o.kind≠7:=by simpa using d7
   have ep:jL s o=(bI s o,0):=by unfold jL;rw[if_neg fun hh=>e7 hh.2]
   simp only[go_sem,b3,dr,d7];refine⟨rfl,?_,?_,?_,?_,?_,?_,?_,?_,?_,?_,?_⟩<;>simp only[go_sem,ep]
  ·have e7:o.kind=7:=by simpa using d7
   have ep:jL s o=((aQ o.text).2.1,(aQ o.text).2.2):=by unfold jL;rw[if_pos ⟨er,e7⟩]
   simp only[go_sem,b3,dr,d7];refine(hpa _ sg).pthen ?_;obtain⟨⟨pp,e,a⟩,epp⟩:∃x,aQ o.text=x:=⟨_,rfl⟩;rw[epp]at ep;simp only[go_sem,ku,epp];refine⟨rfl,?_,?_,?_,?_,?_,?_,?_,?_,?_,?_,?_⟩<;>simp only[go_sem,ep]
 rintro ρ H' ⟨rfl,r2,r3,r4,r5,r6,r8,r9,r10,r11,r12,r13⟩
 refine .one hU hm ?_;cases de:((jL s o).1 !=0)
 case true=>
  have ee:(jL s o).1≠0:=by simpa using de
  simp only[go_sem,r2,r4,r5,r6,r12,r13,de];exact⟨0,(jL s o).1,(jL s o).2,sg,b2,b4,b5,b6,rfl,rfl,by unfold aE;rw[if_pos ee]⟩
 have ee:(jL s o).1=0:=by simpa using de
 simp only[go_sem,r12,de];obtain⟨hr0,hform,hpar⟩:=rH ee;have hfg:=L0 (Jt hG.todI hform);have hask:=fun G=>Ss (rdS G s) o hG.few ho.1
 have hdec:=fun G=>Eh s.policy hG.pol (fQ s o) hfg G
 have hm6:=xT (fQ s o) s.policy;have hol:=DR (fQ s o) hG.mM;have hmk:fR s o=fN (fQ s o) s.policy:=rfl;obtain⟨⟨m,ob⟩,em⟩:∃x,fN (fQ s o) s.policy=x:=⟨_,rfl⟩;rw[em]at hdec hm6 hol hmk;simp only at hm6 hol;rw[hpp]at hdec;simp only[aO,aV,ay,bf,bJ,rsA,aN]at hdec;rw[hst]at hask;simp only[opA,opC,bJ]at hask;have p2:=(bC (H:=H') (l:=[i2,i3]) (show i2∈ [i2,i3] by simp)).trans b2
 have p3:=(bC (H:=H') (l:=[i2,i3]) (show i3∈ [i2,i3] by simp)).trans b3
 refine .one hU hm ?_;simp only[go_sem];refine .calls (pick H' [i2,i3]) [0,1,2,3,4,5,6,7,8,9,10] bS aeF rfl ?_;simp only[go_sem,r2,r3,p2,p3];refine(hask _).pthen ?_;refine⟨bS,?_⟩;simp only[go_sem];refine(hdec _).pthen ?_;refine⟨bS,?_⟩;simp only[go_sem,r8,b8];refine⟨bS.put (by simp[pick,n8_2,n8_3]) _,?_⟩
 obtain⟨H11,eH11⟩:∃H11,upd H' i8 (some (.obj [.v (.complex .f64 (hbit m.1) (hbit m.2)),.sl (ob.map bl) .no] 103))=H11:=⟨_,rfl⟩;replace b2:H11 i2=some (.obj [.i s.tick,.sl (s.cases.map cu) .no,.sl (s.reviews.map jb) .no,.sl (s.notices.map nO) .no,.sl (s.roles.map eW) .no,.s pid,.b pset,.i palg,.sl (ptgt.map cV) .no,.sl (prules.map aC) .no,.sl (pkids.map aO) .no,.sl (pobls.map bl) .no,.i s.version] 41):=by rw[←eH11,ag _ _ n8_2.symm];exact b2
 replace b3:H11 i3=some (.obj [.i o.kind,.s o.subj,.s o.case,.s o.field,.s o.to,.i o.val.kind,.i o.val.n,.s o.val.s,.i o.review,.s o.text,.s o.reason,.b o.glass] 50):=by rw[←eH11,ag _ _ n8_3.symm];exact b3
 replace b4:H11 i4=some (.obj [.i 0,.sl [] .full,.sl [] .full,.sl [] .full,.sl [] .full,.s [],.b false,.i 0,.sl [] .full,.sl [] .full,.sl [] .full,.sl [] .full,.i 0] 41):=by rw[←eH11,ag _ _ n8_4.symm];exact b4
 replace b5:H11 i5=some (.obj [.i 0,.v (.complex .f64 0 0),.b false,.i 0,.i 0,.s [],.b false,.i 0] 57):=by rw[←eH11,ag _ _ n8_5.symm];exact b5
 replace b6:H11 i6=some (.obj [.i 0,.s [],.s [],.s [],.s [],.i 0,.i 0,.s [],.i 0,.s [],.s [],.b false,.i 0,.v (.complex .f64 0 0),.b false,.sl [] .full] 59):=by rw[←eH11,ag _ _ n8_6.symm];exact b6
 replace b9:H11 i9=some (.obj [.i 0,.v (.complex .f64 0 0),.b false,.i 0,.i 0,.s [],.b false,.i 0] 57):=by rw[←eH11,ag _ _ n9_8];exact b9
 replace b10:H11 i10=some (.obj [.i 0,.sl [] .full,.sl [] .full,.sl [] .full,.sl [] .full,.s [],.b false,.i 0,.sl [] .full,.sl [] .full,.sl [] .full,.sl [] .full,.i 0] 41):=by rw[←eH11,ag _ _ n10_8];exact b10
 replace b8:H11 i8=some (.obj [.v (.complex .f64 (hbit m.1) (hbit m.2)),.sl (ob.map bl) .no] 103):=by rw[←eH11,ah]
 replace sg:Ab.Sub g H11:=by rw[←eH11];exact sg.put q8 _
 rw[eH11];clear eH11;have hbr:=fun G=>Jw s o m hm6.m9 (by have:=hG.nr;omega) (by have:=hG.roles;omega) hG.tick hG.ticks G
 rw[hst]at hbr;simp only[opA,opC,aN]at hbr;obtain⟨gl,egl⟩:∃gl,rW s o m=gl:=⟨_,rfl⟩;have hgl:dY s o=gl:=by unfold dY;rw[hmk];exact egl
 rw[egl]at hbr;have p2:=(bC (H:=H11) (l:=[i2,i3,i8]) (show i2∈ [i2,i3,i8] by simp)).trans b2
 have p3:=(bC (H:=H11) (l:=[i2,i3,i8]) (show i3∈ [i2,i3,i8] by simp)).trans b3
 have p8:=(bC (H:=H11) (l:=[i2,i3,i8]) (show i8∈ [i2,i3,i8] by simp)).trans b8
 refine .one hU hm ?_;simp only[go_sem];refine .stage (pick H11 [i2,i3,i8]) [0,1,2,3,4,5,7,6] [8,9,10] bS aeF ?_;simp only[go_sem,r2,r3,r8,r9,p2,p3,p8];refine(hbr _).pthen ?_;refine⟨bS,cS,fun _ _ e=>ae2,?_⟩
 simp only[go_sem,r9,b9];refine⟨fun _ _ e=>ae2,fun _ _ e=>ae2,?_⟩
 obtain⟨H12,eH12⟩:∃H12,upd H11 i9 (some (.obj [.i 0,.v (.complex .f64 (hbit m.1) (hbit m.2)),.b gl,.i 0,.i 0,.s [],.b false,.i 0] 57))=H12:=⟨_,rfl⟩;replace b2:H12 i2=some (.obj [.i s.tick,.sl (s.cases.map cu) .no,.sl (s.reviews.map jb) .no,.sl (s.notices.map nO) .no,.sl (s.roles.map eW) .no,.s pid,.b pset,.i palg,.sl (ptgt.map cV) .no,.sl (prules.map aC) .no,.sl (pkids.map aO) .no,.sl (pobls.map bl) .no,.i s.version] 41):=by rw[←eH12,ag _ _ n9_2.symm];exact b2
 replace b3:H12 i3=some (.obj [.i o.kind,.s o.subj,.s o.case,.s o.field,.s o.to,.i o.val.kind,.i o.val.n,.s o.val.s,.i o.review,.s o.text,.s o.reason,.b o.glass] 50):=by rw[←eH12,ag _ _ n9_3.symm];exact b3
 replace b4:H12 i4=some (.obj [.i 0,.sl [] .full,.sl [] .full,.sl [] .full,.sl [] .full,.s [],.b false,.i 0,.sl [] .full,.sl [] .full,.sl [] .full,.sl [] .full,.i 0] 41):=by rw[←eH12,ag _ _ n9_4.symm];exact b4
 replace b5:H12 i5=some (.obj [.i 0,.v (.complex .f64 0 0),.b false,.i 0,.i 0,.s [],.b false,.i 0] 57):=by rw[←eH12,ag _ _ n9_5.symm];exact b5
 replace b6:H12 i6=some (.obj [.i 0,.s [],.s [],.s [],.s [],.i 0,.i 0,.s [],.i 0,.s [],.s [],.b false,.i 0,.v (.complex .f64 0 0),.b false,.sl [] .full] 59):=by rw[←eH12,ag _ _ n9_6.symm];exact b6
 replace b8:H12 i8=some (.obj [.v (.complex .f64 (hbit m.1) (hbit m.2)),.sl (ob.map bl) .no] 103):=by rw[←eH12,ag _ _ n9_8.symm];exact b8
 replace b10:H12 i10=some (.obj [.i 0,.sl [] .full,.sl [] .full,.sl [] .full,.sl [] .full,.s [],.b false,.i 0,.sl [] .full,.sl [] .full,.sl [] .full,.sl [] .full,.i 0] 41):=by rw[←eH12,ag _ _ n10_9];exact b10
 replace b9:H12 i9=some (.obj [.i 0,.v (.complex .f64 (hbit m.1) (hbit m.2)),.b gl,.i 0,.i 0,.s [],.b false,.i 0] 57):=by rw[←eH12,ah]
 replace sg:Ab.Sub g H12:=by rw[←eH12];exact sg.put q9 _
 rw[eH12];clear eH12;obtain⟨dn,edn⟩:∃dn,(decide (m=aY)||gl)=dn:=⟨_,rfl⟩
 have hdn:sU s o=dn:=by unfold sU;rw[hmk,hgl];exact edn
 have pe:=(nb hm6.m9).pe;refine .cut (fun ρ H' =>H' =H12∧lk ρ 2=some (.ptr i2 0)∧lk ρ 3=some (.ptr i3 0)∧lk ρ 4=some (.ptr i4 0)∧lk ρ 5=some (.ptr i5 0)∧lk ρ 6=some (.ptr i6 0)∧lk ρ 8=some (.ptr i8 0)∧lk ρ 9=some (.ptr i9 0)∧lk ρ 10=some (.ptr i10 0)∧lk ρ 11=some (.b dn)∧lk ρ 13=some (.v (.int .i64 (jL s o).2))) ?_ ?_
 ·refine .vc hU hm ?_
  cases dp:(m==aY)
  ·have e1:decide (m=aY)=false:=decide_eq_false (by simpa using dp)
   rw[e1,Bool.false_or]at edn;simp only[go_sem,r8,r9,b8,b9,pe,dp];refine⟨rfl,?_,?_,?_,?_,?_,?_,?_,?_,?_,?_⟩<;>simp only[go_sem,r2,r3,r4,r5,r6,r8,r9,r10,r13,edn]
  ·have e1:decide (m=aY)=true:=decide_eq_true (by simpa using dp)
   rw[e1,Bool.true_or]at edn;simp only[go_sem,r8,b8,pe,dp];refine⟨rfl,?_,?_,?_,?_,?_,?_,?_,?_,?_,?_⟩<;>simp only[go_sem,r2,r3,r4,r5,r6,r8,r9,r10,r13,edn]
 clear r2 r3 r4 r5 r6 r8 r9 r10 r11 r12 r13
 rintro ρ H' ⟨rfl,r2,r3,r4,r5,r6,r8,r9,r10,r11,r13⟩
 have how:=fun G=>PG s hG.few G
 rw[hst]at how;refine .one hU hm ?_;simp only[go_sem,r2,b2];refine(how _).mono fun r H13 ⟨y1,y2,y3,er,hown,hs13⟩=>?_
 subst er;rw[rQ hpp];simp only[eJ];simp only[go_sem,r10,hs13 _ _ b10];obtain⟨H14,e14⟩:∃H14,upd H13 i10 (some (.obj [.i s.tick,y1,y2,y3,.sl (s.roles.map eW) .no,.s pid,.b pset,.i palg,.sl (ptgt.map cV) .no,.sl (prules.map aC) .no,.sl (pkids.map aO) .no,.sl (pobls.map bl) .no,.i s.version] 41))=H14:=⟨_,rfl⟩;have hS:GSt H' H14 i10 s s.cases.length:=⟨y1,y2,y3,eJ s.roles,by rw[←e14,ah,rQ hpp];rfl,hown.keep (fun q hq _=>by rw[←e14];exact ag _ _ fun e=>by rw[e,b10]at hq;cases hq),by rw[b10];simp,fun i b hi hb=>by rw[←e14,ag _ _ hi];exact hs13 _ _ hb⟩
 rw[e14];clear e14;have sGB:=sg;have hroom:s.reviews.length≤1000:=hG.nrev;refine .cut (fun ρ H2=>GSt H' H2 i10 (if gl=true then bX s o o.reason else s) s.cases.length∧lk ρ 2=some (.ptr i2 0)∧lk ρ 3=some (.ptr i3 0)∧lk ρ 4=some (.ptr i4 0)∧lk ρ 5=some (.ptr i5 0)∧lk ρ 6=some (.ptr i6 0)∧lk ρ 8=some (.ptr i8 0)∧lk ρ 9=some (.ptr i9 0)∧lk ρ 10=some (.ptr i10 0)∧lk ρ 11=some (.b dn)∧lk ρ 13=some (.v (.int .i64 (jL s o).2))) ?_ ?_
 ·refine .vc hU hm ?_
  have c9:=hS.at n10_9.symm b9;have c3:=hS.at n10_3.symm b3;have hop:=EL hS o o.reason ho.1 aeC;simp only[opA,opC]at hop;cases gl
  ·simp only[go_sem,r9,c9]
   refine⟨hS,?_,?_,?_,?_,?_,?_,?_,?_,?_,?_⟩<;>simp only[go_sem,r2,r3,r4,r5,r6,r8,r9,r10,r11,r13]
  ·simp only[go_sem,r3,r9,r10,c9,c3]
   refine hop.mono fun r H3 h3=>?_
   simp only[go_sem];refine⟨h3,?_,?_,?_,?_,?_,?_,?_,?_,?_,?_⟩<;>simp only[go_sem,r2,r3,r4,r5,r6,r8,r9,r10,r11,r13]
 clear hS r2 r3 r4 r5 r6 r8 r9 r10 r11 r13
 rintro ρ H2 ⟨hS,r2,r3,r4,r5,r6,r8,r9,r10,r11,r13⟩
 have hbd:cL s o=dj (if dn=true then cR aQ (if gl=true then bX s o o.reason else s) o else(if gl=true then bX s o o.reason else s)) o ob dn:=by
  unfold cL;rw[hgl,hdn,hmk]
 have hO1:dI k (if gl=true then bX s o o.reason else s):=by
  split
  ·exact CP o _ hG.todI (by have:=hG.nr;omega)
  ·exact hG.todI
 have hc1:(if gl=true then bX s o o.reason else s).cases=s.cases:=by split<;>rfl
 have hp1:(if gl=true then bX s o o.reason else s).policy= .mk pid pset palg ptgt prules pkids pobls:=by split<;>exact hpp
 have hg1:sF 999 (if gl=true then bX s o o.reason else s):=by
  have h1:=hG.nr;have h2:=hG.nn;have h3:=fun c hc=>(hG.case c hc).log2
  split
  ·exact⟨fun c hc=>by have:=h3 c hc;omega,by simp only[bX,aew,List.length_singleton];omega,by simp only[bX];omega⟩
  ·exact⟨fun c hc=>by have:=h3 c hc;omega,aeC,aeC⟩
 have hr1:bI (if gl=true then bX s o o.reason else s) o=0:=by
  split
  ·rename_i hgt
   have hgo:=yW hform (D5 (hgl.trans hgt));rw[←hr0];unfold bI;have k5:o.kind≠5:=aeC;have k6:o.kind≠6:=aeC;have k8:o.kind≠8:=aeC;simp only[k5,k6,k8,if_false];rfl
  ·exact hr0
 obtain⟨s1,es1⟩:∃s1,(if gl=true then bX s o o.reason else s)=s1:=⟨_,rfl⟩
 rw[es1]at hS hbd hO1 hc1 hp1 hg1 hr1;have hre:nJ s o=⟨if dn=true then 0 else 12,m,gl,if(dn && o.kind==2 && !j8 ob o.field)=true then dU (bw s.cases o.case).fields o.field else aq,dn && o.kind==2 && j8 ob o.field,0⟩:=by
  unfold nJ;rw[hgl,hdn,hmk]
 have hve:=hO1.ver;have b9n:H' i9≠none:=by rw[b9];simp
 refine .cut (fun ρ H3=>lk ρ 2=some (.ptr i2 0)∧lk ρ 3=some (.ptr i3 0)∧lk ρ 4=some (.ptr i4 0)∧lk ρ 5=some (.ptr i5 0)∧lk ρ 6=some (.ptr i6 0)∧lk ρ 8=some (.ptr i8 0)∧lk ρ 9=some (.ptr i9 0)∧lk ρ 10=some (.ptr i10 0)∧lk ρ 11=some (.b dn)∧lk ρ 13=some (.v (.int .i64 (jL s o).2))∧∃(GB:Heap) (j:Nat),GSt GB H3 i10 (if dn=true then cR aQ s1 o else s1) j∧Ab.Sub g GB∧(dn=true→iX (if dn=true then cR aQ s1 o else s1).cases o.case<(if dn=true then cR aQ s1 o else s1).cases.length→o.kind≠6→j=iX (if dn=true then cR aQ s1 o else s1).cases o.case)∧GB i2=some (.obj [.i s.tick,.sl (s.cases.map cu) .no,.sl (s.reviews.map jb) .no,.sl (s.notices.map nO) .no,.sl (s.roles.map eW) .no,.s pid,.b pset,.i palg,.sl (ptgt.map cV) .no,.sl (prules.map aC) .no,.sl (pkids.map aO) .no,.sl (pobls.map bl) .no,.i s.version] 41)∧GB i3=some (.obj [.i o.kind,.s o.subj,.s o.case,.s o.field,.s o.to,.i o.val.kind,.i o.val.n,.s o.val.s,.i o.review,.s o.text,.s o.reason,.b o.glass] 50)∧GB i4=some (.obj [.i 0,.sl [] .full,.sl [] .full,.sl [] .full,.sl [] .full,.s [],.b false,.i 0,.sl [] .full,.sl [] .full,.sl [] .full,.sl [] .full,.i 0] 41)∧GB i5=some (.obj [.i 0,.v (.complex .f64 0 0),.b false,.i 0,.i 0,.s [],.b false,.i 0] 57)∧GB i6=some (.obj [.i 0,.s [],.s [],.s [],.s [],.i 0,.i 0,.s [],.i 0,.s [],.s [],.b false,.i 0,.v (.complex .f64 0 0),.b false,.sl [] .full] 59)∧GB i8=some (.obj [.v (.complex .f64 (hbit m.1) (hbit m.2)),.sl (ob.map bl) .no] 103)∧GB i9=some (.obj [.i (if dn=true then 0 else 12),.v (.complex .f64 (hbit m.1) (hbit m.2)),.b gl,.v (.int .i64 (if(dn && o.kind==2 && !j8 ob o.field)=true then dU (bw s.cases o.case).fields o.field else aq).kind),.v (.int .i64 (if(dn && o.kind==2 && !j8 ob o.field)=true then dU (bw s.cases o.case).fields o.field else aq).n),.s (if(dn && o.kind==2 && !j8 ob o.field)=true then dU (bw s.cases o.case).fields o.field else aq).s,.b (dn && o.kind==2 && j8 ob o.field),.i 0] 57)) ?_ ?_
 ·refine .vc hU hm ?_
  have c9:=hS.at n10_9.symm b9;have c3:=hS.at n10_3.symm b3;have c8:=hS.at n10_8.symm b8;have c2:=hS.at n10_2.symm b2;cases dn
  ·simp only[go_sem,r9,r11,c9]
   refine⟨?_,?_,?_,?_,?_,?_,?_,?_,?_,?_,upd H' i9 _,s.cases.length,hS.put n10_9.symm b9n _,sGB.put q9 _,fun e=>ae2,ahM,ahN,ahO,ahP,ahQ,ahR,ah ..⟩<;>simp only[go_sem,r2,r3,r4,r5,r6,r8,r9,r10,r11,r13]
  ·obtain⟨z1,z2,z3,z4,hk10,hrd⟩:=hS.rd
   have sH2:Ab.Sub g H2:=hS.sub sGB q10;have hdo:=Mx hrd o hO1.few hO1.mM ho.2.2.2 hO1.HF ⟨hve.1,aeC⟩ (he.sub sH2);have hjj:=fun hx (_:o.kind≠6)=>Pv (o:=o) hO1 hr1 hx
   rw[rQ hp1]at hk10 hdo;simp only[opA,opC]at hdo;simp only[go_sem,r3,r10,r11,hk10,c3];refine hdo.mono fun r H3 ⟨hs3,j,hOS,hj⟩=>?_
   have hj:=hj hr1;obtain⟨x1,x2,x3,x4,er,hOP⟩:=hOS.parts;subst er;obtain⟨did,dset,dalg,dtgt,drules,dkids,dobls,hpd⟩:=NS (cR aQ s1 o).policy;rw[rQ hpd];have k10:=hs3 _ _ hk10;obtain⟨H4,e4⟩:∃H4,upd H3 i10 (some (.obj [.v (.int .i64 (cR aQ s1 o).tick),x1,x2,x3,x4,.s did,.b dset,.i dalg,.sl (dtgt.map cV) .no,.sl (drules.map aC) .no,.sl (dkids.map aO) .no,.sl (dobls.map bl) .no,.v (.int .i64 (cR aQ s1 o).version)] 41))=H4:=⟨_,rfl⟩;have hS4:GSt H' H4 i10 (cR aQ s1 o) j:=by
    obtain⟨_,_,_,_,_,_,hgk,hfr⟩:=hS;refine⟨x1,x2,x3,x4,by rw[←e4,ah,rQ hpd],(hOP.keep fun q hq _=>by rw[←e4];exact ag _ _ fun e=>by rw[e,hk10]at hq;cases hq).bL fun q hq=>?_,hgk,fun i b hi hb=>by rw[←e4,ag _ _ hi];exact hs3 _ _ (hfr i b hi hb)⟩
    cases hh:H' q with
    |none=>rfl
    |some b=>
     by_cases e:q=i10
     ·rw[e,hk10]at hq;cases hq
     ·rw[hfr q b e hh]at hq;cases hq
   have d9:=hS4.at n10_9.symm b9;have d3:=hS4.at n10_3.symm b3;have d8:=hS4.at n10_8.symm b8;have d2:=hS4.at n10_2.symm b2;have hjx:true=true→iX (cR aQ s1 o).cases o.case<(cR aQ s1 o).cases.length→o.kind≠6→j=iX (cR aQ s1 o).cases o.case:=fun _ hx h6=>hj.trans (hjj hx h6)
   have hhi:=fun G=>MQ ob aeC o.field G
   simp only[ay]at hhi;have hca:=fun G=>Co (rdS G s) o.case hG.few
   rw[hst]at hca;have hcf:(bw s.cases o.case).fields.length≤1000000000:=by
    unfold bw;split
    ·by_cases hlt:findD s.cases o.case<s.cases.length
     ·rw[show s.cases.getD (findD s.cases o.case) pz=s.cases[findD s.cases o.case] by simp[List.getD,List.getElem?_eq_getElem hlt]]
      have:=(hG.case _ (aex hlt)).nfields;omega
     ·rw[show s.cases.getD (findD s.cases o.case) pz=pz by simp[List.getD,List.getElem?_eq_none (Nat.le_of_not_lt hlt)]]
      exact agH
    ·exact agH
   have hfd:=fun G=>DS (rdC G (bw s.cases o.case)) o.field hcf
   simp only[cu,nU,gI,tf]at hca hfd;simp only[go_sem,r3,r10,k10];rw[e4];clear e4;cases d7:(o.kind==2)
   ·simp only[go_sem,r3,r9,d9,d3,d7,n9_3.symm]
    refine⟨?_,?_,?_,?_,?_,?_,?_,?_,?_,?_,upd H' i9 _,j,hS4.put n10_9.symm b9n _,sGB.put q9 _,(fun _=>hjx rfl),ahM,ahN,ahO,ahP,ahQ,ahR,ah ..⟩<;>simp only[go_sem,r2,r3,r4,r5,r6,r8,r9,r10,r11,r13]
   ·simp only[go_sem,r3,r8,d3,d8,d7]
    refine(hhi _).pthen ?_;cases hh:j8 ob o.field
    ·simp only[go_sem,r2,r3,r9,d9,d3,d2,d7,n9_2.symm,n9_3.symm]
     refine(hca _).pthen ?_;simp only[go_sem];intro i14 h14;have t9:i14≠i9:=fun e=>by rw[e,ah]at h14;cases h14
     have t3:i14≠i3:=fun e=>by rw[e,ag _ _ n9_3.symm,d3]at h14;cases h14
     simp only[go_sem,r3,d3,n9_3.symm,t3.symm];refine(hfd _).pthen ?_;simp only[go_sem,r9,t9.symm,aS];refine⟨?_,?_,?_,?_,?_,?_,?_,?_,?_,?_,upd (upd H' i9 _) i9 _,j,((hS4.put n10_9.symm b9n _).same (.aj h14)).put n10_9.symm (by rw[ah];simp) _,(sGB.put q9 _).put q9 _,(fun _=>hjx rfl),by rw[ag _ _ n9_2.symm,ag _ _ n9_2.symm];exact b2,by rw[ag _ _ n9_3.symm,ag _ _ n9_3.symm];exact b3,by rw[ag _ _ n9_4.symm,ag _ _ n9_4.symm];exact b4,by rw[ag _ _ n9_5.symm,ag _ _ n9_5.symm];exact b5,by rw[ag _ _ n9_6.symm,ag _ _ n9_6.symm];exact b6,by rw[ag _ _ n9_8.symm,ag _ _ n9_8.symm];exact b8,ah ..⟩<;>simp only[go_sem,r2,r3,r4,r5,r6,r8,r9,r10,r11,r13]
    ·simp only[go_sem,r3,r9,d9,d3,d7,n9_3.symm]
     refine⟨?_,?_,?_,?_,?_,?_,?_,?_,?_,?_,upd H' i9 _,j,hS4.put n10_9.symm b9n _,sGB.put q9 _,(fun _=>hjx rfl),ahM,ahN,ahO,ahP,ahQ,ahR,ah ..⟩<;>simp only[go_sem,r2,r3,r4,r5,r6,r8,r9,r10,r11,r13]
 clear hS b2 b3 b4 b5 b6 b8 b9 b10 r2 r3 r4 r5 r6 r8 r9 r10 r11 r13
 rintro ρ H3 ⟨r2,r3,r4,r5,r6,r8,r9,r10,r11,r13,GB,j,hS,sG2,hjx,b2,b3,b4,b5,b6,b8,b9⟩
 have hO2:dI (k+1) (if dn=true then cR aQ s1 o else s1):=by
  split
  ·exact qj o hO1
  ·exact {hO1 with ver:=⟨hO1.ver.1,by have:=hO1.ver.2;omega⟩}
 obtain⟨s2,es2⟩:∃s2,(if dn=true then cR aQ s1 o else s1)=s2:=⟨_,rfl⟩
 rw[es2]at hS hjx hbd hO2;have hdu:=F5 hS o ho.1 ob aeC dn (by have:=hO2.ncases;omega) ⟨fun c hc=>by have:=(hO2.case c hc).log2;omega,hO2.nrev,hO2.nnot⟩ hjx
 rw[←hbd]at hdu;simp only[opA,opC,ay]at hdu;have c3:=hS.at n10_3.symm b3;have c8:=hS.at n10_8.symm b8;refine .one hU hm ?_;simp only[go_sem,r3,r8,r10,r11,c3,c8];refine hdu.mono fun r H4 h4=>?_
 simp only[go_sem];clear c3 c8 hdu hS;have hat:(jL s o).2=0:=by
  unfold jL at ee⊢;split
  ·rename_i hc;rw[if_pos hc]at ee;exact KL ee
  ·rfl
 have hbl:(cL s o).cases.length≤1000000:=by
  rw[hbd,yK];have:=hO2.ncases;omega
 obtain⟨x1,x2,x3,x4,k10,hOP,_,_⟩:=id h4;have hov:=NI hOP.rd hbl;obtain⟨did,dset,dalg,dtgt,drules,dkids,dobls,hpd⟩:=NS (cL s o).policy;have hfz:∀H5,(∀q,GB q=none→H5 q=H4 q)→Frz g H5 (.agg (stC (cL s o) x1 x2 x3 x4)) (cG (cL s o)):=fun H5 hq=>((hOP.keep fun q hg _=>hq q hg).bL fun q hg=>by
  cases hh:g q with
  |none=>rfl
  |some b=>rw[sG2 _ _ hh]at hg;cases hg).frz
 rw[rQ hpd]at k10 hov hfz;have c2:=h4.at n10_2.symm b2;have c3:=h4.at n10_3.symm b3;have c4:=h4.at n10_4.symm b4;have c5:=h4.at n10_5.symm b5;have c6:=h4.at n10_6.symm b6;have c8:=h4.at n10_8.symm b8;have c9:=h4.at n10_9.symm b9;have sg4:Ab.Sub g H4:=h4.sub sG2 q10;refine .one hU hm ?_;simp only[go_sem,r10,k10];refine hov.pthen ?_;cases dov:sM (cL s o)
 case true=>
  simp only[go_sem,r2,r4,r5,r6,r13];exact⟨0,6,0,sg4,c2,c4,c5,c6,rfl,by rw[hat],by unfold aE;rw[if_neg (by rw[ee];simp),if_pos dov]⟩
 have hgd:aE s o=(cL s o,⟨if dn=true then 0 else 12,m,gl,if(dn && o.kind==2 && !j8 ob o.field)=true then dU (bw s.cases o.case).fields o.field else aq,dn && o.kind==2 && j8 ob o.field,0⟩,⟨o,s.version,m,gl,ob⟩,0):=by
  unfold aE;rw[if_neg (by rw[ee];simp),if_neg (by rw[dov];decide),hre,hmk,hgl]
 simp only[go_sem];have p2:=(bC (H:=H4) (l:=[i2,i3,i8,i9,i10]) (show i2∈ [i2,i3,i8,i9,i10] by simp)).trans c2
 have p3:=(bC (H:=H4) (l:=[i2,i3,i8,i9,i10]) (show i3∈ [i2,i3,i8,i9,i10] by simp)).trans c3
 have p8:=(bC (H:=H4) (l:=[i2,i3,i8,i9,i10]) (show i8∈ [i2,i3,i8,i9,i10] by simp)).trans c8
 have p9:=(bC (H:=H4) (l:=[i2,i3,i8,i9,i10]) (show i9∈ [i2,i3,i8,i9,i10] by simp)).trans c9
 have p10:=(bC (H:=H4) (l:=[i2,i3,i8,i9,i10]) (show i10∈ [i2,i3,i8,i9,i10] by simp)).trans k10
 have t4:pick H4 [i2,i3,i8,i9,i10] i4=none:=by simp[pick,n4_2,n4_3,n8_4.symm,n9_4.symm,n10_4.symm]
 have t5:pick H4 [i2,i3,i8,i9,i10] i5=none:=by simp[pick,n5_2,n5_3,n8_5.symm,n9_5.symm,n10_5.symm]
 have t6:pick H4 [i2,i3,i8,i9,i10] i6=none:=by simp[pick,n6_2,n6_3,n8_6.symm,n9_6.symm,n10_6.symm]
 refine .one hU hm ?_;simp only[go_sem];refine .calls (pick H4 [i2,i3,i8,i9,i10]) [0,1,2,3,4,5,6,7,8,9,10,11,12,13,14,15] bS aeF rfl ?_;simp only[go_sem,r2,r3,r4,r5,r6,r8,r9,r10,p2,p3,p8,p9,p10,c4,c5,c6,n5_4,n5_4.symm,n6_4,n6_4.symm,n6_5,n6_5.symm];refine⟨bS.put t4 _,(bS.put t4 _).put t5 _,((bS.put t4 _).put t5 _).put t6 _,?_⟩;refine .mk _ (.refl _) (.refl _) ⟨((sg4.put q4 _).put q5 _).put q6 _,_,?_,rfl⟩;rw[hgd,←rQ hpd];exact Bj (S:=cL s o) ⟨if dn=true then 0 else 12,m,gl,if(dn && o.kind==2 && !j8 ob o.field)=true then dU (bw s.cases o.case).fields o.field else aq,dn && o.kind==2 && j8 ob o.field,0⟩ ⟨o,s.version,m,gl,ob⟩ 0 (by
  rw[rQ hpd];exact hfz _ fun q hq=>by
   have x6:q≠i6:=fun e=>by rw[e,b6]at hq;cases hq
   have x5:q≠i5:=fun e=>by rw[e,b5]at hq;cases hq
   have x4:q≠i4:=fun e=>by rw[e,b4]at hq;cases hq
   rw[ag _ _ x6,ag _ _ x5,ag _ _ x4]) .no
end Go.Proofs.YtelkmnkejghkeaaGreatDoor
namespace Go.Bf
open Go Go.Ab
def di(s:Txt):Txt×Txt:=(s.takeWhile (fun c=> !(c==32)),(s.dropWhile (fun c=> !(c==32))).drop 1)
theorem index_none:∀s:Txt,Lib.indexByte s 32= -1→s.takeWhile (fun c=> !(c==32))=s∧s.dropWhile (fun c=> !(c==32))= []
 | [],_=>aeJ
 |b::l,h=>by
  unfold Lib.indexByte at h
  by_cases e:(b==32)=true
  ·grind
  ·rw[if_neg e]at h
   by_cases e1:(Lib.indexByte l 32== -1)=true
   ·have:=index_none l aeD
    simp[List.takeWhile,List.dropWhile,e,this]
   ·rw[if_neg e1]at h
    have:=index_ge l
    grind
where
 index_ge:∀l:Txt, -1≤Lib.indexByte l 32
  | []=>aeG
  |b::l=>by
   have:=index_ge l;unfold Lib.indexByte
   grind
theorem zf:∀s:Txt,Lib.indexByte s 32≠ -1→∃i:Nat,Lib.indexByte s 32=i∧i<s.length∧s.take i=s.takeWhile (fun c=> !(c==32))∧s.drop (i+1)=(s.dropWhile (fun c=> !(c==32))).drop 1
 | [],h=>(h rfl).elim
 |b::l,h=>by
  unfold Lib.indexByte at h⊢
  by_cases e:(b==32)=true
  ·rw[if_pos e]
   exact⟨0,rfl,aeJ,aiE,aiE⟩
  ·rw[if_neg e]at h⊢
   by_cases e1:(Lib.indexByte l 32== -1)=true
   ·grind
   ·rw[if_neg e1]
    obtain⟨i,h1,h2,h3,h4⟩:=zf l aeD
    grind [List.takeWhile,List.dropWhile]
def CL(s:Txt):Int:=if s= []∨9<s.length∨s.head? =some 48∨s.all dgt=false then 0 else(mI s:Int)
def xb:Nat→Nat→Txt→Int
 |0,_,_=>0
 |f+1,k,w=>if iV (k:Int)==w then(k:Int)else xb f (k+1) w
def uq(w:Txt):Int:=xb 8 1 w
end Go.Bf
namespace Go.Proofs.YtelkmnkejghkeaaGreatDoor
open Go Go.Ab Go.Bf Tryz
theorem zqT(s:ByteArray)(c:Int)(w:World):
  Calls prog 230 #[.string s,.int .u8 c] w fun e w' =>e= .returned (.int .i64 (Lib.indexByte s.data.toList c.toNat.toUInt8))∧w' =w:=Any.stringslite_IndexByte {Tryz.IF with} s c w
theorem Kv(l:Txt)(c:UInt8)(h:Heap):ai prog 230 [.s l,.v (.int .u8 c.toNat)] h fun r h' =>r= .i (Lib.indexByte l c)∧h' =h:=by
 refine .lib ⟨_,func230,aeR,rfl⟩ fun cx vs hs' g h1 h2=>?_
 obtain⟨u,v,rfl⟩:∃u v,vs= #[u,v]:=by
  match vs,h1 with
  |⟨[u,v]⟩,_=>exact⟨u,v,rfl⟩
 have e1:u= .string ⟨l.toArray⟩:=((h2 0 aeJ).lW).1;have e2:v= .int .u8 c.toNat:=(h2 1 aeJ).bQ;subst e1;subst e2
 refine(zqT ⟨l.toArray⟩ c.toNat cx.w).mono ?_;exact ajN
theorem GN(l:Txt)(h:Heap):ai prog 184 [.s l,.s [32]] h fun r h' =>r= .i (Lib.indexByte l 32)∧h' =h:=by
 have hi:=Kv l 32 h;refine aeB func184 143 [.tmp 4] fun hwf=>?_
 simp only[go_sem];cases d1:([32]==l)
 ·simp only[go_sem,d1]
  refine .of 0 rfl aeJ ?_;simp only[go_sem,aJ];refine hi.pthen ?_;exact ai1
 ·have:l= [32]:=(by grind: [32]=l).symm
  subst this;simp only[go_sem,d1];exact aeL
theorem Pn(s:Txt)(hs:s.length≤1000000)(h:Heap):ai prog 133 [.s s,.s [32]] h fun r h' =>∃b,r= .tup [.s (di s).1,.s (di s).2,.b b]∧h' =h:=by
 refine aeB func133 23 [.tmp 4,.tmp 5,.tmp 6] fun hwf=>?_
 simp only[go_sem];refine(GN s h).pthen ?_
 by_cases hx:Lib.indexByte s 32= -1
 ·obtain⟨h1,h2⟩:=index_none s hx
  rw[hx];have d1:decide ((-1:Int)≥0)=false:=rfl;simp only[go_sem,d1];exact .same (.refl _) ⟨_,by simp[di,h1,h2]<;>rfl,rfl⟩
 ·obtain⟨i,hi,hl,h1,h2⟩:=zf s hx
  rw[hi];have d1:decide ((i:Int)≥0)=true:=decide_eq_true aeC;have d2:decide ((0:Int)≤(i:Int))=true:=decide_eq_true aeC;have w1:IntKind.i64.wrap ((i:Int)+1)=((i+1:Nat):Int):=aeN;simp only[go_sem,d1,d2];refine⟨.of aeF,?_⟩;simp only[go_sem,w1];refine⟨aeC,aeC,aeC,aeC,aeC,aeC,.same (.refl _) ⟨true,?_,rfl⟩⟩;simp[nM,di,←h1,←h2];rfl
theorem QF(s:Txt)(hs:s.length≤1000000)(h:Heap):ai prog 73 [.s s,.s [32]] h fun r h' =>∃b,r= .tup [.s (di s).1,.s (di s).2,.b b]∧h' =h:=by
 refine aeB func73 13 [.tmp 4,.tmp 5,.tmp 6] fun hwf=>?_
 simp only[go_sem];refine(Pn s hs h).mono fun r h' ⟨b,e1,e2⟩=>?_
 subst e1 e2;simp only[go_sem];exact .same (.refl _) ⟨b,rfl,rfl⟩
theorem l8(s:Txt)(hs:s.length≤1000000)(h:Heap):ai prog 34 [.s s] h fun r h' =>r= .tup [.s (di s).1,.s (di s).2]∧h' =h:=by
 refine aeB func34 15 [.tmp 2,.tmp 3] fun hwf=>?_
 simp only[go_sem];refine(QF s hs h).mono fun r h' ⟨b,e1,e2⟩=>?_
 subst e1 e2;exact ai1
theorem Qc(s:Txt)(h:Heap):ai prog 74 [.s s,.s [33]] h fun r h' =>r= .b (s.take 1== [33])∧h' =h:=by
 refine aeB func74 18 [.tmp 4] fun hwf=>?_
 by_cases hl:s.length=0
 ·have:s= []:=List.length_eq_zero_iff.1 hl
  subst this;simp only[go_sem,List.length_nil,show decide ((0:Int)≥1)=false from rfl,show decide ((1:Int)≤0)=false from rfl]
  exact aeL
 ·have d1:decide ((s.length:Int)≥1)=true:=decide_eq_true aeC
  have d2:decide ((1:Int)≤(s.length:Int))=true:=decide_eq_true aeC;simp only[go_sem,d1,d2];exact⟨aeC,aeC,aeC,.same (.refl _) ⟨rfl,rfl⟩⟩
theorem Tx(s:Txt)(h:Heap):ai prog 35 [.s s,.s [33]] h fun r h' =>r= .b (s.take 1== [33])∧h' =h:=by
 refine aeB func35 8 [.tmp 4] fun hwf=>?_
 simp only[go_sem];refine(Qc s h).pthen ?_;exact ai1
theorem PW(w:Txt)(h:Heap):ai prog 36 [.s w] h fun r h' =>r= .i (uq w)∧h' =h:=by
 refine aeB func36 13 [.tmp 2] fun hwf=>?_
 simp only[go_sem];refine .intro (fun m ρ h' =>h' =h∧∃k:Nat,k+m=9∧xb m k w=uq w∧lk ρ 0=some (.s w)∧lk ρ 3=some (.i k)) 8 ?_ ?_
 ·refine⟨rfl,1,rfl,rfl,?_,?_⟩<;>simp only[go_sem]
  all_goals rfl
 rintro m ρ h' ⟨rfl,k,hk,hf,r0,r3⟩
 rcases m with _|m
 ·have d1:decide ((k:Int)≤8)=false:=decide_eq_false aeC
  simp only[go_sem,r3,d1];exact .same (.refl _) ⟨by rw[←hf];rfl,rfl⟩
 ·have d1:decide ((k:Int)≤8)=true:=decide_eq_true aeC
  have w1:IntKind.i64.wrap ((k:Int)+1)=((k+1:Nat):Int):=aeN;unfold xb at hf;simp only[go_sem,r0,r3,d1];refine(vi (k:Int) ⟨aeC,aeC⟩ _).pthen ?_;cases d2:(iV (k:Int)==w)
  ·rw[d2]at hf
   simp only[go_sem,r0,r3,d2,w1];refine⟨m,aeC,rfl,k+1,aeC,hf,?_,?_⟩<;>simp only[go_sem,r0]
  ·rw[d2]at hf
   simp only[go_sem,r0,r3,d2];exact .same (.refl _) ⟨by rw[←hf];rfl,rfl⟩
theorem Ib(s:Txt)(h:∀c∈s,dgt c=true):mI s<10 ^ s.length:=by
 have go:∀(l:Txt) (n:Nat),(∀c∈l,dgt c=true)→l.foldl (fun n c=>n*10+(c.toNat - 48)) n<(n+1)*10 ^ l.length:=by
  intro l
  induction l with
  |nil=>simp
  |cons c l ih=>
   intro n hc;have h1:=ih (n*10+(c.toNat - 48)) fun d hd=>hc d aeD
   have h2:c.toNat - 48≤9:=by
    have:=hc c aeJ;simp[dgt]at this;omega
   have h3:(n*10+(c.toNat - 48)+1)*10 ^ l.length≤(n*10+10)*10 ^ l.length:=Nat.mul_le_mul_right _ aeC;simp only[List.foldl_cons,List.length_cons,Nat.pow_succ];have h4:(n*10+10)*10 ^ l.length=(n+1)*(10 ^ l.length*10):=aeD;omega
 have:=go s 0 h;simpa[mI]using this
theorem L3(s:Txt)(h0:s≠ [])(h9:s.length≤9)(hd:s.all dgt=true)(h:Heap):ai prog 77 [.s s] h fun r h' =>r= .tup [.i (mI s:Int),.v .nilIface]∧h' =h:=by
 refine .lib ⟨_,func77,aeR,rfl⟩ fun cx vs hs' g h1 h2=>?_
 obtain⟨u,rfl⟩:∃u,vs= #[u]:=by
  match vs,h1 with
  |⟨[u]⟩,_=>exact⟨u,rfl⟩
 have e1:u= .string ⟨s.toArray⟩:=((h2 0 aeJ).lW).1;subst e1;refine(Cm false s h0 (fun c hc=>List.all_eq_true.1 hd c hc) aeC ⟨s.toArray⟩ rfl ?_ cx.w).mono ?_
 ·have:=Ib s (fun c hc=>List.all_eq_true.1 hd c hc)
  have h2:10 ^ s.length≤10 ^ 9:=Nat.pow_le_pow_right aeG h9;unfold inI;omega
 exact ajF
theorem zC(s:Txt)(hs:s.length≤1000000)(h:Heap):ai prog 38 [.s s] h fun r h' =>r= .i (CL s)∧h' =h:=by
 refine aeB func38 40 [.tmp 2] fun hwf=>?_
 by_cases h0:s= []
 ·subst h0
  exact ai1
 have d0:(s== [])=false:=aeD
 by_cases h9:9<s.length
 ·have d1:decide ((s.length:Int)>9)=true:=decide_eq_true aeC
  have d2:decide ((9:Int)<(s.length:Int))=true:=decide_eq_true aeC;simp only[go_sem,d0,d1,d2];exact .same (.refl _) ⟨by simp[CL,h9]<;>rfl,rfl⟩
 have d1:decide ((s.length:Int)>9)=false:=decide_eq_false aeC;have d2:decide ((9:Int)<(s.length:Int))=false:=decide_eq_false aeC;have hpos:0<s.length:=List.length_pos_iff.2 h0;have hh:s.head? =some s[0]:=by grind [List.head?_eq_getElem?,List.getElem?_eq_getElem]
 have q48:∀c:UInt8,((c.toNat:Int)==48)=decide (c=48):=fun c=>by
  by_cases e:c=48
  ·simp_all
  ·rw[decide_eq_false e]
   exact beq_eq_false_iff_ne.mpr fun h=>e (UInt8.toNat_inj.1 aeD)
 simp only[go_sem,d0,d1,d2];refine .of 0 rfl hpos ?_;simp only[go_sem,aJ,q48]
 by_cases hz:s[0]=48
 ·simp only[go_sem,hz,decide_true]
  exact .same (.refl _) ⟨by rw[CL,if_pos (.inr (.inr (.inl aeD)))];rfl,rfl⟩
 simp only[go_sem,decide_eq_false hz];refine .intro (fun m ρ h' =>h' =h∧∃i:Nat,(s.take i).all dgt=true∧i≤s.length∧m=s.length - i∧lk ρ 0=some (.s s)∧lk ρ 19=some (.i s.length)∧lk ρ 20=some (.i i)) s.length ?_ ?_
 ·refine⟨rfl,0,rfl,aeC,rfl,?_,?_,?_⟩<;>simp only[go_sem]
  all_goals rfl
 rintro m ρ h' ⟨rfl,i,ha,hi,rfl,r0,r19,r20⟩
 by_cases hlt:i<s.length
 ·have t1:decide ((i:Int)<(s.length:Int))=true:=decide_eq_true aeC
  have w1:IntKind.i64.wrap ((i:Int)+1)=((i+1:Nat):Int):=aeN;have bad:dgt s[i]=false→CL s=0:=fun e=>by
   rw[CL,if_pos]
   grind
  simp only[go_sem,r0,r19,r20,t1];refine .of i rfl hlt ?_;simp only[go_sem,aJ];cases q1:decide ((s[i].toNat:Int)<48)
  ·simp only[go_sem,r0,q1]
   refine .of i rfl hlt ?_;cases q2:decide ((57:Int)<(s[i].toNat:Int))
   ·simp only[go_sem,aJ,q2,r20,w1]
    have hg:dgt s[i]=true:=by
     grind [aev,dgt]
    refine⟨_,?_,rfl,i+1,agS,aeC,rfl,?_,?_,?_⟩
    ·omega
    all_goals simp only[go_sem,r0,r19]
   ·simp only[go_sem,aJ,q2]
    exact .same (.refl _) ⟨by rw[bad (by have:=aeu q2;simp[dgt];omega)];rfl,rfl⟩
  ·simp only[go_sem,q1]
   exact .same (.refl _) ⟨by rw[bad (by have:=aeu q1;simp[dgt];omega)];rfl,rfl⟩
 ·obtain rfl:i=s.length:=by omega
  have t1:decide ((s.length:Int)<(s.length:Int))=false:=decide_eq_false aeC;rw[List.take_length]at ha;simp only[go_sem,r0,r19,r20,t1];refine(L3 s h0 aeC ha _).pthen ?_;simp only[go_sem];exact .same (.refl _) ⟨by rw[CL,if_neg aeD];rfl,rfl⟩
end Go.Proofs.YtelkmnkejghkeaaGreatDoor
namespace Go.Bf
open Go Go.Ab
def AR(t:qC):bu×Bool:=
 if t.kind=2 then(⟨2,t.n,t.s⟩,true)else if t.kind=3 then(⟨4,t.n,t.s⟩,true)else if t.kind=4 then(⟨5,t.n,t.s⟩,true)else if t.kind=5 then(⟨3,t.n,t.s⟩,true)
 else if t.kind=1 then(if t.s= [116,114,117,101]then(⟨1,1,[]⟩,true)else if t.s= [102,97,108,115,101]then(⟨1,0,[]⟩,true)else(aq,false))else(aq,false)
def fY(s:Txt):bu×Bool:=match pR s with
 |.bad _ _=>(aq,false)
 |.ok ts=>if ts.length=2 then AR (ts.headD ⟨0,0,0,[]⟩)else(aq,false)
end Go.Bf
namespace Go.Proofs.YtelkmnkejghkeaaGreatDoor
open Go Go.Ab Go.Bf Tryz
theorem GQ(s:Txt)(h:Heap)(he:iB h):ai prog 37 [.s s] h fun r h' =>r= .tup [aS (fY s).1,.v (.bool (fY s).2)]∧h' =h:=by
 refine aeB func37 60 [.cell 2 48,.tmp 3] fun hwf=>?_
 simp only[go_sem];intro i2 h2;simp only[go_sem];refine(yx s _ (he.sub (.aj h2))).pthen ?_;have bad:fY s=(aq,false)→∀(r:AV) (h' :Heap),r= .tup [aS aq,.b false]∧h' =h→r= .tup [aS (fY s).1,.v (.bool (fY s).2)]∧h' =h:=fun e r h' he=>aeD
 cases el:pR s with
 |bad e a=>
  have e1:=ur el;have d1:(e !=0)=true:=aeD;simp only[go_sem,GM,d1,ah];exact .mk _ (.refl _) (.aj h2) (bad (by grind [fY]) _ _ ⟨rfl,rfl⟩)
 |ok ts=>
  by_cases hl:ts.length=2
  case neg=>
   have d2:((ts.length:Int) !=2)=true:=bne_iff_ne.mpr aeC;simp only[go_sem,GM,aes,d2,ah];exact .mk _ (.refl _) (.aj h2) (bad (by grind [fY]) _ _ ⟨rfl,rfl⟩)
  have d2:((ts.length:Int) !=2)=false:=aeD;have ix:=fun K=>dR.eq (xs:=ts.map fL) (sz:=4) 0 aeD aeQ K
  rw[aet]at ix;have eh:ts.headD ⟨0,0,0,[]⟩=ts[0]:=by
   cases ts with
   |nil=>grind
   |cons a b=>rfl
  have el2:fY s=AR ts[0]:=by grind [fY]
  obtain⟨t,et⟩:∃t,ts[0]=t:=⟨_,rfl⟩;rw[et]at ix el2;simp only[fL,Int.natCast_zero]at ix;simp only[go_sem,GM,aes,d2];refine .last cS [0,1,2,3,4,5,6,7,8,9] (fun _ _ e=>ae2) aeF rfl aeF rfl ?_
  simp only[go_sem,ix,and_self,reduceIte];intro i7 h7;refine⟨fun _ _ e=>ae2,?_⟩
  have n72:=aI h7;have k7:=aB h7;have hs7:∀a b c,Ab.Sub h (upd (upd (upd h i2 a) i7 b) i2 c):=fun a b c=>(((Sub.refl h).put h2 a).put k7 b).put h2 c
  simp only[go_sem,ix,and_self,reduceIte,ah];cases e2:(t.kind==2)
  case true=>
   simp only[go_sem,ah,ak,n72,n72.symm];exact .mk _ (.refl _) aeD ⟨by rw[el2,AR,if_pos aeD];rfl,rfl⟩
  cases e3:(t.kind==3)
  case true=>
   simp only[go_sem,e3,ah,ak,n72,n72.symm];exact .mk _ (.refl _) aeD ⟨by rw[el2,AR,if_neg aeD,if_pos aeD];rfl,rfl⟩
  cases e4:(t.kind==4)
  case true=>
   simp only[go_sem,e3,e4,ah,ak,n72,n72.symm];exact .mk _ (.refl _) aeD ⟨by rw[el2,AR,if_neg aeD,if_neg aeD,if_pos aeD];rfl,rfl⟩
  cases e5:(t.kind==5)
  case true=>
   simp only[go_sem,e3,e4,e5,ah,ak,n72,n72.symm];exact .mk _ (.refl _) aeD ⟨by rw[el2,AR,if_neg aeD,if_neg aeD,if_neg aeD,if_pos aeD];rfl,rfl⟩
  cases e1:(t.kind==1)
  ·simp only[go_sem,e3,e4,e5,e1,ah,ak,n72,n72.symm]
   exact .mk _ (.refl _) aeD ⟨by rw[el2,AR,if_neg aeD,if_neg aeD,if_neg aeD,if_neg aeD,if_neg aeD];rfl,rfl⟩
  have eT:AR t=if t.s= [116,114,117,101]then(⟨1,1,[]⟩,true)else if t.s= [102,97,108,115,101]then(⟨1,0,[]⟩,true)else(aq,false):=by
   rw[AR,if_neg aeD,if_neg aeD,if_neg aeD,if_neg aeD,if_pos aeD]
  rw[eT]at el2;cases f1:(t.s== [116,114,117,101])
  ·cases f2:(t.s== [102,97,108,115,101])
   ·simp only[go_sem,e3,e4,e5,e1,f1,f2,ah,ak,n72,n72.symm]
    exact .mk _ (.refl _) aeD ⟨by rw[el2,if_neg aeD,if_neg aeD];rfl,rfl⟩
   ·simp only[go_sem,e3,e4,e5,e1,f1,f2,ah,ak,n72,n72.symm]
    exact .mk _ (.refl _) aeD ⟨by rw[el2,if_neg aeD,if_pos aeD];rfl,rfl⟩
  ·simp only[go_sem,e3,e4,e5,e1,f1,ah,ak,n72,n72.symm]
   exact .mk _ (.refl _) aeD ⟨by rw[el2,if_pos aeD];rfl,rfl⟩
end Go.Proofs.YtelkmnkejghkeaaGreatDoor
namespace Go.Bf
open Go Go.Ab
variable {n:Int}{x y r t:Txt}
def pq:Nat→Nat→Txt
 |0,_=>[]
 |f+1,u=>if u<128 then [UInt8.ofNat u]else UInt8.ofNat (u % 128+128)::pq f (u / 128)
def zig(n:Int):Nat:=if 0≤n then 2*n.toNat else 2*(-n).toNat - 1
def iY(n:Int):Txt:=pq 10 (zig n)
def dD(s:Txt):Txt:=iY s.length++s
def oQ(v:bu):Txt:=iY v.kind++(if v.kind=3∨v.kind=5 then dD v.s else iY v.n)
def hY(o:OpD):Txt:=iY o.kind++(dD o.subj++(dD o.case++(dD o.field++(dD o.to++(oQ o.val++(iY o.review++(dD o.text++(dD o.reason++oQ (dM o.glass)))))))))
theorem OR(h:i64 n):zig n<128 ^ 10:=by grind [i64,zig,Nat]
structure Yt (v:bu):Prop where
 kind:i64 v.kind
 n:i64 v.n
 s:v.s.length≤1000000
 one:(v.kind=3∨v.kind=5→v.n=0)∧(¬(v.kind=3∨v.kind=5)→v.s= [])
structure OpC (o:OpD):Prop where
 kind:i64 o.kind
 subj:o.subj.length≤1000000
 case:o.case.length≤1000000
 field:o.field.length≤1000000
 to:o.to.length≤1000000
 val:Yt o.val
 review:i64 o.review
 text:o.text.length≤1000000
 reason:o.reason.length≤1000000
structure RS where
 b:Txt
 at_:Nat
 bad:Bool
variable {s:RS}
def unzig(u:Nat):Int:=if u % 2=1 then -((u / 2:Nat):Int) - 1 else((u / 2:Nat):Int)
def rK:Nat→Nat→Nat→Txt→Int×Nat
 |0,_,_,_=>(0,0)
 |_+1,_,_,[]=>(0,0)
 |f+1,i,u,c::r=>
  if(i=9∧1<c.toNat)∨(0<i∧c.toNat=0)then(0,0)
  else if c.toNat<128 then(unzig (u+c.toNat*128 ^ i),i+1)
  else rK f (i+1) (u+c.toNat % 128*128 ^ i) r
def mF(s:RS)(a:Nat):RS:=if s.bad=false∧a≤s.at_ then {s with at_:=a,bad:=true} else s
def rIn(s:RS)(lo hi:Int):Int×RS:=
 if s.bad then(0,s)else
 let x:=rK 10 0 0 (s.b.drop s.at_)
 if x.2=0∨x.1<lo∨hi<x.1 then(0,mF s s.at_)else(x.1,{s with at_:=s.at_+x.2})
def gC(s:RS):Int×RS:=rIn s (-9223372036854775808) 9223372036854775807
def bV(s:RS)(most:Int):Txt×RS:=
 let x:=rIn s 0 most
 if x.2.bad∨(x.2.b.length:Int) - x.2.at_<x.1 then([],mF x.2 s.at_)else((x.2.b.drop x.2.at_).take x.1.toNat,{x.2 with at_:=x.2.at_+x.1.toNat})
def oY(k:Int):Bool:=k==3||k==5
def qH(s:RS):bu×RS:=
 let x:=rIn s 1 5
 let y:bu×RS:=if oY x.1 then(let t:=bV x.2 64;(⟨x.1,0,t.1⟩,t.2))else(let t:=gC x.2;(⟨x.1,t.1,[]⟩,t.2))
 if y.2.bad then(aq,y.2)else if bz y.1=false then(aq,mF y.2 s.at_)else y
def qd(s:RS):bu×RS:=
 if s.at_<s.b.length∧s.b.getD s.at_ 0=0 then(aq,(rIn (rIn s 0 0).2 0 0).2)else qH s
def rOp(b:Txt):OpD×RS:=
 let k:=gC ⟨b,0,false⟩
 let s1:=bV k.2 16
 let s2:=bV s1.2 16
 let s3:=bV s2.2 16
 let s4:=bV s3.2 16
 let v:=qd s4.2
 let r:=gC v.2
 let t:=bV r.2 4096
 let w:=bV t.2 64
 let g:=qH w.2
 (⟨k.1,s1.1,s2.1,s3.1,s4.1,v.1,r.1,t.1,w.1,eqV g.1 (dM true)⟩,g.2)
def KS(s:RS):Bool:=decide (s.b.length≤s.at_) && !s.bad
def oX(b:Txt):Option OpD:=if KS (rOp b).2 && cN (rOp b).1 && decide (hY (rOp b).1=b)then some (rOp b).1 else none
theorem Lu(n:Int):unzig (zig n)=n:=by grind [unzig,zig]
theorem FG(h:i64 n):zig n<18446744073709551616:=by grind [i64,zig]
theorem Ji:∀(f v:Nat),0<f→pq f v≠ []
 |0,_,h=>aeC
 |f+1,v,_=>by grind [pq]
theorem IQ:∀(f i u v:Nat) (r:Txt),f+i=10→0<f→v<128 ^ f→u<128 ^ i→u+v*128 ^ i<18446744073709551616→(0<i→0<v)→
  rK f i u (pq f v++r)=(unzig (u+v*128 ^ i),i+(pq f v).length)
 |0,i,u,v,r,_,h,_,_,_,_=>aeC
 |f+1,i,u,v,r,hfi,_,hv,hu,ht,h0=>by
  have p9:(128:Nat) ^ 9=9223372036854775808:=aeG;have hlt:∀n,n<256→(UInt8.ofNat n).toNat=n:=fun n hn=>by
   rw[UInt8.toNat_ofNat'];omega
  by_cases hs:v<128
  ·have e:pq (f+1) v= [UInt8.ofNat v]:=by simp_all [pq,if_pos]
   rw[e];simp only[List.singleton_append,rK,hlt v aeC,List.length_singleton];have hn:¬((i=9∧1<v)∨(0<i∧v=0)):=by
    grind
   rw[if_neg hn,if_pos hs]
  ·have e:pq (f+1) v=UInt8.ofNat (v % 128+128)::pq f (v / 128):=by simp_all [pq,if_neg]
   rw[e];simp only[List.cons_append,rK,hlt (v % 128+128) aeC,List.length_cons];have hi9:i≠9:=by
    grind
   have hn:¬((i=9∧1<v % 128+128)∨(0<i∧v % 128+128=0)):=by
    omega
   rw[if_neg hn,if_neg aeC];have hp:(128:Nat) ^ (i+1)=128 ^ i*128:=aeR;have hsum:u+(v % 128+128) % 128*128 ^ i+v / 128*128 ^ (i+1)=u+v*128 ^ i:=by
    have h1:(v % 128+128) % 128=v % 128:=aeC;rw[h1,hp,Nat.mul_comm (128 ^ i) 128,←Nat.mul_assoc,Nat.add_assoc,←Nat.add_mul]
    congr 2
    omega
   have hf:0<f:=by
    omega
   have hv' :v / 128<128 ^ f:=by
    omega
   have hu' :u+(v % 128+128) % 128*128 ^ i<128 ^ (i+1):=by
    have h1:(v % 128+128) % 128≤127:=aeC;have h2:=Nat.mul_le_mul_right (128 ^ i) h1;rw[hp];omega
   rw[IQ f (i+1) _ (v / 128) r aeC hf hv' hu' aeC aeC,hsum]
   congr 1
   omega
theorem Ql(h:i64 n)(r:Txt):rK 10 0 0 (iY n++r)=(n,(iY n).length):=by
 have:=IQ 10 0 0 (zig n) r rfl aeG (OR h) aeG (by grind [FG]) aeC
 simp only[Nat.pow_zero,Nat.mul_one,Nat.zero_add]at this;unfold iY;rw[this,Lu]
def rAt(s:RS)(x:Txt):Prop:=s.bad=false∧s.at_≤s.b.length∧s.b.drop s.at_=x
def rOn(s:RS)(n:Nat):RS:={s with at_:=s.at_+n}
theorem rAt.on(h:rAt s (x++y)):rAt (rOn s x.length) y:=by
 obtain⟨h1,h2,h3⟩:=h;have hl:=congrArg List.length h3;refine⟨h1,by grind [rOn],?_⟩
 grind [rOn,List.drop_drop,List.drop_left]
theorem zc{lo hi:Int}(h:rAt s (iY n++r))(hn:i64 n)(h1:lo≤n)(h2:n≤hi):rIn s lo hi=(n,rOn s (iY n).length):=by
 unfold rIn;have hl:0<(iY n).length:=List.length_pos_iff.2 (Ji 10 _ aeG);rw[if_neg (by rw[h.1];simp),h.2.2,Ql hn]
 rw[if_neg aeC];rfl
theorem CC(h:rAt s (iY n++r))(hn:i64 n):gC s=(n,rOn s (iY n).length):=zc h hn hn.1 hn.2
theorem nK{most:Nat}(h:rAt s (dD t++r))(ht:t.length≤most)(hm:most≤100000):bV s most=(t,rOn s (dD t).length):=by
 unfold dD at h⊢;rw[List.append_assoc]at h;have h6:i64 (t.length:Int):=⟨aeC,aeC⟩;have ha:=h.on;unfold bV;rw[zc (lo:=0) (hi:=most) h h6 aeC aeC];have hl:=congrArg List.length ha.2.2;have hle:=ha.2.1;rw[if_neg (by rw[ha.1];grind),ha.2.2]
 simp[rOn,aew,Nat.add_assoc]
theorem Ak{v:bu}(h:bz v=true):1≤v.kind∧v.kind≤5:=by grind [bz]
end Go.Bf
namespace Go.Bf
open Go Go.Ab Go.Proofs.YtelkmnkejghkeaaGreatDoor
variable {n k:Int}{v:bu}{s:RS}{r x t:Txt}{o:OpD}
theorem CB(h1: -1000000≤n)(h2:n≤1000000):i64 n:=⟨aeC,aeC⟩
theorem wh(h:bz v=true)(hk:v.kind=3∨v.kind=5):v.n=0∧v.s.length≤64:=by
 unfold bz at h;rcases hk with e|e
 ·grind
 ·rw[if_neg aeC,if_neg aeC,if_neg aeC,if_neg aeC,if_pos e]at h
  simp only[bp,Bool.and_eq_true,beq_iff_eq,decide_eq_true_eq]at h;omega
theorem B1(h:bz v=true)(hk:¬(v.kind=3∨v.kind=5)):v.s= []:=by
 unfold bz at h
 grind
theorem Jh(h:rAt s (oQ v++r))(hv:bz v=true)(hn:i64 v.n):qH s=(v,rOn s (oQ v).length):=by
 obtain⟨hk1,hk2⟩:=Ak hv;unfold oQ at h⊢;rw[List.append_assoc]at h;have ha:=h.on;unfold qH;rw[zc (lo:=1) (hi:=5) h (by grind [CB]) hk1 hk2]
 by_cases e:v.kind=3∨v.kind=5
 ·obtain⟨e1,e2⟩:=wh hv e
  rw[if_pos e]at ha⊢;have ht:oY v.kind=true:=by grind [oY]
  have hx:=nK (most:=64) ha e2 aeC;simp only[ht,if_true];rw[show((64:Nat):Int)=64 from rfl]at hx
  rw[hx];have ev:(⟨v.kind,0,v.s⟩:bu)=v:=by rw[←e1]
  exact akw
 ·have e1:=B1 hv e
  rw[if_neg e]at ha⊢;have ht:oY v.kind=false:=by simp_all [oY,not_or]
  have hx:=CC ha hn;simp only[ht,Bool.false_eq_true,if_false];rw[hx];have ev:(⟨v.kind,v.n,[]⟩:bu)=v:=by rw[←e1]
  exact akw
theorem EG:iY 0= [0]:=aeR
theorem Nw(h1:1≤k)(h2:k≤5):∃c,iY k= [c]∧c≠0:=by
 have:k=1∨k=2∨k=3∨k=4∨k=5:=aeC;rcases this with rfl|rfl|rfl|rfl|rfl
 ·exact⟨2,aeR,aeG⟩
 ·exact⟨4,aeR,aeG⟩
 ·exact⟨6,aeR,aeG⟩
 ·exact⟨8,aeR,aeG⟩
 ·exact⟨10,aeR,aeG⟩
theorem rAt.head{c:UInt8}(h:rAt s (c::x)):s.at_<s.b.length∧s.b.getD s.at_ 0=c:=by
 have hl:=congrArg List.length h.2.2;rw[List.length_drop,List.length_cons]at hl;refine⟨aeC,?_⟩;have:=congrArg (fun l=>l[0]?) h.2.2
 simp only[List.getElem?_drop,Nat.add_zero,List.getElem?_cons_zero]at this;rw[List.getD_eq_getElem?_getD,this];rfl
theorem KC(h:rAt s (oQ v++r))(hv:v=aq∨bz v=true)(hn:i64 v.n):qd s=(v,rOn s (oQ v).length):=by
 rcases hv with rfl|hv
 ·have e:oQ aq= [0,0]:=by rfl
  rw[e]at h⊢;have hh:=rAt.head (c:=0) (x:=0::r) h;unfold qd;rw[if_pos ⟨hh.1,hh.2⟩];have h' :rAt s (iY 0++(iY 0++r)):=by grind [EG]
  rw[zc h' (by grind [CB]) (Int.le_refl 0) (Int.le_refl 0)]
  rw[zc h'.on (by grind [CB]) (Int.le_refl 0) (Int.le_refl 0)]
  simp[EG,rOn,Nat.add_assoc]
 ·obtain⟨hk1,hk2⟩:=Ak hv
  obtain⟨c,e,hc⟩:=Nw hk1 hk2;have hh:rAt s (c::((if v.kind=3∨v.kind=5 then dD v.s else iY v.n)++r)):=by
   grind [oQ]
  unfold qd;rw[if_neg (by grind [rAt.head])]
  exact Jh h hv hn
theorem vp(h:jn t=true):t.length≤16:=by
 unfold jn at h;simp only[Bool.or_eq_true,beq_iff_eq]at h;rcases h with rfl|h
 ·simp
 simp_all [bp,Bool.and_eq_true,decide_eq_true_eq]
structure OpF (o:OpD):Prop where
 subj:o.subj.length≤16
 case:o.case.length≤16
 field:o.field.length≤16
 to:o.to.length≤16
 val:o.val=aq∨bz o.val=true
 text:o.text.length≤4096
 reason:o.reason.length≤64
theorem mw(h:cN o=true):OpF o:=by
 simp only[cN,Bool.and_eq_true,decide_eq_true_eq]at h;obtain⟨⟨⟨⟨⟨⟨⟨h1,h2⟩,h3⟩,h4⟩,h5⟩,h6⟩,h7⟩,h8⟩:=h;simp only[bp,Bool.and_eq_true,decide_eq_true_eq]at h1;refine⟨h1.2,vp h4,vp h5,vp h6,?_,h3,?_⟩
 ·simp only[Bool.or_eq_true]at h7
  rcases h7 with h7|h7
  ·left
   generalize o.val=v at h7;obtain⟨k,n,s⟩:=v;simp only[eqV,aq,Bool.and_eq_true,beq_iff_eq]at h7;obtain⟨rfl,rfl,rfl⟩:=h7;rfl
  grind
 ·unfold lE at h2
  grind
theorem Ag(b:Bool):bz (dM b)=true:=by cases b<;>rfl
theorem Ox(b:Bool):eqV (dM b) (dM true)=b:=by cases b<;>rfl
theorem Tu(hf:OpF o)(h64:oC o):rOp (hY o)=(o,⟨hY o,(hY o).length,false⟩):=by
 have h0:rAt ⟨hY o,0,false⟩ (hY o):=⟨rfl,Nat.zero_le _,rfl⟩;obtain⟨k1,k2,k3,k4⟩:=h64;unfold hY at h0;have e0:=CC h0 k1;have h1:=h0.on;have e1:=nK (most:=16) h1 hf.subj aeC;have h2:=h1.on;have e2:=nK (most:=16) h2 hf.case aeC;have h3:=h2.on;have e3:=nK (most:=16) h3 hf.field aeC;have h4:=h3.on;have e4:=nK (most:=16) h4 hf.to aeC;have h5:=h4.on;have e5:=KC h5 hf.val k3;have h6:=h5.on;have e6:=CC h6 k4;have h7:=h6.on;have e7:=nK (most:=4096) h7 hf.text aeC;have h8:=h7.on;have e8:=nK (most:=64) h8 hf.reason aeC;have h9:=h8.on;have h9' :=h9;rw[←List.append_nil (oQ (dM o.glass))]at h9';have e9:=Jh h9' (Ag _) (by cases o.glass<;>exact⟨aeG,aeG⟩)
 have h10:=h9'.on;simp only[List.append_nil]at e9 h10;simp only[show((16:Nat):Int)=16 from rfl,show((4096:Nat):Int)=4096 from rfl,show((64:Nat):Int)=64 from rfl]at e1 e2 e3 e4 e7 e8
 have hend:=congrArg List.length h10.2.2;rw[List.length_drop,List.length_nil]at hend;have hle:=h10.2.1;unfold rOp;rw[show hY o=iY o.kind++(dD o.subj++(dD o.case++(dD o.field++(dD o.to++(oQ o.val++(iY o.review++(dD o.text++(dD o.reason++oQ (dM o.glass)))))))))from rfl]
 simp only[e0,e1,e2,e3,e4,e5,e6,e7,e8,e9,Ox];simp only[rOn]at hend hle⊢;refine Prod.ext rfl ?_;simp only[RS.mk.injEq,and_true,true_and];omega
theorem PF(hf:cN o=true)(h64:oC o):oX (hY o)=some o:=by grind [oX,Tu,mw,KS]
theorem get_some{b:Txt}(h:oX b=some o):cN o=true∧hY o=b:=by
 unfold oX at h
 grind
end Go.Bf
namespace Go.Proofs.YtelkmnkejghkeaaGreatDoor
open Go Go.Ab
abbrev By:=Bytes 5
theorem u5:(U 5).sz=1:=aeR
theorem u5a:(U 5).k.agg=false:=aeR
theorem oW(y:AV)(l:List UInt8)(h:Heap)(hb:By h y l)(hl:l.length≤140737488355328):
  ai Tryz.prog 53 [y] h fun r h' =>h' =h∧r= .sl (l.map aJ) .no:=by
 refine aeB Tryz.func53 8 [.tmp 2] fun hwf=>?_
 simp only[go_sem];refine hb.Wt fun b hbn=>?_
 simp only[go_sem];refine jZ.intro (fun e=>?_) (fun e=>?_)
 ·have hl0:l= []:=Classical.byContradiction fun hh=>by grind
  subst hl0;simp only[go_sem];exact agR
 ·simp only[go_sem]
  rw[hb.src u5];simp only[go_sem];refine⟨aeC,fun hn=>?_,fun hn=>?_⟩
  ·have hl0:l= []:=by simp_all
   subst hl0;simp only[go_sem];exact agR
  ·refine .own fun id hid=>?_
   simp only[go_sem];exact .mk _ (.sl _ _) (.aj hid) ⟨rfl,rfl⟩
end Go.Proofs.YtelkmnkejghkeaaGreatDoor
namespace Go.Proofs.YtelkmnkejghkeaaGreatDoor
open Go Go.Ab Go.RowKit Go.Lib
theorem i5:∃i z,Tryz.prog.info? 5=some i∧i.zero=some z∧i.size=1∧i.bytes=1∧z.cells.size=1:=by obtain⟨i,h1,h2,h3,z,h4,h5,_⟩:=(hU 5).info aeG;exact⟨i,z,h1,h4,h2,by rw[h3];rfl,h5⟩
set_option maxHeartbeats 1000000 in
theorem Ke(a:Option Addr)(w:World):Calls Tryz.prog 229 #[.slice a 0 0,.int .i64 0] w fun e w' =>e= .returned (.slice a 0 0)∧w' =w:=by
 go_enter Tryz.func229,Tryz.ntmps229
 go_wp2
 go_ret
 simp
set_option maxHeartbeats 1000000 in
theorem Kc(a:Option Addr)(n:Nat)(h0:0<n)(hn:n≤20000000)(w:World):Calls Tryz.prog 229 #[.slice a 0 0,.int .i64 n] w fun e w' =>
  ∃z:Value,z.cells.size=1∧e= .returned (.slice (some ⟨w.heap.size,0,none⟩) 0 (grownCap w n 0 5))∧
   w' =w.drew.alloc (.cells (Builtin.zeroCells z.cells n++Builtin.zeroCells z.cells (grownCap w n 0 5 - n)) 5):=by
 obtain⟨i,z,e1,e2,e3,e4,e5⟩:=i5;have hsl:Tryz.prog.underlying 76=some (.slice 5):=by
  rfl
 have hin:Tryz.prog.underlying 3=some (.int .i64):=by
  rfl
 have hold:(Builtin.firstCells i.size 0 (.slice a 0 0)).run Tryz.prog w.drew= .ok (#[]:Array Value) w.drew:=by
  cases a<;>simp[Builtin.firstCells,loadCells,loadCellsFrom]
 have hrz:∀ty,(Builtin.append_ #[76,3] ty #[.slice a 0 0,.int .i64 (n:Int)]).run Tryz.prog w=
   .ok (.slice (some ⟨w.heap.size,0,none⟩) n (grownCap w n 0 5)) (w.drew.alloc (.cells (Builtin.zeroCells z.cells n++Builtin.zeroCells z.cells (grownCap w n 0 5 - n)) 5)):=fun ty=>by
  have h:=Lib.run_append_grow_zeros w 76 3 ty 5 i z .i64 .i64 hsl hin e1 e2 a 0 0 [] aeC n h0 aeC aeC aeC
   aeD
   (by rw[e4];exact growslice_fits aeC aeC)
  simpa using h
 have hG:=grownCap_ge w n 0 5;have hG63:grownCap w n 0 5≤9223372036854775807:=by
  grind [grownCap_le_maxLen,maxLen]
 obtain⟨G,hGe⟩:∃G,G=grownCap w n 0 5:=⟨_,rfl⟩;rw[←hGe]at hrz hG hG63⊢;have h3:wrap64 ((n:Int) - 0)=(n:Int):=by grind [wrap64]
 have h4:¬((n:Int)<0):=aeC;have h5:(n:Int)>0:=aeC;refine Calls.mono (R:=fun e w' =>e= .returned (.slice (some ⟨w.heap.size,0,none⟩) 0 G)∧w' =w.drew.alloc (.cells (Builtin.zeroCells z.cells n++Builtin.zeroCells z.cells (G - n)) 5)) ?_ aeD
 clear hold hGe
 go_enter Tryz.func229,Tryz.ntmps229
 cases a with
 |none=>
  go_wp2_with (at_builtin;refine Lib.wpList_append_run _ rfl _ _ _ _ rfl _ _ rfl rfl _ _ (hrz _) ?_)
  all_goals (go_ret;simp)
 |some q=>
  obtain⟨ab,ao,asp⟩:=q
  go_wp2_with (at_builtin;refine Lib.wpList_append_run _ rfl _ _ _ _ rfl _ _ rfl rfl _ _ (hrz _) ?_)
  all_goals (go_ret;simp)
end Go.Proofs.YtelkmnkejghkeaaGreatDoor
namespace Go.Proofs.YtelkmnkejghkeaaGreatDoor
open Go Go.Ab
variable {h h':Heap}{x X y v:AV}{l p:List UInt8}{cs cs' args xs zs:List AV}{Q:AV→Heap→Prop}{at_ t jid did:Nat}{ps:List (List UInt8)}{sp S T:List Nat}{down:Bool}
theorem TT:(U 5).bytes=1:=aeR
theorem PI(n:Nat)(hn:n≤20000000)(h:Heap):ai Tryz.prog 229 [.sl [] .full,.i n] h fun r h' =>Acc U 5 h h' r []∧fm h h' :=by
 refine fun c vs hs g hv hr=> .inl ⟨⟨_,Tryz.func229,aeR,rfl⟩,?_⟩
 have h0:=hr 0 aeJ;have h1:=hr 1 aeJ;obtain⟨a,cap,sz,val,e0,sl⟩:=h0.iQ;have hcap:cap=0:=sl.hp;subst hcap;have e1:=h1.bQ;have ev:vs= #[.slice a 0 0,.int .i64 n]:=by
  apply Array.ext
  ·omega
  ·intro i h2 h3
   have h3' :i<2:=h3;have:i=0∨i=1:=aeC;rcases this with rfl|rfl
   ·simpa[Array.getD,h2]using e0
   ·simpa[Array.getD,h2]using e1
 subst ev
 by_cases hn0:n=0
 ·subst hn0
  refine(Ke a c.w).mono ?_
  rintro e w' ⟨rfl,rfl⟩
  exact⟨_,rfl,c,.sl [] .full,h,rfl,g,.refl c,h0,hs,.full (.refl h),.refl h⟩
 ·refine(Kc a n aeC hn c.w).mono ?_
  rintro e w' ⟨z,hz,rfl,rfl⟩
  refine⟨_,rfl,?_⟩;have hG:=grownCap_ge c.w n 0 5;have hG63:grownCap c.w n 0 5≤9223372036854775807:=by
   grind [grownCap_le_maxLen,maxLen]
  generalize hGe:grownCap c.w n 0 5=G at hG hG63;generalize hcells:Builtin.zeroCells z.cells n++Builtin.zeroCells z.cells (G - n)=cells;have hcs:cells.size=G:=by grind [size_zeroCells]
  obtain⟨id,hid⟩:=g.fresh;have g1:Ab.Good ({c with w:=c.w.drew}:Cx):=g.draw rfl rfl rfl rfl
  have e1:Ext c {c with w:=c.w.drew}:=Ext.draw rfl rfl rfl rfl
  have hh:h id=none:=yX hs hid;refine⟨Cx.aA {c with w:=c.w.drew} (.cells cells 5) id ⟨c.w.heap.size,0,none⟩ (.spare 0 1),.sl [] (.own id),upd h id (some (.spare 0 1)),rfl,?_,e1.trans (Ext.aA _ _ id _ _ rfl (.inl hid)),?_,hs.upd id _,?_,?_⟩
  ·exact g1.aA _ _ _ id _ _ rfl (.inl hid) aeJ aeJ
  ·refine .sl [] _ (some ⟨c.w.heap.size,0,none⟩) G 1 (fun _ _=>undef) (Nat.zero_le _) (by grind [lim]) aeJ (fun q hq _=>by cases hq;exact⟨rfl,by simp[Cx.aA]⟩)
    aeJ aeJ aeJ aeJ ?_
   exact⟨0,agV,Nat.le_refl _,fun _=>⟨_,rfl,agV,cells,5,(0,0),heap_alloc_new c.w.drew _,aeD⟩⟩
  ·exact⟨(Sub.refl h).new hh _,.inr ⟨id,hh,rfl,by grind [ah,u5]⟩⟩
  ·exact((Sub.refl h).new hh _).fX
theorem I9(x y:AV)(a b:List UInt8)(h:Heap)(hx:By h x a)(hy:By h y b)(ha:a.length≤1000000000):
  ai Tryz.prog 25 [x,y] h fun r h' =>r= .b (decide (a=b))∧h' =h:=by
 refine aeB Tryz.func25 26 [.tmp 4] fun hwf=>?_
 simp only[go_sem,hx.len,hy.len];refine .intro (fun e=>?_) (fun e=>?_)
 ·simp only[go_sem]
  refine .same (.refl _) ⟨?_,rfl⟩;have:a≠b:=fun hh=>by simp[hh]at e
  simp[this,ax]
 ·have hl:a.length=b.length:=by simpa[Int.natCast_inj]using e
  simp only[go_sem];refine .intro (fun m ρ h' =>h' =h∧∃i:Nat,i≤a.length∧m=a.length - i∧a.take i=b.take i∧lk ρ 0=some x∧lk ρ 1=some y∧lk ρ 5=some (.i i)) a.length ?_ ?_
  ·refine⟨rfl,0,Nat.zero_le _,rfl,rfl,?_,?_,?_⟩<;>simp only[go_sem]
   all_goals rfl
  ·rintro m ρ h' ⟨rfl,i,hi,rfl,hab,r0,r1,r5⟩
   simp only[go_sem,r0,r1,r5,hx.len];refine .intro (fun e=>?_) (fun e=>?_)
   ·have hlt:i<a.length:=by simpa using e
    have hltb:i<b.length:=aeC;simp only[go_sem,r0,r1,r5];refine⟨.of aeF,hx.idx i rfl hlt u5 u5a fun p hp=>?_⟩
    simp only[go_sem,r0,r1,r5,hp _];refine hy.idx i rfl hltb u5 u5a fun p' hp' =>?_
    simp only[go_sem,r0,r1,r5,hp' _];refine .intro (fun e=>?_) (fun e=>?_)
    ·simp only[go_sem]
     refine .same (.refl _) ⟨?_,rfl⟩;have:a≠b:=fun hh=>by subst hh;simp at e
     simp[this,ax]
    ·have hc:a[i]=b[i]:=by
      have:(a[i].toNat:Int)=b[i].toNat:=by simpa using e
      exact UInt8.toNat_inj.1 aeC
     have w1:IntKind.i64.wrap ((i:Int)+1)=((i+1:Nat):Int):=afF;simp only[go_sem,r0,r1,r5,w1];refine⟨a.length - (i+1),aeC,rfl,i+1,hlt,rfl,?_,?_,?_,?_⟩
     ·rw[List.take_succ_eq_append_getElem hlt,List.take_succ_eq_append_getElem hltb,hab,hc]
     all_goals simp only[go_sem,r0,r1,r5]
   ·have hge:i=a.length:=by have:¬(i<a.length):=(by simpa using e);omega
    simp only[go_sem];refine .same (.refl _) ⟨?_,rfl⟩;have:a=b:=by
     subst hge;rw[List.take_length]at hab;rw[hab,hl,List.take_length]
    simp[this,ax]
theorem u27:(U 76).sz=1:=aeR
theorem oH(ls:List (List UInt8))(i:Nat)(hi:i<ls.length):(ls.take (i+1)).flatten=(ls.take i).flatten++ls[i]:=by rw[List.take_succ_eq_append_getElem hi,List.flatten_append,List.flatten_cons,List.flatten_nil,List.append_nil]
theorem pM(ls:List (List UInt8))(i:Nat):(ls.take i).flatten.length≤ls.flatten.length:=by grind [List.take_append_drop,List.flatten_append,aew]
theorem A8(ys:List AV)(ls:List (List UInt8))(q:Perm)(h:Heap)(hr:Ab.Rows 5 h ys ls)(hl:ls.flatten.length≤20000000)(hn:ls.length≤20000000):
  ai Tryz.prog 181 [.sl ys q] h fun r h' =>r= .sl (ls.flatten.map aJ) .no∧Sub h h' :=by
 have hlen:=hr.1;refine aeB Tryz.func181 36 [.tmp 2] fun hwf=>?_
 simp only[go_sem];refine .intro (fun m ρ h' =>h' =h∧∃i:Nat,i≤ls.length∧m=ls.length - i∧lk ρ 0=some (.sl ys q)∧lk ρ 9=some (.sl ys q)∧lk ρ 10=some (.i ys.length)∧
  lk ρ 11=some (.i i)∧lk ρ 3=some (.v (.int .i64 (ls.take i).flatten.length))) ls.length ?_ ?_
 ·refine⟨rfl,0,Nat.zero_le _,rfl,?_,?_,?_,?_,?_⟩<;>simp only[go_sem]
  all_goals first|rfl|simp
 ·rintro m ρ h' ⟨rfl,i,hi,rfl,r0,r9,r10,r11,r3⟩
  simp only[go_sem,r0,r9,r10,r11,r3];refine .intro (fun e=>?_) (fun e=>?_)
  ·have hlt:i<ys.length:=by simpa using e
   have hlt2:i<ls.length:=aeC;have hb:=hr.2 i hlt hlt2;simp only[go_sem,r0,r9,r10,r11,r3];refine .at i hlt (by rw[hb.cells];rfl) ?_
   have t1:=pM ls (i+1);have t2:=oH ls i hlt2;have w1:IntKind.i64.wrap (((ls.take i).flatten.length:Int)+(ls[i].length:Int))=((ls.take (i+1)).flatten.length:Nat):=by
    rw[t2,aew]at t1⊢;rw[IntWalk.i64_in _ aeC];omega
   simp only[go_sem,r0,r9,r10,r11,r3,hb.cells,hb.IN,and_self,hb.len,w1];refine .no (decide_eq_false aeC) ?_;have w2:IntKind.i64.wrap ((i:Int)+1)=((i+1:Nat):Int):=afF;simp only[go_sem,r0,r9,r10,r11,r3,w2];refine⟨ls.length - (i+1),aeC,rfl,i+1,hlt2,rfl,?_,?_,?_,?_,?_⟩<;>simp only[go_sem,r0,r9,r10,r11,r3]
  ·have hge:i=ls.length:=by
    have:¬(i<ys.length):=by simpa using e
    omega
   subst hge;rw[List.take_length]at r3;simp only[go_sem,r0,r9,r10,r11,r3];refine(PI ls.flatten.length hl h').mono fun g1 h1 ⟨ha,hk⟩=>?_
   simp only[go_sem,r0,r9,r10,r11,r3];refine .intro (fun m ρ h2=>∃g:AV,∃i:Nat,Acc U 5 h' h2 g ((ls.take i).flatten.map aJ)∧fm h' h2∧i≤ls.length∧m=ls.length - i∧lk ρ 25=some (.sl ys q)∧lk ρ 26=some (.i ys.length)∧
    lk ρ 27=some (.i i)∧lk ρ 6=some g) ls.length ?_ ?_
   ·refine⟨g1,0,ha,hk,Nat.zero_le _,rfl,?_,?_,?_,?_⟩<;>simp only[go_sem]
    all_goals rfl
   ·rintro m ρ h2 ⟨g,i,ha,hk,hi,rfl,r25,r26,r27,r6⟩
    simp only[go_sem,r25,r26,r27,r6];refine .intro (fun e=>?_) (fun e=>?_)
    ·have hlt:i<ys.length:=by simpa using e
     have hlt2:i<ls.length:=aeC;have hb:=(hr.2 i hlt hlt2).fX hk;have t1:=pM ls (i+1);have t2:=oH ls i hlt2;simp only[go_sem,r25,r26,r27,r6];refine .at i hlt (by rw[hb.cells];rfl) ?_
     simp only[go_sem,r25,r26,r27,r6,hb.cells,hb.IN,and_self];refine ha.app (zs:=ls[i].map aJ) (by rw[u5];decide) (by rw[TT];decide) (fun k hk=>by rw[hb.src u5];exact hk) (by rw[u5,jQ];trivial) (by rw[u5,jQ];trivial) ?_ fun g' h3 ha' hk' =>?_
     ·rw[TT,aes,aes]
      rw[t2,aew]at t1;omega
     ·have w2:IntKind.i64.wrap ((i:Int)+1)=((i+1:Nat):Int):=by rw[IntWalk.i64_in _ aeC];omega
      simp only[go_sem,r25,r26,r27,r6,w2];rw[←List.map_append,←t2]at ha';refine⟨ls.length - (i+1),aeC,g',i+1,ha',hk.trans hk',hlt2,rfl,?_,?_,?_,?_⟩<;>simp only[go_sem,r25,r26,r27,r6]
    ·have hge:i=ls.length:=by
      have:¬(i<ys.length):=by simpa using e
      omega
     subst hge;rw[List.take_length]at ha;simp only[go_sem,r25,r26,r27,r6];exact .mk _ ha.weak (.refl _) ⟨rfl,ha.1⟩
structure D where
 q:Nat
 b:List UInt8
 sy:Nat
 f:Nat
 off:Bool
variable {d:D}
def D.ok(d:D):Prop:=d.b.length≤d.q∧d.q≤1048576∧d.sy≤d.b.length∧d.f<9223372036854775808
def D.burn(d:D):D:=if 0<d.f then {d with f:=d.f - 1,off:=decide (d.f=1)} else d
def D.cells(d:D)(y:AV):List AV:=[.i d.q,y,.i d.sy,.i d.f,.b d.off]
def bR(h:Heap)(id:Nat)(d:D):Prop:=∃y,h id=some (.obj (d.cells y) 92)∧By h y d.b
theorem bR.keep{id:Nat}(hd:bR h id d)(hs:fm h h'):bR h' id d:=by obtain⟨y,h1,h2⟩:=hd;exact⟨y,hs _ _ _ h1,h2.fX hs⟩
theorem By.set{id:Nat}(hb:By h x l)(hid:h id=some (.obj cs 92)):By (upd h id (some (.obj cs' 92))) x l:=hb.keep (Keep.upd id _) hid aeG
theorem Mt(q:Nat)(hq:q≤1048576)(h:Heap):
  ai Tryz.prog 29 [.i q] h fun r h' =>∃id,h id=none∧r= .tup [.ptr id 0,.i 0]∧bR h' id ⟨q,[],0,0,false⟩∧Sub h h' :=by
 refine aeB Tryz.func29 13 [.tmp 2,.tmp 3] fun hwf=>?_
 simp only[go_sem];refine .intro (fun e=>absurd (aeu e) aeC) (fun e=>?_)
 simp only[go_sem];refine .no (decide_eq_false aeC) ?_;simp only[go_sem];intro id hid;simp only[go_sem];exact .same (.refl _) ⟨id,hid,rfl,⟨_,ah ..,.inl ⟨.full,rfl⟩⟩,(Sub.refl h).new hid _⟩
theorem pJ(d:D)(hd:d.ok)(id:Nat)(h:Heap)(y:AV)(hid:h id=some (.obj (d.cells y) 92)):
  ai Tryz.prog 166 [.ptr id 0] h fun r h' =>r= .b d.burn.off∧h' =upd h id (some (.obj (d.burn.cells y) 92)):=by
 obtain⟨q,b,sy,f,off⟩:=d;obtain⟨d1,d2,d3,d4⟩:=hd;simp only at d1 d2 d3 d4;simp only[D.cells]at hid;refine aeB Tryz.func166 27 [.tmp 2] fun hwf=>?_
 simp only[go_sem,hid];refine .intro (fun e=>?_) (fun e=>?_)
 ·have e:=aeu e
  have w1:IntKind.i64.wrap ((f:Int) - 1)=((f - 1:Nat):Int):=afF;simp only[go_sem,hid,w1];have hb:(((f - 1:Nat):Int)==0)=decide (f=1):=by
   by_cases h1:f=1
   ·simp[h1]
   ·have:f - 1≠0:=by omega
    simp[h1,Int.natCast_eq_zero,this]
  refine .same (.refl _) ⟨?_,?_⟩
  ·simp only[D.burn,if_pos (show 0<f by omega),hb,ax]
  ·simp only[D.burn,D.cells,if_pos (show 0<f by omega),hb]
 ·have e:=aev e
  have hf:¬0<f:=aeC;simp only[go_sem,hid];refine .same (.refl _) ⟨?_,?_⟩
  ·simp only[D.burn,if_neg hf,ax]
  ·simp only[D.burn,D.cells,if_neg hf]
   funext j
   simp only[upd];split
   ·rename_i e;subst e;exact hid
   ·rfl
theorem D.pJ(hd:d.ok):d.burn.ok:=by
 obtain⟨d1,d2,d3,d4⟩:=hd;unfold D.burn;split
 ·exact⟨d1,d2,d3,aeD⟩
 ·exact⟨d1,d2,d3,d4⟩
theorem D.vn(d:D):d.burn.b=d.b:=by grind [D.burn]
theorem D.Mf(d:D):d.burn.q=d.q:=by grind [D.burn]
theorem D.Ph(d:D):d.burn.sy=d.sy:=by grind [D.burn]
theorem PD(d:D)(hd:d.ok)(id:Nat)(h:Heap)(y:AV)(hid:h id=some (.obj (d.cells y) 92))(hb:By h y d.b):
  ai Tryz.prog 180 [.ptr id 0] h fun r h' =>r= .i (d.q - d.b.length:Nat)∧h' =h:=by
 obtain⟨q,b,sy,f,off⟩:=d;obtain⟨d1,d2,d3,d4⟩:=hd;simp only at d1 d2 d3 d4 hb;simp only[D.cells]at hid;refine aeB Tryz.func180 13 [.tmp 2] fun hwf=>?_
 have w1:IntKind.i64.wrap ((q:Int) - b.length)=((q - b.length:Nat):Int):=afF;simp only[go_sem,hid,hb.len,w1];exact⟨.of aeF,.same (.refl _) ⟨rfl,rfl⟩⟩
theorem Tg(d:D)(id:Nat)(h:Heap)(y:AV)(hid:h id=some (.obj (d.cells y) 92))(hb:By h y d.b):
  ai Tryz.prog 116 [.ptr id 0] h fun r h' =>r= .i d.b.length∧h' =h:=by
 simp only[D.cells]at hid;refine aeB Tryz.func116 8 [.tmp 2] fun hwf=>?_
 simp only[go_sem,hid,hb.len];exact aeL
theorem Qv(d:D)(hd:d.ok)(id:Nat)(h:Heap)(y:AV)(hid:h id=some (.obj (d.cells y) 92))(hb:By h y d.b):
  ai Tryz.prog 115 [.ptr id 0] h fun r h' =>r= .sl (d.b.map aJ) .no∧h' =h:=by
 obtain⟨d1,d2,d3,d4⟩:=hd;simp only[D.cells]at hid;refine aeB Tryz.func115 8 [.tmp 2] fun hwf=>?_
 simp only[go_sem,hid];refine(oW y d.b h hb aeC).mono fun r h' ⟨e1,e2⟩=>?_
 subst e1;subst e2
 simp only[go_sem];exact aeL
def D.append(d:D)(b:List UInt8):D×Nat:=
 if d.off then(d,9)else if d.q<d.b.length+b.length then(d,8)else
  let e:=D.burn {d with b:=d.b++b}
  (e,if e.off then 9 else 0)
def D.sync(d:D):D×Nat:=
 if d.off then(d,9)else if d.burn.off then(d.burn,9)else({d.burn with sy:=d.b.length},0)
def D.cut(d:D)(n:Int):D×Nat:=
 if d.off then(d,9)else if n<0∨(d.b.length:Int)<n then(d,1)else
  if d.burn.off then(d.burn,9)else({d.burn with b:=d.b.take n.toNat,sy:=min d.sy n.toNat},0)
theorem D.vl(hd:d.ok)(b:List UInt8):(d.append b).1.ok:=by
 unfold D.append;split
 ·omega
 ·split
  ·omega
  ·refine D.pJ ⟨?_,hd.2.1,?_,hd.2.2.2⟩
   ·grind
   ·have:=hd.2.2.1
    grind
theorem D.yd(hd:d.ok):d.sync.1.ok:=by
 have hb:=D.pJ hd;unfold D.sync;split
 ·exact hd
 ·split
  ·exact hb
  ·obtain⟨d1,d2,d3,d4⟩:=hb
   refine⟨d1,d2,?_,d4⟩;simp[D.vn,Nat.le_refl]
theorem D.Cr(hd:d.ok)(n:Int):(d.cut n).1.ok:=by
 have hb:=D.pJ hd;unfold D.cut;split
 ·exact hd
 ·split
  ·exact hd
  ·split
   ·exact hb
   ·obtain⟨d1,d2,d3,d4⟩:=hb
    obtain⟨e1,e2,e3,e4⟩:=hd;refine⟨?_,?_,?_,d4⟩
    ·grind [D.Mf,List.length_take]
    ·grind [D.Mf]
    grind
theorem vl(d:D)(hd:d.ok)(id:Nat)(h:Heap)(x:AV)(b:List UInt8)(hdk:bR h id d)(hx:By h x b)(hl:b.length≤1000000000):
  ai Tryz.prog 131 [.ptr id 0,x] h fun r h' =>r= .v (.int .i64 (d.append b).2)∧bR h' id (d.append b).1∧Keep id h h' :=by
 obtain⟨y,hid0,hb⟩:=hdk;have hid:=hid0;simp only[D.cells]at hid;have hok:=hd;obtain⟨d1,d2,d3,d4⟩:=hd;refine aeB Tryz.func131 26 [.tmp 4] fun hwf=>?_
 simp only[go_sem,hid];refine .intro (fun e=>?_) (fun e=>?_)
 ·simp only[go_sem]
  refine .same (.refl _) ?_;simp only[D.append,e,if_true,ax];exact af8
 ·simp only[go_sem,hid,hx.len]
  refine(PD d hok id h y hid0 hb).mono fun r h' ⟨e1,e2⟩=>?_
  subst e1;subst e2
  simp only[go_sem];refine .intro (fun e2=>?_) (fun e2=>?_)
  ·have e2:=aeu e2
   simp only[go_sem];refine .same (.refl _) ?_;simp only[D.append,e,if_pos (show d.q<d.b.length+b.length by omega),ax]
   exact af8
  ·have e2:=aev e2
   have hno:¬d.q<d.b.length+b.length:=aeC;simp only[go_sem,hid,hb.fit,hx.fit];refine(A8 [y,x] [d.b,b] .full h' (.cons hb (.cons hx .nil)) ?_ aeJ).mono fun r h1 ⟨e1,hs⟩=>?_
   ·simp only[List.flatten_cons,List.flatten_nil,List.append_nil,aew];omega
   ·subst e1
    have hid1:=hs _ _ hid;simp only[go_sem,hid1];have hok2:D.ok {d with b:=d.b++b}:=⟨by show(d.b++b).length≤d.q;rw[aew];omega,d2,by show d.sy≤(d.b++b).length;rw[aew];omega,d4⟩
    refine(pJ {d with b:=d.b++b} hok2 id _ (.sl ((d.b++b).map aJ) .no) ?_).mono fun r h2 ⟨e1,e2⟩=>?_
    ·rw[ah]
     simp only[D.cells,List.flatten_cons,List.flatten_nil,List.append_nil]
    ·subst e1;subst e2
     have hk:Keep id h' (upd (upd h1 id (some (.obj (d.cells (.sl ((d.b++b).map aJ) .no)) 92))) id (some (.obj ((D.burn {d with b:=d.b++b}).cells (.sl ((d.b++b).map aJ) .no)) 92))):=
      (hs.keep id).trans ((Keep.upd id _).trans (Keep.upd id _))
     have hA:d.append b=(D.burn {d with b:=d.b++b},if(D.burn {d with b:=d.b++b}).off then 9 else 0):=by
      unfold D.append;rw[if_neg (by simp[e]),if_neg hno]
     simp only[go_sem];refine .intro (fun e3=>?_) (fun e3=>?_)
     ·simp only[go_sem]
      refine .same (.refl _) ?_;rw[hA,if_pos e3];refine⟨rfl,⟨_,ah ..,?_⟩,fun j k hj hk2=>?_⟩
      ·simp only[D.vn];exact .sl _ _
      ·rw[ag _ _ hj];exact hs _ _ hk2
     ·simp only[go_sem]
      refine .same (.refl _) ?_;rw[hA,if_neg (by simp[e3])]
      refine⟨rfl,⟨_,ah ..,?_⟩,fun j k hj hk2=>?_⟩
      ·simp only[D.vn];exact .sl _ _
      ·rw[ag _ _ hj];exact hs _ _ hk2
theorem yd(d:D)(hd:d.ok)(id:Nat)(h:Heap)(hdk:bR h id d):
  ai Tryz.prog 118 [.ptr id 0] h fun r h' =>r= .i d.sync.2∧bR h' id d.sync.1∧Keep id h h' :=by
 obtain⟨y,hid0,hb⟩:=hdk;have hid:=hid0;simp only[D.cells]at hid;refine aeB Tryz.func118 19 [.tmp 2] fun hwf=>?_
 simp only[go_sem,hid];refine .intro (fun e=>?_) (fun e=>?_)
 ·simp only[go_sem,e]
  refine .same (.refl _) ?_;simp only[D.sync,e,if_true,ax];exact af8
 ·simp only[go_sem,e]
  refine(pJ d hd id h y hid0).mono fun r h1 ⟨e1,e2⟩=>?_
  subst e1;subst e2
  simp only[go_sem];refine .intro (fun e3=>?_) (fun e3=>?_)
  ·simp only[go_sem]
   refine .same (.refl _) ?_;rw[show d.sync=(d.burn,9) by unfold D.sync;rw[if_neg (by simp[e]),if_pos e3]]
   exact⟨rfl,⟨_,ah ..,by rw[D.vn];exact hb.set hid⟩,Keep.upd id _⟩
  ·simp only[D.cells]
   simp only[go_sem,hb.len];refine .same (.refl _) ?_;rw[show d.sync=({d.burn with sy:=d.b.length},0) by unfold D.sync;rw[if_neg (by simp[e]),if_neg (by simp[e3])]]
   exact⟨rfl,⟨_,ah ..,by show By _ _ d.burn.b;rw[D.vn];exact hb.set hid⟩,Keep.upd id _⟩
theorem Cr(d:D)(hd:d.ok)(id:Nat)(h:Heap)(n:Int)(hdk:bR h id d):
  ai Tryz.prog 117 [.ptr id 0,.i n] h fun r h' =>r= .v (.int .i64 (d.cut n).2)∧bR h' id (d.cut n).1∧Keep id h h' :=by
 obtain⟨y,hid0,hb⟩:=hdk;have hid:=hid0;simp only[D.cells]at hid;have hok:=hd;obtain⟨d1,d2,d3,d4⟩:=hd;refine aeB Tryz.func117 41 [.tmp 4] fun hwf=>?_
 simp only[go_sem,hid];refine .intro (fun e=>?_) (fun e=>?_)
 ·simp only[go_sem]
  refine .same (.refl _) ?_;simp only[D.cut,e,if_true,ax];exact af8
 ·simp only[go_sem,hid]
  have bad:(n<0∨(d.b.length:Int)<n)→nP [.i 1] h fun r h' =>r= .v (.int .i64 (d.cut n).2)∧bR h' id (d.cut n).1∧Keep id h h' :=fun hbad=>by
   refine .same (.refl _) ?_;simp only[D.cut,e,if_pos hbad,ax];exact af8
  refine .intro (fun e2=>?_) (fun e2=>?_)
  ·have e2' :=aeu e2
   simp only[go_sem,e2];exact bad (.inl e2')
  ·have e2' :=aev e2
   simp only[go_sem,e2,hid,hb.len];refine .intro (fun e3=>?_) (fun e3=>?_)
   ·have e3' :=aeu e3
    simp only[go_sem];exact bad (.inr e3')
   ·have e3' :=aev e3
    have hno:¬(n<0∨(d.b.length:Int)<n):=aeC;simp only[go_sem];refine(pJ d hok id h y hid0).mono fun r h1 ⟨e1,e2⟩=>?_
    subst e1;subst e2
    simp only[go_sem];refine .intro (fun e4=>?_) (fun e4=>?_)
    ·simp only[go_sem]
     refine .same (.refl _) ?_;rw[show d.cut n=(d.burn,9) by unfold D.cut;rw[if_neg (by simp[e]),if_neg hno,if_pos e4]]
     exact⟨rfl,⟨_,ah ..,by rw[D.vn];exact hb.set hid⟩,Keep.upd id _⟩
    ·have hb1:By (upd h id (some (.obj (d.burn.cells y) 92))) y d.b:=hb.set hid
     simp only[D.cells]at hb1⊢;simp only[go_sem];refine hb1.take (m:=n) (x:=.i64) n.toNat ?_ aeC aeC u5 fun z hz=>?_
     ·simp only[go_sem]
     ·simp only[go_sem]
      refine(oW z _ _ hz agb).mono fun r h1 ⟨e1,e2⟩=>?_
      subst e1;subst e2
      simp only[go_sem];refine .same (.refl _) ?_;rw[show d.cut n=({d.burn with b:=d.b.take n.toNat,sy:=min d.sy n.toNat},0) by unfold D.cut;rw[if_neg (by simp[e]),if_neg hno,if_neg (by simp[e4])]]
      refine⟨rfl,⟨.sl ((d.b.take n.toNat).map aJ) .no,?_,.sl _ _⟩,Keep.upd id _⟩;simp only[ah,D.cells,D.Ph];have:(if n<(d.sy:Int)then n else(d.sy:Int))=((min d.sy n.toNat:Nat):Int):=by split<;>omega
      rw[this]
theorem D.Pb{b:List UInt8}(h1:d.off=false)(h2:d.f=0)(h3:d.b.length+b.length≤d.q):d.append b=({d with b:=d.b++b},0):=by
 rcases d with⟨q,b0,sy,f,off⟩
 subst h1;subst h2
 unfold D.append;rw[if_neg aeJ,if_neg aeD];rfl
theorem D.WN(h1:d.off=false)(h2:d.f=0):d.sync=({d with sy:=d.b.length},0):=by simp_all [D.sync,D.burn,if_neg]
theorem dthen{f:FuncId}{id:Nat}(hf:ai Tryz.prog f args h fun r h' =>r=X∧bR h' id d∧Keep id h h')(k:∀h',bR h' id d→Keep id h h'→Q X h'):ai Tryz.prog f args h Q:=
 hf.mono fun r h' ⟨e1,e2,e3⟩=>by subst e1;exact k h' e2 e3
theorem N0(d:D)(hk:d.ok)(id:Nat)(h:Heap)(hd:bR h id d):ai Tryz.prog 115 [.ptr id 0] h fun r h' =>r= .sl (d.b.map aJ) .no∧h' =h:=by obtain⟨y,h1,h2⟩:=hd;exact Qv d hk id h y h1 h2
theorem P7(d:D)(id:Nat)(h:Heap)(hd:bR h id d):ai Tryz.prog 116 [.ptr id 0] h fun r h' =>r= .i d.b.length∧h' =h:=by obtain⟨y,h1,h2⟩:=hd;exact Tg d id h y h1 h2
theorem lK{b:List UInt8}(h1:d.off=false)(h2:d.b.length+b.length≤d.q):d.append b=(D.burn {d with b:=d.b++b},if(D.burn {d with b:=d.b++b}).off then 9 else 0):=by simp_all [D.append,if_neg]
theorem D.FO{b:List UInt8}(h1:d.off=false)(h2:d.q<d.b.length+b.length):d.append b=(d,8):=by simp_all [D.append,if_neg,if_pos]
def Cp(s:BitVec 32):BitVec 32:=if s &&& 1#32=1#32 then(s>>>1) ^^^ 0xedb88320#32 else s>>>1
def JF:Nat→BitVec 32→BitVec 32
 |0,s=>s
 |n+1,s=>Cp (JF n s)
def rX(s:BitVec 32)(c:UInt8):BitVec 32:=JF 8 (s ^^^ BitVec.ofNat 32 c.toNat)
def crc(l:List UInt8):BitVec 32:= ~~~ (l.foldl rX (BitVec.allOnes 32))
theorem Sw(c:UInt8):IntKind.u32.wrap (c.toNat:Int)=((BitVec.ofNat 32 c.toNat).toNat:Int):=by rfl
theorem He(x:BitVec 32):(((x &&& 1#32).toNat:Int)==1)=decide (x &&& 1#32=1#32):=by
 rw[Bool.eq_iff_iff,beq_iff_eq,decide_eq_true_iff];constructor
 ·intro h
  apply BitVec.eq_of_toNat_eq
  grind
 grind
theorem On(y:AV)(l:List UInt8)(h:Heap)(hb:By h y l)(hl:l.length≤1000000000):
  ai Tryz.prog 183 [y] h fun r h' =>r= .v (.int .u32 ((crc l).toNat:Int))∧h' =h:=by
 refine aeB Tryz.func183 31 [.tmp 2] fun hwf=>?_
 simp only[go_sem,hb.len];refine .intro (fun m ρ h' =>h' =h∧∃i:Nat,i≤l.length∧m=l.length - i∧lk ρ 7=some y∧lk ρ 8=some (.i l.length)∧lk ρ 9=some (.i i)∧lk ρ 3=some (.v (.int .u32 (((l.take i).foldl rX (BitVec.allOnes 32)).toNat:Int)))) l.length ?_ ?_
 ·refine⟨rfl,0,aeC,rfl,?_,?_,?_,?_⟩<;>simp only[go_sem]
  rfl
 ·rintro m ρ h' ⟨rfl,i,hi,rfl,r7,r8,r9,r3⟩
  simp only[go_sem,r7,r8,r9,r3];refine .intro (fun e=>?_) (fun e=>?_)
  ·have hlt:i<l.length:=aez e
   have w1:IntKind.i64.wrap ((i:Int)+1)=((i+1:Nat):Int):=aeN;have hs:(l.take (i+1)).foldl rX (BitVec.allOnes 32)=rX ((l.take i).foldl rX (BitVec.allOnes 32)) l[i]:=by
    grind [List.take_succ_eq_append_getElem]
   generalize (l.take i).foldl rX (BitVec.allOnes 32)=s at r3 hs;simp only[go_sem,r7,r8,r9,r3];refine hb.idx i rfl hlt u5 u5a fun p hp=>?_
   simp only[go_sem,r7,r8,r9,r3,hp _,Sw];refine .intro (fun m ρ h2=>h2=h'∧∃j:Nat,j≤8∧m=8 - j∧lk ρ 7=some y∧lk ρ 8=some (.i l.length)∧lk ρ 9=some (.i i)∧lk ρ 17=some (.i j)∧lk ρ 3=some (.v (.int .u32 ((JF j (s ^^^ BitVec.ofNat 32 l[i].toNat)).toNat:Int)))) 8 ?_ ?_
   ·refine⟨rfl,0,aeC,rfl,?_,?_,?_,?_,?_⟩<;>simp only[go_sem,r7,r8,r9,r3]
    rfl
   ·rintro m ρ h2 ⟨rfl,j,hj,rfl,q7,q8,q9,q17,q3⟩
    simp only[go_sem,q7,q8,q9,q17,q3];refine .intro (fun e=>?_) (fun e=>?_)
    ·have hjl:j<8:=by grind
     have w2:IntKind.i64.wrap ((j:Int)+1)=((j+1:Nat):Int):=aeN;have hc:JF (j+1) (s ^^^ BitVec.ofNat 32 l[i].toNat)=Cp (JF j (s ^^^ BitVec.ofNat 32 l[i].toNat)):=rfl;generalize JF j (s ^^^ BitVec.ofNat 32 l[i].toNat)=z at q3 hc;simp only[go_sem,q7,q8,q9,q17,q3,He];refine .intro (fun e2=>?_) (fun e2=>?_)
     ·simp only[go_sem,q7,q8,q9,q17,q3,He,w2]
      refine⟨_,?_,rfl,j+1,aeC,rfl,?_,?_,?_,?_,?_⟩
      rotate_left 5
      ·simp only[go_sem,q7,q8,q9,q17,q3]
       simp_all [Cp,if_pos,aeu]
      ·omega
      all_goals simp only[go_sem,q7,q8,q9,q17,q3,w2]
     ·simp only[go_sem,q7,q8,q9,q17,q3,He,w2]
      refine⟨_,?_,rfl,j+1,aeC,rfl,?_,?_,?_,?_,?_⟩
      rotate_left 5
      ·simp only[go_sem,q7,q8,q9,q17,q3]
       simp_all [Cp,if_neg,aev]
      ·omega
      all_goals simp only[go_sem,q7,q8,q9,q17,q3,w2]
    ·have hj8:j=8:=by grind
     subst hj8;simp only[go_sem,q7,q8,q9,q17,q3,w1];refine⟨_,?_,rfl,i+1,aeC,rfl,?_,?_,?_,?_⟩
     rotate_left 4
     ·simp only[go_sem,q7,q8,q9,q17,q3]
      rw[hs];rfl
     ·omega
     all_goals simp only[go_sem,q7,q8,q9,q17,q3,w1]
  ·have hge:i=l.length:=by grind
   subst hge;rw[List.take_length]at r3;simp only[go_sem,r7,r8,r9,r3];exact aeL
def wN(n:Nat):List UInt8:=[UInt8.ofNat n,UInt8.ofNat (n / 256),UInt8.ofNat (n / 65536),UInt8.ofNat (n / 16777216)]
def jo(l:List UInt8):Nat:=(l.getD 0 0).toNat+(l.getD 1 0).toNat*256+(l.getD 2 0).toNat*65536+(l.getD 3 0).toNat*16777216
theorem Ir(n:Nat)(hn:n<4294967296)(h:Heap):ai Tryz.prog 182 [.v (.int .u32 (n:Int))] h fun r h' =>r= .sl ((wN n).map aJ) .no∧h' =h:=by
 refine aeB Tryz.func182 15 [.tmp 2] fun hwf=>?_
 have s8:=fun K=>Me (U:=U) (ty:=273) (K:=K) n 8 .u64 aeG
 have s16:=fun K=>Me (U:=U) (ty:=273) (K:=K) n 16 .u64 aeG
 have s24:=fun K=>Me (U:=U) (ty:=273) (K:=K) n 24 .u64 aeG
 simp only[Int.cast_ofNat_Int]at s8 s16 s24;simp only[go_sem,↓s8,↓s16,↓s24,w8];exact agR
theorem DY(y:AV)(l:List UInt8)(h:Heap)(hb:By h y l)(hl:4≤l.length):ai Tryz.prog 219 [y] h fun r h' =>r= .v (.int .u32 (jo l:Nat))∧h' =h:=by
 refine aeB Tryz.func219 25 [.tmp 2] fun hwf=>?_
 have lt:∀c:UInt8,c.toNat<256:=fun c=>c.toNat_lt
 have hnum:jo l=l[0].toNat+l[1].toNat*2 ^ 8+l[2].toNat*2 ^ 16+l[3].toNat*2 ^ 24:=by
  grind [jo]
 generalize hc0:l[0]=c0 at hnum;generalize hc1:l[1]=c1 at hnum;generalize hc2:l[2]=c2 at hnum;generalize hc3:l[3]=c3 at hnum;have v:=fun c:UInt8=>w32 c.toNat aeD
 have s1:=fun K=>FU (U:=U) (ty:=273) (K:=K) c1.toNat 8 .u64 aeG (lt _)
 have s2:=fun K=>FU (U:=U) (ty:=273) (K:=K) c2.toNat 16 .u64 aeG (lt _)
 have s3:=fun K=>FU (U:=U) (ty:=273) (K:=K) c3.toNat 24 .u64 aeG (lt _)
 have o1:=fun K=>Md (U:=U) (ty:=273) (K:=K) c0.toNat c1.toNat 8 aeD aeG (lt _)
 have o2:=fun K=>Md (U:=U) (ty:=273) (K:=K) (c0.toNat+c1.toNat*2 ^ 8) c2.toNat 16 aeD aeG (lt _)
 have o3:=fun K=>Md (U:=U) (ty:=273) (K:=K) (c0.toNat+c1.toNat*2 ^ 8+c2.toNat*2 ^ 16) c3.toNat 24 aeD aeG (lt _)
 simp only[Int.cast_ofNat_Int]at s1 s2 s3;simp only[go_sem];refine⟨.of aeF,?_⟩;refine hb.idx 0 rfl aeC u5 u5a fun p0 hp0=>?_
 rw[hc0]at hp0;simp only[go_sem,hp0 _,v];refine hb.idx 1 rfl aeC u5 u5a fun p1 hp1=>?_
 rw[hc1]at hp1;simp only[go_sem,hp1 _,v,↓s1,↓o1];refine hb.idx 2 rfl aeC u5 u5a fun p2 hp2=>?_
 rw[hc2]at hp2;simp only[go_sem,hp2 _,v,↓s2,↓o2];refine hb.idx 3 rfl aeC u5 u5a fun p3 hp3=>?_
 rw[hc3]at hp3;simp only[go_sem,hp3 _,v,↓s3,↓o3];refine .same (.refl _) ⟨?_,rfl⟩;rw[hnum];rfl
theorem uh(n:Nat):(wN n).length=4:=rfl
theorem Qj(l:List UInt8):jo l<4294967296:=by
 have h:∀c:UInt8,c.toNat<256:=fun c=>c.toNat_lt
 have h0:=h (l.getD 0 0);have h1:=h (l.getD 1 0);have h2:=h (l.getD 2 0);have h3:=h (l.getD 3 0);unfold jo;omega
def frame(p:List UInt8):List UInt8:=wN p.length++wN (crc p).toNat++p
theorem mK(p:List UInt8):(frame p).length=8+p.length:=by grind [frame,uh]
def ie(l:List UInt8):Option (List UInt8):=
 if l.length<8 then none else if jo l<1∨8192<jo l∨l.length - 8<jo l then none else
  if(crc ((l.drop 8).take (jo l))).toNat=jo (l.drop 4)then some ((l.drop 8).take (jo l))else none
theorem nS(h:ie l=some p):8+p.length≤l.length∧1≤p.length∧p.length≤8192:=by
 unfold ie at h;split at h
 ·cases h
 ·split at h
  ·cases h
  ·split at h
   ·simp only[Option.some.injEq]at h
    subst h;rw[List.length_take,List.length_drop];omega
   ·cases h
theorem sH(l:List UInt8)(h:l.length<8):ie l=none:=by simp_all [ie,if_pos]
def scan(l:List UInt8):List (List UInt8)×Nat:=match h:ie l with
 |none=>([],0)
 |some p=>let r:=scan (l.drop (8+p.length));(p::r.1,8+p.length+r.2)
termination_by l.length
decreasing_by
 have:=nS h;rw[List.length_drop];omega
theorem su(h:ie l=none):scan l=([],0):=by grind [scan]
theorem vR(h:ie l=some p):scan l=(p::(scan (l.drop (8+p.length))).1,8+p.length+(scan (l.drop (8+p.length))).2):=by grind [scan]
def frames(ps:List (List UInt8)):List UInt8:=(ps.map frame).flatten
theorem wO(p:List UInt8)(ps:List (List UInt8)):frames (ps++ [p])=frames ps++frame p:=by simp[frames]
theorem QC(l:List UInt8):(scan l).2≤l.length:=by
 induction hn:l.length using Nat.strongRecOn generalizing l with
 |_ n ih=>
  cases hb:ie l with
  |none=>simp_all [su,Nat.zero_le]
  |some p=>
   have hl:=nS hb;rw[vR hb];have:=ih (l.drop (8+p.length)).length aeD _ rfl;rw[List.length_drop]at this;omega
theorem MK(y:AV)(l:List UInt8)(h:Heap)(hb:By h y l)(hl:l.length≤1000000):
  ai Tryz.prog 132 [y] h fun r h' =>r= .sl ((frame l).map aJ) .no∧Sub h h' :=by
 refine aeB Tryz.func132 13 [.tmp 2] fun hwf=>?_
 have w1:=w32 l.length aeC;simp only[go_sem,hb.len,w1];refine(Ir l.length aeC h).pthen ?_;simp only[go_sem];refine(On y l h hb aeC).pthen ?_;simp only[go_sem];refine(Ir (crc l).toNat (crc l).isLt h).pthen ?_;simp only[go_sem,hb.cells,hb.fit];refine(A8 [.sl ((wN l.length).map aJ) .no,.sl ((wN (crc l).toNat).map aJ) .no,y] [wN l.length,wN (crc l).toNat,l] .full h (.cons (.sl _ _) (.cons (.sl _ _) (.cons hb .nil))) ?_ aeJ).sthen fun h' hs=>?_
 ·grind [uh]
 simp only[go_sem];refine .same (.refl _) ⟨?_,hs⟩;simp[frame,ax]
theorem Cy(y:AV)(l:List UInt8)(h:Heap)(hb:By h y l)(hl:l.length≤2000000):
  ai Tryz.prog 165 [y] h fun r h' =>(∃P p b,r= .tup [P,.b b]∧By h P p∧ie l=if b=true then some p else none)∧h' =h:=by
 refine aeB Tryz.func165 36 [.tmp 2,.tmp 3] fun hwf=>?_
 rcases Nat.lt_or_ge l.length 8 with h8|h8
 ·have t1:decide ((l.length:Int)<8)=true:=decide_eq_true aeC
  simp only[go_sem,hb.len,t1];exact .same (.refl _) ⟨⟨_,[],false,rfl,.nil _,sH l h8⟩,rfl⟩
 ·have t1:decide ((l.length:Int)<8)=false:=decide_eq_false aeC
  simp only[go_sem,hb.len,t1];refine(DY y l h hb aeC).pthen ?_;have hn:=Qj l;have w1:IntKind.i64.wrap ((jo l:Nat):Int)=((jo l:Nat):Int):=aW _ aeC;have w2:IntKind.i64.wrap ((l.length:Int) - 8)=((l.length - 8:Nat):Int):=afa
  by_cases hbad:jo l<1∨8192<jo l∨l.length - 8<jo l
  ·have hnone:ie l=none:=by unfold ie;rw[if_neg aeC,if_pos hbad]
   have fin:∀Z:Prop,Z→Z:=fun _ z=>z
   by_cases c1:jo l<1
   ·have t2:decide (((jo l:Nat):Int)<1)=true:=decide_eq_true aeC
    simp only[go_sem,hb.len,w1,w2,t2];exact af6
   ·have t2:decide (((jo l:Nat):Int)<1)=false:=decide_eq_false aeC
    by_cases c2:8192<jo l
    ·have t3:decide ((8192:Int)<((jo l:Nat):Int))=true:=decide_eq_true aeC
     simp only[go_sem,hb.len,w1,w2,t2,t3];exact af6
    ·have t3:decide ((8192:Int)<((jo l:Nat):Int))=false:=decide_eq_false aeC
     have t4:decide (((l.length - 8:Nat):Int)<((jo l:Nat):Int))=true:=decide_eq_true aeC;simp only[go_sem,hb.len,w1,w2,t2,t3,t4];exact af6
  ·have t2:decide (((jo l:Nat):Int)<1)=false:=decide_eq_false aeC
   have t3:decide ((8192:Int)<((jo l:Nat):Int))=false:=decide_eq_false aeC;have t4:decide (((l.length - 8:Nat):Int)<((jo l:Nat):Int))=false:=decide_eq_false aeC;have w3:IntKind.i64.wrap ((8:Int)+((jo l:Nat):Int))=((8+jo l:Nat):Int):=afa;simp only[go_sem,hb.len,w1,w2,t2,t3,t4,w3];refine hb.cut (m:=8) (m2:=(8+jo l:Nat)) (x:=.i64) (x2:=.i64) 8 (8+jo l) ?_ rfl ?_ rfl aeC aeC u5 fun z hz=>?_
   ·simp only[go_sem]
   ·simp only[go_sem]
   rw[Nat.add_sub_cancel_left]at hz;have hzl:((l.drop 8).take (jo l)).length≤1000000:=by rw[List.length_take,List.length_drop];omega
   simp only[go_sem];refine .quiet aeF ?_;simp only[go_sem];refine⟨_,On z _ h hz aeC,?_⟩;simp only[go_sem];refine hb.from (m:=4) (x:=.i64) 4 ?_ rfl aeC u5 fun z4 hz4=>?_
   ·simp only[go_sem]
   simp only[go_sem];refine⟨_,DY z4 _ h hz4 aga,?_⟩;simp only[go_sem];refine .same (.refl _) ⟨⟨z,_,_,rfl,hz,?_⟩,rfl⟩;unfold ie;rw[if_neg aeC,if_neg hbad]
   by_cases hc:(crc ((l.drop 8).take (jo l))).toNat=jo (l.drop 4)
   ·rw[if_pos hc,hc];simp
   ·rw[if_neg hc,if_neg]
    simp only[beq_iff_eq];omega
theorem OA:(U 76).bytes=24:=aeR
def dZ(p:List UInt8):AV:=.sl (p.map aJ) .no
theorem I8(ps:List (List UInt8))(h:Heap):Ab.Rows 5 h (ps.map dZ) ps:=⟨aeJ,fun i h1 h2=>by simp only[aet];exact .sl _ _⟩
theorem ld(ps:List (List UInt8)):Sized 1 (ps.map dZ):=(I8 ps cS).sized
def iC(h:Heap)(y:AV)(xs:List AV)(sp:List Nat):Prop:=(y= .sl xs .full∧sp= [])∨∃k,y= .sl xs (.own k)∧h k=some (.spare xs.length 1)∧sp= [k]
theorem K8(h:scan l=(ps++(scan (l.drop at_)).1,at_+(scan (l.drop at_)).2))(hp:ie (l.drop at_)=some p):
  scan l=((ps++ [p])++(scan (l.drop (at_+(8+p.length)))).1,(at_+(8+p.length))+(scan (l.drop (at_+(8+p.length)))).2):=by
 simp_all [vR,List.drop_drop,Nat.add_assoc]
theorem QD(y:AV)(l:List UInt8)(h:Heap)(hb:By h y l)(hl:l.length≤2000000):
  ai Tryz.prog 114 [y] h fun r h' =>∃z sp,r= .tup [z,.i ((scan l).2:Nat)]∧iC h' z ((scan l).1.map dZ) sp∧Sub h h'∧∀i∈sp,h i=none:=by
 refine aeB Tryz.func114 29 [.tmp 2,.tmp 3] fun hwf=>?_
 simp only[go_sem];refine .intro (fun m ρ h' =>∃(i:Nat) (ps:List (List UInt8)) (z:AV),Acc U 76 h h' z (ps.map dZ)∧fm h h'∧ps.length≤i∧i≤l.length∧m=l.length - i∧scan l=(ps++(scan (l.drop i)).1,i+(scan (l.drop i)).2)∧
  lk ρ 0=some y∧lk ρ 4=some z∧lk ρ 5=some (.i (i:Nat))) l.length ?_ ?_
 ·refine⟨0,[],_,.full (.refl h),.refl h,aeJ,aeC,rfl,aeJ,?_,?_,?_⟩<;>simp only[go_sem]
 ·rintro m ρ h' ⟨i,ps,z,ha,hk,hpi,hi,rfl,hsc,r0,r4,r5⟩
  have hb' :=hb.fX hk;simp only[go_sem,r0,r4,r5];refine hb'.from (m:=i) (x:=.i64) i ?_ rfl hi u5 fun y2 hy2=>?_
  ·rfl
  simp only[go_sem,r0,r4,r5];refine(Cy y2 (l.drop i) h' hy2 aeD).mono fun r h2 ⟨⟨P,p,b,e1,hP,hbg⟩,e2⟩=>?_
  subst e1;subst e2
  cases b with
  |false=>
   rw[if_neg aeJ]at hbg;rw[su hbg]at hsc;simp only[go_sem,r0,r4,r5];have hs:=ha.1;rw[hsc];rcases ha.2 with rfl|⟨k,k1,rfl,k2⟩
   ·exact .same (.refl _) ⟨_,[],rfl,.inl ⟨aeJ,rfl⟩,hs,aeJ⟩
   ·rw[u27]at k2
    exact .same (.refl _) ⟨_,[k],rfl,.inr ⟨k,aeJ,aeD,rfl⟩,hs,aeD⟩
  |true=>
   rw[if_pos rfl]at hbg;have hpl:=nS hbg;rw[List.length_drop]at hpl;have hsc' :=K8 hsc hbg;have w1:IntKind.i64.wrap ((8:Int)+(p.length:Int))=((8+p.length:Nat):Int):=aeN;have w2:IntKind.i64.wrap ((i:Int)+((8+p.length:Nat):Int))=((i+(8+p.length):Nat):Int):=aeN;simp only[go_sem,r0,r4,r5];refine(oW P p h2 hP aeC).pthen' ?_;simp only[go_sem,r0,r4,r5];refine ha.app (zs:=[dZ p]) aeG aeG (fun k hk=>hk) (by grind [u27,ld]) (by grind [u27,Sized,dZ,AV.cells]) (by grind [OA]) fun z' h3 ha' hk' =>?_
   rw[show ps.map dZ++ [dZ p]=(ps++ [p]).map dZ by simp]at ha'
   have hP3:=hP.fX hk';simp only[go_sem,r0,r4,r5,hP3.len,w1,w2];refine⟨_,?_,i+(8+p.length),ps++ [p],z',ha',hk.trans hk',aeD,aeC,rfl,hsc',?_,?_,?_⟩
   ·omega
   all_goals simp only[go_sem,r0,r4,r5,hP3.len,w1,w2]
theorem QE(l:List UInt8):(scan l).1.length≤l.length∧∀p∈(scan l).1,p.length≤8192:=by
 induction hn:l.length using Nat.strongRecOn generalizing l with
 |_ n ih=>
  cases hb:ie l with
  |none=>simp_all [su,Nat.zero_le]
  |some p=>
   have hl:=nS hb;rw[vR hb]
   grind
theorem iC.row(hg:iC h y xs sp):∃q,y= .sl xs q:=by rcases hg with⟨rfl,_⟩|⟨k,rfl,_⟩<;>exact⟨_,rfl⟩
def Touch(S:List Nat)(h h' :Heap):Prop:=∀j k,j∉S→h j=some k→h' j=some k
theorem Touch.refl(S:List Nat)(h:Heap):Touch S h h:=fun _ _ _ e=>e
theorem Touch.trans{a b c:Heap}(x:Touch S a b)(y:Touch T b c):Touch (S++T) a c:=fun j k e hj=>y j k aeD (x j k aeD hj)
theorem Touch.of(hs:Ab.Sub h h'):Touch S h h' :=fun _ _ _ e=>hs _ _ e
theorem Touch.keep{i:Nat}(hs:Keep i h h'):Touch [i] h h' :=fun j k e hj=>hs j k aeD hj
theorem Touch.upd{i:Nat}{k:Option Blk}:Touch [i] h (upd h i k):=Touch.keep (Keep.upd i k)
theorem Touch.mono(ht:Touch S h h')(hs:∀i∈S,i∈T∨h i=none):Touch T h h' :=fun j k e hj=>ht j k aeD hj
theorem iC.touch(hg:iC h y xs sp)(ht:Touch S h h')(hn:∀i∈sp,i∉S):iC h' y xs sp:=by
 rcases hg with⟨rfl,rfl⟩|⟨k,rfl,k1,rfl⟩
 ·exact .inl ⟨rfl,rfl⟩
 ·exact .inr ⟨k,rfl,ht _ _ (hn k aeJ) k1,rfl⟩
theorem iC.has(hg:iC h y xs sp):∀i∈sp,∃n,h i=some (.spare n 1):=by
 rcases hg with⟨rfl,rfl⟩|⟨k,rfl,k1,rfl⟩
 ·simp
 grind
theorem iC.app(hg:iC h y xs sp)(hsrc:∀k:List AV→Prop,k zs→iR U 76 h v k)(s1:Sized 1 xs)(s2:Sized 1 zs)
  (hlen:xs.length+zs.length≤1000000000000) (hk:∀y' h' sp',iC h' y' (xs++zs) sp'→Touch sp h h'→(∀i∈sp',i∈sp∨h i=none)→Q y' h'):apK U h y v Q (.slice 76):=by
 rcases hg with⟨rfl,rfl⟩|⟨k,rfl,k1,rfl⟩
 ·refine(qM ..).mpr ⟨aeG,aeG,hsrc _ ⟨by grind [u27],by grind [u27],by grind [OA],fun hn=>?_,fun hn=> .own fun id hid=>?_⟩⟩
  ·subst hn
   exact hk _ _ [] (.inl ⟨aeJ,rfl⟩) (.refl _ _) aeJ
  ·rw[u27]
   exact hk _ _ [id] (.inr ⟨id,rfl,aix,rfl⟩) (.of ((Ab.Sub.refl h).new hid _)) aeD
 ·refine(Ck ..).mpr ⟨aeG,aeG,hsrc _ ⟨by grind [u27],by grind [u27],by grind [OA],by grind [u27],?_⟩⟩
  rw[u27];exact hk _ _ [k] (.inr ⟨k,rfl,aix,rfl⟩) .upd aeJ
def JAt(h:Heap)(t jid did:Nat)(ps:List (List UInt8))(down:Bool)(sp:List Nat):Prop:=
 ∃y xs,h jid=some (.obj [.ptr did 0,y,.b down] t)∧iC h y xs sp∧∀g,Ab.Rows 5 g xs ps
theorem JAt.touch(hj:JAt h t jid did ps down sp)(ht:Touch S h h')(h1:jid∉S)(hn:∀i∈sp,i∉S):JAt h' t jid did ps down sp:=by obtain⟨y,xs,a,b,c⟩:=hj;exact⟨y,xs,ht _ _ h1 a,b.touch ht hn,c⟩
theorem JAt.sub(hj:JAt h t jid did ps down sp)(ht:Ab.Sub h h'):JAt h' t jid did ps down sp:=
 hj.touch (S:=[]) (.of ht) aeJ aeJ
theorem KX(hr:Ab.Rows 5 h xs ps)(hx:By h x p):Ab.Rows 5 h (xs++ [x]) (ps++ [p]):=⟨by simp[hr.1],fun i h1 h2=>by
 have hl:=hr.1
 by_cases hi:i<xs.length
 ·rw[List.getElem_append_left hi,List.getElem_append_left aeC]
  exact hr.2 i hi aeC
 ·have e:i=xs.length:=by grind
  subst e;simpa[hl]using hx⟩
theorem xR(jid did:Nat)(ps:List (List UInt8))(down:Bool)(sp:List Nat)(h:Heap)(hj:JAt h 207 jid did ps down sp):ai Tryz.prog 71 [.ptr jid 0] h fun r h' =>r= .b down∧h' =h:=by
 obtain⟨y,xs,a,_,_⟩:=hj;refine aeB Tryz.func71 7 [.tmp 2] fun hwf=>?_
 simp only[go_sem,a];exact aeL
theorem zT(jid did:Nat)(ps:List (List UInt8))(down:Bool)(sp:List Nat)(h:Heap)(hj:JAt h 207 jid did ps down sp)(hl:ps.length≤1000000)(hp:∀p∈ps,p.length≤1000000):
  ai Tryz.prog 55 [.ptr jid 0] h fun r h' =>∃q,r= .sl (ps.map dZ) q∧Ab.Sub h h' :=by
 obtain⟨y,xs,a,b,c⟩:=hj;refine aeB Tryz.func55 22 [.tmp 2] fun hwf=>?_
 obtain⟨qy,rfl⟩:=b.row;have hlen:=(c h).1;simp only[go_sem,a];refine .intro (fun m ρ g=>∃(i:Nat) (z:AV),Acc U 76 h g z ((ps.take i).map dZ)∧i≤ps.length∧m=ps.length - i∧lk ρ 3=some z∧lk ρ 9=some (.sl xs qy)∧lk ρ 10=some (.i xs.length)∧lk ρ 11=some (.i i)) (ps.length - 0) ?_ ?_
 ·refine⟨0,_,.full (.refl h),aeC,rfl,?_,?_,?_,?_⟩<;>simp only[go_sem]
 ·rintro m ρ g ⟨i,z,ha,hi,rfl,r3,r9,r10,r11⟩
  by_cases hc:i<ps.length
  ·have d1:decide ((i:Int)<(xs.length:Int))=true:=decide_eq_true aeC
   have w1:IntKind.i64.wrap ((i:Int)+1)=((i+1:Nat):Int):=aeN;have hx:=(c g).2 i aeC hc;simp only[go_sem,r3,r9,r10,r11,d1];refine .at i aeC (by rw[hx.cells];rfl) ?_
   simp only[go_sem,r3,r9,r10,r11,hx.cells,hx.IN,and_self];refine(oW xs[i] ps[i] g hx aeD).pthen' ?_;simp only[go_sem,r3,r9,r10,r11];refine ha.app (v:=.sl [dZ ps[i]] .full) (zs:=[dZ ps[i]]) aeG aeG (fun k hk=>hk) (by grind [u27,ld]) (by grind [u27,Sized,dZ,AV.cells]) (by grind [OA]) fun z' g2 ha' hk' =>?_
   simp only[go_sem,r3,r9,r10,r11,w1];refine⟨_,?_,i+1,z',?_,aeC,rfl,?_,?_,?_,?_⟩
   ·omega
   ·grind [List.take_succ_eq_append_getElem]
   all_goals simp only[go_sem,r3,r9,r10,r11,w1]
  ·obtain rfl:i=ps.length:=by omega
   have d1:decide ((ps.length:Int)<(xs.length:Int))=false:=decide_eq_false aeC;simp only[go_sem,r3,r9,r10,r11,d1];rw[List.take_length]at ha;obtain⟨q,rfl⟩:=ha.row;exact .same (.refl _) ⟨q,rfl,ha.1⟩
def D.bX(d:D):D×Nat:=
 let c:=if(scan d.b).2<d.b.length then d.cut ((scan d.b).2:Nat)else(d,0)
 if c.2=0 then c.1.sync else c
theorem D.NF(hd:d.ok):d.bX.1.ok:=by grind [scan,Nat,ok,D.Cr,D.bX,sync,D.yd]
theorem M1(d:D)(hd:d.ok)(id:Nat)(h:Heap)(hdk:bR h id d):
  ai Tryz.prog 54 [.ptr id 0] h fun r h' =>∃J,r= .tup [J,.i (d.bX.2:Nat)]∧bR h' id d.bX.1∧Keep id h h'∧
   if d.bX.2=0 then∃jid sp,J= .ptr jid 0∧h jid=none∧JAt h' 207 jid id (scan d.b).1 false sp∧∀i∈sp,h i=none∧i≠jid else J= .v (.pointer none):=by
 refine ai.of_wp hU Tryz.func54 rfl aeR 35 rfl [.tmp 2,.tmp 3] rfl (aer rfl) ?_;refine .one hU hm ?_;simp only[go_sem]
 show WP _ _ _ _ _ _
 refine .one hU hm ?_;simp only[go_sem]
 show WP _ _ _ _ _ _
 have hlen:d.b.length≤2000000:=by have:=hd.1;have:=hd.2.1;omega
 obtain⟨at_,hat⟩:∃n,(scan d.b).2=n:=⟨_,rfl⟩;have hatl:=QC d.b;rw[hat]at hatl;refine .cut (fun ρ g=>∃z sp,iC g z ((scan d.b).1.map dZ) sp∧Ab.Sub h g∧(∀i∈sp,h i=none)∧lk ρ 0=some (.ptr id 0)∧lk ρ 4=some z∧lk ρ 5=some (.i at_)) (.vc hU hm ?_) ?_
 ·simp only[go_sem]
  refine(N0 d hd id h hdk).pthen ?_;simp only[go_sem];refine(QD _ d.b h (.sl _ _) hlen).mono fun r g ⟨z,sp,e1,hg,hs,hsp⟩=>?_
  subst e1;rw[hat];simp only[go_sem];refine⟨z,sp,hg,hs,hsp,?_,?_,?_⟩<;>simp only[go_sem]
 rintro ρ g ⟨z,sp,hg,hs,hsp,r0,r4,r5⟩
 have hdk1:=hdk.keep hs.fX;have hob:∀i∈sp,i≠id:=fun i hi e=>by
  obtain⟨y,hy,_⟩:=hdk
  grind
 refine .cut (fun ρ g=>∃d1,d.bX=d1.sync∧d1.ok∧bR g id d1∧iC g z ((scan d.b).1.map dZ) sp∧Keep id h g∧lk ρ 0=some (.ptr id 0)∧lk ρ 4=some z) (.vc hU hm ?_) ?_
 ·simp only[go_sem,r0,r4,r5]
  refine(P7 d id g hdk1).pthen ?_;simp only[go_sem,r0,r4,r5];refine .intro (fun e=>?_) (fun e=>?_)
  ·have e:=aeu e
   have e' :at_<d.b.length:=aeC;simp only[go_sem,r0,r4,r5];refine dthen (Cr d hd id g at_ hdk1) fun g1 hd1 kp=>?_
   have hO:d.bX=if(d.cut (at_:Nat)).2=0 then(d.cut (at_:Nat)).1.sync else d.cut (at_:Nat):=by
    simp_all [D.bX,if_pos]
   have ok1:=D.Cr hd at_;generalize d.cut (at_:Nat)=D0 at hO hd1 ok1⊢;obtain⟨D1,c1⟩:=D0;simp only at hO hd1 ok1⊢;simp only[go_sem,r0,r4,r5]
   by_cases hc:c1=0
   ·subst hc
    rw[if_pos rfl]at hO;simp only[go_sem,r0,r4,r5];refine⟨D1,hO,ok1,hd1,hg.touch (Touch.keep kp) aeD,(hs.keep id).trans kp,?_,?_⟩<;>simp only[go_sem,r0,r4]
   ·rw[if_neg hc]at hO
    have t1:(((c1:Nat):Int) !=0)=true:=aeD;simp only[go_sem,r0,r4,r5,t1];refine .same (.refl _) ⟨_,by rw[hO];rfl,aeD,(hs.keep id).trans kp,?_⟩
    grind
  ·have e:=aev e
   have e' :¬at_<d.b.length:=aeC;have hO:d.bX=d.sync:=by
    simp_all [D.bX,if_neg]
   simp only[go_sem,r0,r4,r5];refine⟨d,hO,hd,hdk1,hg,hs.keep id,?_,?_⟩<;>simp only[go_sem,r0,r4]
 rintro ρ g1 ⟨d1,hO,ok1,hd1,hg1,kp1,r0,r4⟩
 refine .vc hU hm ?_;simp only[go_sem,r0,r4];refine dthen (yd d1 ok1 id g1 hd1) fun g2 hd2 kp2=>?_
 rw[hO];generalize d1.sync=D0 at hd2⊢;obtain⟨D2,c2⟩:=D0;simp only at hd2⊢;have kp:=kp1.trans kp2;have hg2:=hg1.touch (Touch.keep kp2) aeD;simp only[go_sem,r0,r4]
 by_cases hc:c2=0
 ·subst hc
  obtain⟨qz,rfl⟩:=hg2.row;simp only[go_sem,r0,r4];intro jid hjid;simp only[go_sem,r0,r4];have hne:jid≠id:=fun e=>by
   obtain⟨y,hy,_⟩:=hd2
   grind
  have hjh:h jid=none:=by
   cases hh:h jid with
   |none=>rfl
   |some k=>rw[kp _ _ hne hh]at hjid;omega
  have hsj:∀i∈sp,i≠jid:=fun i hi e=>by
   obtain⟨n,hn⟩:=hg2.has i hi
   grind
  refine .same (.refl _) ⟨_,rfl,hd2.keep (.new hjid),fun j k e hj=>?_,jid,sp,rfl,hjh,⟨_,_,ah ..,hg2.touch .upd aeD,fun g=>I8 _ g⟩,fun i hi=>⟨hsp i hi,hsj i hi⟩⟩
  have h2:=kp j k e hj;rw[ag _ _ aeD];exact aiJ
 ·have t1:(((c2:Nat):Int) !=0)=true:=by grind
  simp only[go_sem,r0,r4,t1];exact .same (.refl _) ⟨_,rfl,hd2,kp,aeD⟩
def jadd(d:D)(ps:List (List UInt8))(down:Bool)(p:List UInt8):(D×List (List UInt8)×Bool)×Nat:=
 if down=true then((d,ps,true),9)else if p.length=0∨8192<p.length then((d,ps,false),1)else
  if(d.append (frame p)).2=8 then(((d.append (frame p)).1,ps,false),8)else
   if(if(d.append (frame p)).2=0 then(d.append (frame p)).1.sync else d.append (frame p)).2=0 then
    (((if(d.append (frame p)).2=0 then(d.append (frame p)).1.sync else d.append (frame p)).1,ps++ [p],false),0)
   else(((if(d.append (frame p)).2=0 then(d.append (frame p)).1.sync else d.append (frame p)).1,ps,true),9)
theorem D.Dl(d:D)(b:List UInt8):(d.append b).2=0∨(d.append b).2=8∨(d.append b).2=9:=by grind [D.append]
theorem D.Lj(d:D):d.sync.2=0∨d.sync.2=9:=by grind [D.sync]
theorem ID(d:D)(hd:d.ok)(id jid:Nat)(ps:List (List UInt8))(down:Bool)(sp:List Nat)(h:Heap)(x:AV)(p:List UInt8)(hdk:bR h id d)(hj:JAt h 207 jid id ps down sp)(hx:By h x p)(hp:p.length≤1000000)(hps:ps.length≤1000000):
  ai Tryz.prog 72 [.ptr jid 0,x] h fun r h' =>r= .i ((jadd d ps down p).2:Nat)∧∃sp',bR h' id (jadd d ps down p).1.1∧JAt h' 207 jid id (jadd d ps down p).1.2.1 (jadd d ps down p).1.2.2 sp'∧
   Touch (id::jid::sp) h h'∧∀i∈sp',i∈sp∨h i=none:=by
 obtain⟨y,xs,hjid,hg,hrs⟩:=hj;have hne:jid≠id:=fun e=>by
  obtain⟨z,hz,_⟩:=hdk;rw[←e,hjid]at hz;simp only[Option.some.injEq,Blk.obj.injEq]at hz;exact absurd hz.2 aeG
 refine ai.of_wp hU Tryz.func72 rfl aeF 51 rfl [.tmp 4] rfl (aer rfl) ?_;refine .one hU hm ?_;simp only[go_sem]
 show WP _ _ _ _ _ _
 refine .one hU hm ?_;cases down with
 |true=>
  have hJ:jadd d ps true p=((d,ps,true),9):=by simp[jadd]
  simp only[go_sem,hjid];refine .same (.refl _) ?_;rw[hJ];exact⟨rfl,sp,hdk,⟨y,xs,hjid,hg,hrs⟩,.refl _ _,fun i hi=> .inl hi⟩
 |false=>
  simp only[go_sem,hjid]
  show WP _ _ _ _ _ _
  refine .one hU hm ?_;have bad:(p.length=0∨8192<p.length)→nP [.i 1] h fun r h' =>r= .i ((jadd d ps false p).2:Nat)∧∃sp',bR h' id (jadd d ps false p).1.1∧JAt h' 207 jid id (jadd d ps false p).1.2.1 (jadd d ps false p).1.2.2 sp'∧
    Touch (id::jid::sp) h h'∧∀i∈sp',i∈sp∨h i=none:=fun hb=>by
   have hJ:jadd d ps false p=((d,ps,false),1):=by unfold jadd;rw[if_neg aeJ,if_pos hb]
   refine .same (.refl _) ?_;rw[hJ];exact⟨rfl,sp,hdk,⟨y,xs,hjid,hg,hrs⟩,.refl _ _,fun i hi=> .inl hi⟩
  by_cases h0:p.length=0
  ·have t0:(((p.length:Nat):Int)==0)=true:=by simp[h0]
   simp only[go_sem,hx.len,t0];exact bad (.inl h0)
  ·have t0:(((p.length:Nat):Int)==0)=false:=beq_eq_false_iff_ne.mpr aeC
   by_cases h1:8192<p.length
   ·have t1:decide ((8192:Int)<(p.length:Int))=true:=decide_eq_true aeC
    simp only[go_sem,hx.len,t0,t1];exact bad (.inr h1)
   ·have t1:decide ((8192:Int)<(p.length:Int))=false:=decide_eq_false aeC
    have hJ:jadd d ps false p=if(d.append (frame p)).2=8 then(((d.append (frame p)).1,ps,false),8)else
      if(if(d.append (frame p)).2=0 then(d.append (frame p)).1.sync else d.append (frame p)).2=0 then
       (((if(d.append (frame p)).2=0 then(d.append (frame p)).1.sync else d.append (frame p)).1,ps++ [p],false),0)
      else(((if(d.append (frame p)).2=0 then(d.append (frame p)).1.sync else d.append (frame p)).1,ps,true),9):=by
     have hno:¬(p.length=0∨8192<p.length):=aeC;unfold jadd;rw[if_neg aeJ,if_neg hno]
    have hcode:=D.Dl d (frame p);simp only[go_sem,hx.len,t0,t1]
    show WP _ _ _ _ _ _
    refine .one hU hm ?_;simp only[go_sem];refine .calls (hm1 jid _) [0,1,2,3,4,5,6,7] (.hm1 hjid) aeF rfl ?_;simp only[go_sem,hjid];refine(MK x p h hx hp).sthen fun g1 hs1=>?_
    refine⟨.hm1 (hs1 _ _ hjid),?_⟩;simp only[go_sem];refine dthen (vl d hd id g1 _ (frame p) (hdk.keep hs1.fX) (.sl _ _) (by rw[mK];omega)) fun g2 hd2 kp=>?_
    have hj2:g2 jid=some (.obj [.ptr id 0,y,.b false] 207):=kp _ _ hne (hs1 _ _ hjid);refine⟨.hm1 hj2,?_⟩;have ok2:=D.vl hd (frame p);have hkp:Keep id h g2:=(hs1.keep id).trans kp;have hgid:∀i∈sp,i≠id:=fun i hi e=>by
     obtain⟨n,hn⟩:=hg.has i hi;obtain⟨z,hz,_⟩:=hdk;rw[e,hz]at hn;cases hn
    have hg2:iC g2 y xs sp:=hg.touch (Touch.keep hkp) (fun i hi=>by simp[hgid i hi])
    have hx2:By g2 x p:=by
     obtain⟨z,hz,_⟩:=hdk;exact(hx.keep hkp hz aeG)
    have hT2:Touch (id::jid::sp) h g2:=(Touch.keep hkp).mono (fun i hi=> .inl (by simp at hi;simp[hi]))
    generalize d.append (frame p)=A at hJ hcode hd2 ok2⊢;obtain⟨d2,c2⟩:=A;simp only at hJ hcode hd2 ok2⊢;simp only[go_sem]
    show WP _ _ _ _ _ _
    refine .one hU hm ?_;have downed:∀(g:Heap) (e:D) (ρ:Env),bR g id e→g jid=some (.obj [.ptr id 0,y,.b false] 207)→iC g y xs sp→Touch (id::jid::sp) h g→jadd d ps false p=((e,ps,true),9)→
      (nP [.i 9] (upd g jid (some (.obj [.ptr id 0,y,.b true] 207))) fun r h' =>r= .i ((jadd d ps false p).2:Nat)∧∃sp',bR h' id (jadd d ps false p).1.1∧JAt h' 207 jid id (jadd d ps false p).1.2.1 (jadd d ps false p).1.2.2 sp'∧
       Touch (id::jid::sp) h h'∧∀i∈sp',i∈sp∨h i=none):=fun g e ρ a1 a2 a3 a4 hJ=>by
     rw[hJ];have hsj:∀i∈sp,i≠jid:=fun i hi e=>by
      obtain⟨n,hn⟩:=hg.has i hi;rw[e,hjid]at hn;cases hn
     have ht:Touch [jid] g (upd g jid (some (.obj [.ptr id 0,y,.b true] 207))):=.upd;refine .same (.refl _) ⟨rfl,sp,?_,⟨y,xs,ah ..,a3.touch ht (fun i hi=>by simp[hsj i hi]),hrs⟩,(a4.trans ht).mono (fun i hi=> .inl (by simp at hi⊢;rcases hi with h|h|h|h<;>simp[h])),fun i hi=> .inl hi⟩
     obtain⟨z,z1,z2⟩:=a1;exact⟨z,ht _ _ (by simp;exact fun e=>hne e.symm) z1,z2.keep (Keep.upd jid _) a2 aeG⟩
    have hc0:=hcode;rcases hcode with rfl|rfl|rfl
    ·
     simp only[go_sem];refine .one hU hm ?_;simp only[go_sem,hj2];refine dthen (yd d2 ok2 id g2 hd2) fun g3 hd3 kp3=>?_
     have hj3:g3 jid=some (.obj [.ptr id 0,y,.b false] 207):=kp3 _ _ hne hj2;have hg3:iC g3 y xs sp:=hg2.touch (Touch.keep kp3) (fun i hi=>by simp[hgid i hi])
     have hx3:By g3 x p:=by
      obtain⟨z,hz,_⟩:=hd2;exact(hx2.keep kp3 hz aeG)
     have hT3:Touch (id::jid::sp) h g3:=(hT2.trans (Touch.keep kp3)).mono (fun i hi=> .inl (by simp at hi⊢;rcases hi with h|h|h|h<;>simp[h]))
     have hcs:=D.Lj d2;rw[if_neg aeG,if_pos rfl]at hJ;generalize d2.sync=A at hJ hcs hd3⊢;obtain⟨d3,c3⟩:=A;simp only at hJ hcs hd3⊢;rcases hcs with rfl|rfl
     ·simp only[go_sem]
      refine .one hU hm ?_;simp only[go_sem];refine .one hU hm ?_;simp only[go_sem];refine .last (hm1 jid _) [0,1,2,3,4,5,6,7,8,9,10] (.hm1 hj3) aeF rfl aeF rfl ?_;simp only[go_sem,hj3];refine(oW x p g3 hx3 aeC).pthen' ?_;obtain⟨qy,rfl⟩:=hg3.row;refine⟨.hm1 hj3,?_⟩;simp only[go_sem,hj3];refine hg3.app (v:=.sl [dZ p] .full) (zs:=[dZ p]) (fun k hk=>hk) (hrs h).sized (by simp[Sized,dZ,AV.cells]) (by have:=(hrs h).1;simp;omega) fun z g4 sp' hg4 ht4 hsp' =>?_
      have hsj:∀i∈sp,i≠jid:=fun i hi e=>by
       obtain⟨n,hn⟩:=hg.has i hi;rw[e,hjid]at hn;cases hn
      have hj4:g4 jid=some (.obj [.ptr id 0,.sl xs qy,.b false] 207):=ht4 _ _ (fun hi=>hsj _ hi rfl) hj3
      refine⟨.hm1 hj4,?_⟩;obtain⟨qz,rfl⟩:=hg4.row;simp only[go_sem,hj4];refine .vc hU hm ?_;simp only[go_sem];have ht5:Touch [jid] g4 (upd g4 jid (some (.obj [.ptr id 0,.sl (xs++ [dZ p]) qz,.b false] 207))):=.upd;have hsj' :∀i∈sp',i≠jid:=fun i hi e=>by
       obtain⟨n,hn⟩:=hg4.has i hi;rw[e,hj4]at hn;cases hn
      rw[if_pos rfl]at hJ;refine .same (.refl _) ?_;rw[hJ];refine⟨rfl,sp',?_,⟨_,_,ah ..,hg4.touch ht5 (fun i hi=>by simp[hsj' i hi]),fun g=>KX (hrs g) (.sl _ _)⟩,?_,fun i hi=>?_⟩
      ·obtain⟨z,z1,z2⟩:=hd3
       have hid4:g4 id=some (.obj (d3.cells z) 92):=ht4 _ _ (fun hi=>hgid _ hi rfl) z1
       have z4:By g4 z d3.b:=by
        rcases z2 with z2|⟨i,off,cs,rfl,a1,a2,a3⟩
        ·exact .inl z2
        ·exact .oa (ht4 _ _ (fun hi=>by obtain⟨n,hn⟩:=hg3.has i hi;rw[a1]at hn;cases hn) a1) a2 a3
       exact⟨z,ht5 _ _ (by simp;exact fun e=>hne e.symm) hid4,z4.keep (Keep.upd jid _) hj4 aeG⟩
      ·exact((hT3.trans ht4).trans ht5).mono (fun i hi=> .inl (by simp at hi⊢;grind))
      ·rcases hsp' i hi with h1|h1
       ·exact .inl h1
       ·cases hh:h i with
        |none=>exact .inr rfl
        |some k=>
         by_cases hin:i∈id::jid::sp
         ·simp only[List.mem_cons]at hin
          rcases hin with e|e|e
          ·subst e;rw[hd3.choose_spec.1]at h1;cases h1
          ·subst e;rw[hj3]at h1;cases h1
          ·exact .inl e
         ·rw[hT3 i k hin hh]at h1;cases h1
     ·simp only[go_sem]
      refine .one hU hm ?_;simp only[go_sem,hj3];exact downed g3 d3 [] hd3 hj3 hg3 hT3 hJ
    ·
     simp only[go_sem];refine .same (.refl _) ?_;rw[hJ];exact⟨rfl,sp,hd2,⟨y,xs,hj2,hg2,hrs⟩,hT2,fun i hi=> .inl hi⟩
    ·simp only[go_sem]
     refine .one hU hm ?_;simp only[go_sem,hj2];refine .one hU hm ?_;simp only[go_sem,hj2];exact downed g2 d2 [] hd2 hj2 hg2 hT2 hJ
theorem Wl(h1:d.off=false)(h2:d.f=0)(hp1:1≤p.length)(hp2:p.length≤8192)(hf:d.b.length+(frame p).length≤d.q):
  jadd d ps false p=(({d with b:=d.b++frame p,sy:=(d.b++frame p).length},ps++ [p],false),0):=by
 have hno:¬(p.length=0∨8192<p.length):=aeC;have hs:({d with b:=d.b++frame p}:D).sync=({d with b:=d.b++frame p,sy:=(d.b++frame p).length},0):=D.WN h1 h2
 unfold jadd;rw[if_neg aeJ,if_neg hno,D.Pb h1 h2 hf,if_neg aeC,if_pos rfl,hs,if_pos rfl]
theorem M0(h1:d.off=false)(hp1:1≤p.length)(hp2:p.length≤8192)(hf:d.q<d.b.length+(frame p).length):
  jadd d ps false p=((d,ps,false),8):=by
 have hno:¬(p.length=0∨8192<p.length):=aeC;unfold jadd;rw[if_neg aeJ,if_neg hno,D.FO h1 hf,if_pos rfl]
theorem Oe:scan []=([],0):=by grind [su,sH]
end Go.Proofs.YtelkmnkejghkeaaGreatDoor
namespace Go.Bf
open Go Go.Ab Go.Proofs.YtelkmnkejghkeaaGreatDoor
variable {o:OpD}
def fnv(h:BitVec 64)(n:Nat):BitVec 64:=(h ^^^ BitVec.ofNat 64 n)*1099511628211#64
def PB(g:BitVec 64→Nat→BitVec 64):Nat→BitVec 64→BitVec 64→BitVec 64
 |0,_,h=>h
 |n+1,p,h=>PB g n (p>>>8) (g h (p &&& 255#64).toNat)
def J3(n:Nat)(p h:BitVec 64):BitVec 64:=PB fnv n p h
theorem J6(g:BitVec 64→Nat→BitVec 64)(n:Nat)(p h:BitVec 64):PB g (n+1) p h=PB g n (p>>>8) (g h (p &&& 255#64).toNat):=rfl
theorem J5(p h:BitVec 64):J3 0 p h=h:=rfl
theorem J4(n:Nat)(p h:BitVec 64):J3 (n+1) p h=J3 n (p>>>8) (fnv h (p &&& 255#64).toNat):=J6 fnv n p h
def kU(prev:BitVec 64)(l:Txt):BitVec 64:=l.foldl (fun h c=>fnv h c.toNat) (J3 8 prev 14695981039346656037#64)
def qX:Nat→BitVec 64→Txt
 |0,_=>[]
 |n+1,h=>UInt8.ofNat h.toNat::qX n (h>>>8)
def dF(h:BitVec 64)(o:OpD):Txt:=qX 8 h++hY o
theorem gT:∀(n:Nat) (h:BitVec 64),(qX n h).length=n
 |0,_=>rfl
 |n+1,h=>by simp[qX,gT n]
structure cr where
 s:an
 log:List oA
 ch:BitVec 64
 ps:List Txt
 down:Bool
variable {e:cr}
def ji(e:cr)(p:Txt):Option OpD:=if p.length<8 then none else match oX (p.drop 8)with
 |some o=>if dF e.ch o=p then some o else none
 |none=>none
def nv(e:cr)(g:an×jk×oA×Int)(p:Txt):cr:={e with s:=g.1,log:=e.log++ [g.2.2.1],ch:=kU e.ch p}
def kE(e:cr)(p:Txt):Option cr:=match ji e p with
 |some o=>if(aE e.s o).2.2.2=0 then some (nv e (aE e.s o) p)else none
 |none=>none
def lN:cr→List Txt→Option cr
 |e,[]=>some e
 |e,p::r=>match kE e p with
  |some e' =>lN e' r
  |none=>none
def jj(ps:List Txt):cr:=⟨th,[],0,ps,false⟩
def vT(ps:List Txt):Option cr:=lN (jj ps) ps
def DM(n:Int):jk:=⟨n,naM,false,aq,false,0⟩
def doE(e:cr)(d:D)(o:OpD):cr×D×jk:=
 if e.down then(e,d,DM 9)else
 let g:=aE e.s o
 if g.2.2.2≠0 then(e,d,g.2.1)else
 let p:=dF e.ch o
 let a:=jadd d e.ps e.down p
 if a.2=0 then({nv e g p with ps:=a.1.2.1,down:=a.1.2.2},a.1.1,g.2.1)else({e with ps:=a.1.2.1,down:=a.1.2.2},a.1.1,DM (a.2:Int))
theorem sV:∀(l:List Txt) (e:cr) (p:Txt),lN e (l++ [p])=(lN e l).bind fun e' =>kE e' p
 | [],e,p=>by
  grind [lN,kE]
 |q::l,e,p=>by
  simp only[List.cons_append,lN];cases kE e q with
  |none=>rfl
  |some e' =>exact sV l e' p
theorem QK{e':cr}{p:Txt}(h:kE e p=some e')(ps:List Txt):kE {e with ps:=ps} p=some {e' with ps:=ps}:=by
 unfold kE at h⊢;have hr:ji {e with ps:=ps} p=ji e p:=rfl
 rw[hr];cases hq:ji e p with
 |none=>rw[hq]at h;cases h
 |some o=>
  rw[hq]at h;simp only at h⊢;split at h
  ·rename_i hg
   rw[if_pos hg];cases h;rfl
  ·cases h
theorem Iq:∀(l:List Txt) {e e' :cr},lN e l=some e'→∀ps,lN {e with ps:=ps} l=some {e' with ps:=ps}
 | [],e,e',h,ps=>by cases h;rfl
 |p::l,e,e',h,ps=>by
  simp only[lN]at h⊢;cases hs:kE e p with
  |none=>grind
  |some e1=>
   rw[hs]at h;rw[QK hs ps];exact Iq l h ps
def C8(e:cr):Prop:=vT e.ps=some {e with down:=false}
theorem N1(hf:cN o=true)(h64:oC o):ji e (dF e.ch o)=some o:=by
 unfold ji;rw[if_neg (by simp[dF,gT])]
 grind [dF,hY,List.drop_left',gT,PF]
theorem iK{s:an}(h:(aE s o).2.2.2=0):cN o=true:=by
 have hp:(jL s o).1=0:=by
  unfold aE at h
  grind
 exact(rH hp).2.1
theorem SV(he:C8 e)(hg:(aE e.s o).2.2.2=0)(h64:oC o):C8 {nv e (aE e.s o) (dF e.ch o)with ps:=e.ps++ [dF e.ch o],down:=false}:=by
 unfold C8 vT at he⊢;have h1:=Iq _ he (e.ps++ [dF e.ch o]);rw[sV,show jj (e.ps++ [dF e.ch o])= {jj e.ps with ps:=e.ps++ [dF e.ch o]} from rfl,h1]
 simp only[Option.bind_some];unfold kE;have hr:ji {({e with down:=false}:cr)with ps:=e.ps++ [dF e.ch o]} (dF e.ch o)=some o:=by
  have:=N1 (e:={({e with down:=false}:cr)with ps:=e.ps++ [dF e.ch o]}) (iK hg) h64
  exact afk
 rw[hr];simp only;generalize dF e.ch o=p;rw[if_pos hg];rfl
theorem Jj:∀(f v:Nat),(pq f v).length≤f
 |0,_=>by simp[pq]
 |f+1,v=>by
  unfold pq;split
  ·simp
  ·simp only[List.length_cons]
   have:=Jj f (v / 128);omega
theorem iZ(n:Int):(iY n).length≤10:=Jj 10 _
theorem Qk(n:Int):1≤(iY n).length:=List.length_pos_iff.2 (Ji 10 _ aeG)
theorem cZ(s:Txt):(dD s).length≤10+s.length:=by grind [dD,aew,iZ]
theorem yf{v:bu}(h:v=aq∨bz v=true):(oQ v).length≤84:=by
 have hs:v.kind=3∨v.kind=5→v.s.length≤64:=fun e=>by
  rcases h with rfl|h
  ·decide
  simp_all [wh]
 unfold oQ;rw[aew];have h1:=iZ v.kind;split
 ·rename_i e
  have:=cZ v.s;omega
 ·have:=iZ v.n
  omega
theorem CT(hf:OpF o):1≤(hY o).length∧(hY o).length≤5000:=by unfold hY;simp only[aew];have h1:=iZ o.kind;have h0:=Qk o.kind;have h2:=cZ o.subj;have h3:=cZ o.case;have h4:=cZ o.field;have h5:=cZ o.to;have h6:=yf hf.val;have h7:=iZ o.review;have h8:=cZ o.text;have h9:=cZ o.reason;have h10:=yf (v:=dM o.glass) (.inr (Ag _));have:=hf.subj;have:=hf.case;have:=hf.field;have:=hf.to;have:=hf.text;have:=hf.reason;omega
theorem so{h:BitVec 64}(hf:OpF o):9≤(dF h o).length∧(dF h o).length≤5008:=by grind [CT,dF,aew,gT]
end Go.Bf
namespace Go.Ab
open Go
theorem Q3(n:Nat)(hn:n<18446744073709551616):IntKind.u64.wrap (n:Int)=n:=R1 .u64 n rfl aij
theorem Xc(n:Int):IntKind.u64.wrap n=((n % 18446744073709551616).toNat:Int):=by grind [Int.emod_nonneg,Int,IntKind.wrap,IntKind.signed,IntKind.bits]
theorem R2(n:Nat):IntKind.u64.wrap (n:Int)=((n % 18446744073709551616:Nat):Int):=by rfl
theorem FT(a b:Nat)(f:BitVec 64→BitVec 64→BitVec 64):IntKind.u64.wrap (((f (BitVec.ofInt IntKind.u64.bits (a:Int)) (BitVec.ofInt IntKind.u64.bits (b:Int))).toNat:Nat):Int)=((f (BitVec.ofNat 64 a) (BitVec.ofNat 64 b)).toNat:Int):=by exact Q3 _ (f _ _).isLt
theorem Qo(a b k:Nat)(ha:a<2 ^ k)(hlt:a+b*2 ^ k<18446744073709551616):(BitVec.ofNat 64 a|||BitVec.ofNat 64 (b*2 ^ k)).toNat=a+b*2 ^ k:=by exact ajx
theorem Qi(n:Nat)(hn:n<18446744073709551616):(BitVec.ofNat 64 18446744073709551615 ^^^ BitVec.ofNat 64 n).toNat=18446744073709551615 - n:=by
 have e:BitVec.ofNat 64 18446744073709551615 ^^^ BitVec.ofNat 64 n= ~~~ BitVec.ofNat 64 n:=by
  rfl
 rw[e,BitVec.toNat_not,BitVec.toNat_ofNat,Nat.mod_eq_of_lt aeC]
section
variable {U : TypeId → TI} {ty : TypeId} {K : AV → Prop}
@[go_sem high] theorem Yp(n:Nat)(hn:n<18446744073709551616):unA .xor (.v (.int .u64 (n:Int))) K=K (.v (.int .u64 ((18446744073709551615 - n:Nat):Int))):=by
 have h:=(FT 18446744073709551615 n (· ^^^ ·)).trans (congrArg (fun z:Nat=>(z:Int)) (Qi n hn))
 exact(C4 ..).trans (congrArg (fun z=>K (.v (.int .u64 z))) h)
@[go_sem high] theorem XZ(n:Int)(h1: -9223372036854775808≤n)(h2:n≤9223372036854775807):unA .xor (.i n) K=K (.i (-n - 1)):=by
 have e:(BitVec.ofInt 64 (-1) ^^^ BitVec.ofInt 64 n)= ~~~ BitVec.ofInt 64 n:=by
  rfl
 have e2:(((BitVec.ofInt 64 (-1) ^^^ BitVec.ofInt 64 n).toNat:Nat):Int)=(-n - 1) % 18446744073709551616:=by
  grind [BitVec.toNat_not,BitVec.ofInt,BitVec.toNat_ofInt]
 have h:IntKind.i64.wrap (((BitVec.ofInt 64 (-1) ^^^ BitVec.ofInt 64 n).toNat:Nat):Int)= -n - 1:=by
  grind [IntKind.wrap,IntKind.signed,IntKind.bits]
 exact(C4 ..).trans (congrArg (fun z=>K (.i z)) h)
theorem u64_and(n k:Nat)(hn:n<18446744073709551616)(hk:k≤63):cj U .and ty (.v (.int .u64 (n:Int))) (.v (.int .u64 ((2 ^ k - 1:Nat):Int))) K=K (.v (.int .u64 ((n % 2 ^ k:Nat):Int))):=by
 have h63:2 ^ k≤2 ^ 63:=Nat.pow_le_pow_right aeG hk;have e:(BitVec.ofNat 64 n &&& BitVec.ofNat 64 (2 ^ k - 1)).toNat=n % 2 ^ k:=by
  grind [BitVec.toNat_and,BitVec.toNat_ofNat,Nat.mod_eq_of_lt,Nat.and_two_pow_sub_one_eq_mod]
 have h:=(FT n (2 ^ k - 1) (· &&& ·)).trans (congrArg (fun z:Nat=>(z:Int)) e)
 exact(L6 ..).trans (congrArg (fun z=>K (.v (.int .u64 z))) h)
@[go_sem high] theorem u64_or(a b k:Nat)(ha:a<2 ^ k)(hlt:a+b*2 ^ k<18446744073709551616):cj U .or ty (.v (.int .u64 (a:Int))) (.v (.int .u64 ((b*2 ^ k:Nat):Int))) K=K (.v (.int .u64 ((a+b*2 ^ k:Nat):Int))):=by
 have h:=(FT a (b*2 ^ k) (· ||| ·)).trans (congrArg (fun z:Nat=>(z:Int)) (Qo a b k ha hlt))
 exact(Vy ..).trans (congrArg (fun z=>K (.v (.int .u64 z))) h)
theorem C2(n k:Nat)(kk:IntKind)(hk:k≤63):cj U .shr ty (.v (.int .u64 (n:Int))) (.v (.int kk (k:Int))) K=K (.v (.int .u64 ((n / 2 ^ k:Nat):Int))):=by grind [L7,min,Int,IntKind.bits,Int.fdiv_eq_ediv_of_nonneg,Int.le_of_lt,Int.pow_pos]
@[go_sem high] theorem QU(n k:Nat)(kk:IntKind)(hk:k≤63):cj U .shl ty (.v (.int .u64 (n:Int))) (.v (.int kk (k:Int))) K=K (.v (.int .u64 ((n*2 ^ k % 18446744073709551616:Nat):Int))):=by
 rw[Rk];have:min (k:Int).toNat IntKind.u64.bits=k:=aij;rw[this,show((n:Int)*2 ^ k)=((n*2 ^ k:Nat):Int) by simp,R2]
 exact propext ⟨fun h=>h.2,fun h=>⟨Int.natCast_nonneg k,h⟩⟩
@[go_sem high] theorem WS(m:Nat):cj U .shl ty (.v (.int .u64 (m:Int))) (.v (.int .u64 1)) K=K (.v (.int .u64 ((m*2 % 18446744073709551616:Nat):Int))):=QU m 1 .u64 aeG
@[go_sem high] theorem WT(m:Nat):cj U .shr ty (.v (.int .u64 (m:Int))) (.v (.int .u64 1)) K=K (.v (.int .u64 ((m / 2:Nat):Int))):=C2 m 1 .u64 aeG
@[go_sem high] theorem WU(m:Nat):cj U .shr ty (.v (.int .u64 (m:Int))) (.v (.int .u64 7)) K=K (.v (.int .u64 ((m / 128:Nat):Int))):=C2 m 7 .u64 aeG
@[go_sem high] theorem WV(m:Nat):cj U .shr ty (.v (.int .u64 (m:Int))) (.v (.int .u64 8)) K=K (.v (.int .u64 ((m / 256:Nat):Int))):=C2 m 8 .u64 aeG
@[go_sem high] theorem WR(m:Nat)(hm:m<18446744073709551616):cj U .and ty (.v (.int .u64 (m:Int))) (.v (.int .u64 1)) K=K (.v (.int .u64 ((m % 2:Nat):Int))):=u64_and m 1 hm aeG
@[go_sem high] theorem TU(m:Nat)(hm:m<18446744073709551616):cj U .and ty (.v (.int .u64 (m:Int))) (.v (.int .u64 127)) K=K (.v (.int .u64 ((m % 128:Nat):Int))):=u64_and m 7 hm aeG
@[go_sem high] theorem TV(m:Nat)(hm:m<18446744073709551616):cj U .and ty (.v (.int .u64 (m:Int))) (.v (.int .u64 255)) K=K (.v (.int .u64 ((m % 256:Nat):Int))):=u64_and m 8 hm aeG
@[go_sem high] theorem Ls(m:Nat)(hm:m<128):cj U .or ty (.v (.int .u64 (m:Int))) (.v (.int .u64 128)) K=K (.v (.int .u64 ((m+128:Nat):Int))):=u64_or m 1 7 hm aeC
theorem wu8(n:Nat):IntKind.u8.wrap (n:Int)=((UInt8.ofNat n).toNat:Int):=by rfl
@[go_sem high] theorem Vd(c:UInt8):cj U .and ty (.v (.int .u8 (c.toNat:Int))) (.v (.int .u8 127)) K=K (.v (.int .u8 ((c.toNat % 128:Nat):Int))):=by
 have hc:=c.toNat_lt;have e:(BitVec.ofNat 8 c.toNat &&& BitVec.ofNat 8 127).toNat=c.toNat % 128:=by
  rw[BitVec.toNat_and,BitVec.toNat_ofNat,BitVec.toNat_ofNat,Nat.mod_eq_of_lt aeC,Nat.mod_eq_of_lt aeC];exact Nat.and_two_pow_sub_one_eq_mod c.toNat 7
 have h:IntKind.u8.wrap (((BitVec.ofInt IntKind.u8.bits (c.toNat:Int) &&& BitVec.ofInt IntKind.u8.bits 127).toNat:Nat):Int)=((c.toNat % 128:Nat):Int):=by
  grind [IntKind.wrap,IntKind.signed,IntKind.bits]
 exact(L6 ..).trans (congrArg (fun z=>K (.v (.int .u8 z))) h)
end
end Go.Ab
namespace Go.Proofs.YtelkmnkejghkeaaGreatDoor
open Go Go.Ab Go.Bf Tryz
variable {g h h0:Heap}{y R:AV}{l:Txt}{f:FuncId}{args:List AV}{Q:AV→Heap→Prop}{s s':RS}{a:Nat}{lo hi most:Int}{o:OpD}
abbrev lH(h h' :Heap)(y:AV)(l:Txt):Prop:=Acc U 5 h h' y (l.map aJ)
theorem u5n:(U 5).sz≠0:=aeG
theorem Zs:(U 5).bytes≠0:=aeG
theorem lH.frz(ha:lH g h y l):Frz g h y (.sl (l.map aJ) .no):=by
 obtain⟨q,rfl⟩:=Acc.row ha;refine .sl _ _ _ rfl aeC fun i h1 h2 j h3 h4=> .keep _ ?_
 simp only[aet,aJ,AV.cells,List.getElem_singleton];exact agr
theorem lH.pure(hf:∀g,Ab.Sub h g→ai prog f args g fun r h' =>lH g h' r l):ai prog f args h fun r h' =>r= .sl (l.map aJ) .no∧h' =h:=
 ai.freeze fun g hg _=>(hf g hg).mono fun r h' hr=>⟨hr.1,_,lH.frz hr,rfl⟩
theorem lH.app{v:AV}{m:Txt}(ha:lH g h y l)(hsrc:∀k:List AV→Prop,k (m.map aJ)→iR U 5 h v k)(hlen:l.length+m.length≤140737488355328)
  (hk:∀y' h',lH g h' y' (l++m)→Q y' h'):apK U h y v Q (.slice 5):=
 Acc.app ha u5n Zs hsrc (by grind [u5,jQ]) (by grind [u5,jQ]) (by grind [TT]) fun y' h' hy _=>hk y' h' aeD
theorem A6(y:AV)(l:Txt)(h:Heap)(hb:By h y l)(hl:l.length≤140737488355328):
  ai prog 53 [y] h fun r h' =>lH h h' r l:=by
 refine aeB func53 8 [.tmp 2] fun hwf=>?_
 simp only[go_sem];refine hb.Wt fun b hbn=>?_
 simp only[go_sem];refine jZ.intro (fun e=>?_) (fun e=>?_)
 ·have hl0:l= []:=Classical.byContradiction fun hh=>by grind
  subst hl0;simp only[go_sem];exact .same (.refl _) (Acc.full (.refl _))
 ·simp only[go_sem]
  rw[hb.src u5];simp only[go_sem];refine⟨aeC,fun hn=>?_,fun hn=>?_⟩
  ·have hl0:l= []:=by simp_all
   subst hl0;simp only[go_sem];exact .same (.refl _) (Acc.full (.refl _))
  ·refine .own fun id hid=>?_
   simp only[go_sem];exact .same (.refl _) ⟨(Ab.Sub.refl h).new hid _,.inr ⟨id,hid,rfl,by rw[ah,u5,aes]⟩⟩
theorem T5(n:Int)(hn:i64 n):∃m:Nat,IntKind.u64.wrap n=(m:Int)∧m<18446744073709551616∧(0≤n→m*2 % 18446744073709551616=zig n)∧(n<0→18446744073709551615 - m*2 % 18446744073709551616=zig n):=by
 unfold i64 at hn;refine⟨(n % 18446744073709551616).toNat,Xc n,aeC,fun h=>?_,fun h=>?_⟩<;>unfold zig
 ·grind
 grind
theorem IP(y:AV)(l:Txt)(n:Int)(h:Heap)(hb:By h y l)(hl:l.length≤1000000)(hn:i64 n):
  ai prog 124 [y,.i n] h fun r h' =>lH h h' r (l++iY n):=by
 obtain⟨m,hm0,hm2,hm3,hm4⟩:=T5 n hn;have hz:=OR hn;have hz64:=FG hn;refine ai.of_wp hU func124 rfl aeR 32 rfl [.tmp 4] rfl (aer rfl) ?_;refine .cut (fun ρ g=>g=h∧lk ρ 0=some y∧lk ρ 1=some (.i n)) (.vc hU hm ?_) ?_
 ·simp only[go_sem]
  refine⟨rfl,?_,?_⟩<;>simp only[go_sem]
 rintro ρ g ⟨rfl,r0,r1⟩
 refine .cut (fun ρ g' =>g' =g∧lk ρ 0=some y∧lk ρ 1=some (.i n)∧lk ρ 5=some (.v (.int .u64 ((m*2 % 18446744073709551616:Nat):Int)))) (.vc hU hm ?_) ?_
 ·simp only[go_sem,r0,r1,hm0]
  refine⟨rfl,?_,?_,?_⟩<;>simp only[go_sem,r0,r1]
 clear r0 r1
 rintro ρ g' ⟨rfl,r0,r1,r5⟩
 refine .cut (fun ρ g=>g=g'∧lk ρ 0=some y∧lk ρ 5=some (.v (.int .u64 ((zig n:Nat):Int)))) (.vc hU hm ?_) ?_
 ·cases d1:decide (n<0)
  ·have h0:=aev d1
   simp only[go_sem,r0,r1,r5,d1,hm3 aeC];rw[←hm3 aeC]at*;refine⟨rfl,?_,?_⟩<;>simp only[go_sem,r0,r5]
  ·have h0:=aeu d1
   simp only[go_sem,r0,r1,r5,d1,hm4 h0,show m*2 % 18446744073709551616<18446744073709551616 from aeC]
   refine⟨rfl,?_,?_⟩<;>simp only[go_sem,r0]
 clear r0 r1 r5 hm3 hm4
 rintro ρ g ⟨rfl,r0,r5⟩
 refine .vc hU hm ?_;simp only[go_sem,r0,r5];refine(A6 y l g hb aeC).mono fun r h1 ha=>?_
 simp only[go_sem,r0,r5];refine .intro (fun k ρ h' =>∃(v:Nat) (o:Txt) (z:AV),lH g h' z (l++o)∧o++pq k v=iY n∧v<128 ^ k∧v<18446744073709551616∧0<k∧o.length≤10∧lk ρ 5=some (.v (.int .u64 (v:Int)))∧lk ρ 6=some z) 10 ?_ ?_
 ·refine⟨zig n,[],r,aeD,rfl,hz,hz64,aeG,aeJ,?_,?_⟩<;>simp only[go_sem,r5]
 clear r0 r5
 rintro k ρ h' ⟨v,o,z,ha,ho,hv,hv64,hk,hol,r5,r6⟩
 obtain⟨k,rfl⟩:∃j,k=j+1:=⟨k - 1,aeC⟩;have hlo:=congrArg List.length ho;rw[aew]at hlo;have hnl:=iZ n;cases d1:decide ((128:Int)≤(v:Int))
 ·have h0:=aev d1
  have e:pq (k+1) v= [UInt8.ofNat v]:=by unfold pq;grind
  simp only[go_sem,r5,r6,d1,wu8];refine lH.app ha (m:=[UInt8.ofNat v]) (fun _ hk=>hk) aeD fun z' h2 ha' =>?_
  simp only[go_sem];refine .same (.refl _) ?_;rw[←ho,e,←List.append_assoc];exact ha'
 ·have h0:=aeu d1
  have e:pq (k+1) v=UInt8.ofNat (v % 128+128)::pq k (v / 128):=by conv=>lhs;unfold pq;rw[if_neg aeC]
  rw[e]at hlo ho;simp only[List.length_cons]at hlo;have hk1:0<k:=by
   grind
  simp only[go_sem,r5,r6,d1,hv64,Ls _ (Nat.mod_lt v (show 128>0 by decide)),wu8]
  refine lH.app ha (m:=[UInt8.ofNat (v % 128+128)]) (fun _ hk=>hk) aeD fun z' h2 ha' =>?_
  simp only[go_sem,r5];refine⟨k,aeC,v / 128,o++ [UInt8.ofNat (v % 128+128)],z',?_,?_,?_,aeC,hk1,?_,?_,?_⟩
  ·grind
  ·grind
  ·omega
  ·grind
  ·rfl
  rfl
theorem CM(y:AV)(l:Txt)(n:Int)(h:Heap)(hb:By h y l)(hl:l.length≤1000000)(hn:i64 n):
  ai prog 124 [y,.i n] h fun r h' =>r= .sl ((l++iY n).map aJ) .no∧h' =h:=
 lH.pure fun g hg=>IP y l n g (hb.sub hg) hl hn
theorem Oq(y:AV)(l s:Txt)(h:Heap)(hb:By h y l)(hl:l.length≤1000000)(hs:s.length≤1000000):
  ai prog 125 [y,.s s] h fun r h' =>lH h h' r (l++dD s):=by
 have hn:i64 (s.length:Int):=⟨aeC,aeC⟩;refine aeB func125 11 [.tmp 4] fun hwf=>?_
 simp only[go_sem];refine(IP y l s.length h hb hl hn).mono fun r h' ha=>?_
 simp only[go_sem];have hnl:=iZ s.length;refine lH.app ha (m:=s) (fun _ hk=>(TG ..).mpr ⟨aeR,u5,hk⟩) aeD fun z' h2 ha' =>?_
 simp only[go_sem];refine .same (.refl _) ?_;unfold dD;rw[←List.append_assoc];exact ha'
theorem ye(y:AV)(l s:Txt)(h:Heap)(hb:By h y l)(hl:l.length≤1000000)(hs:s.length≤1000000):
  ai prog 125 [y,.s s] h fun r h' =>r= .sl ((l++dD s).map aJ) .no∧h' =h:=
 lH.pure fun g hg=>Oq y l s g (hb.sub hg) hl hs
theorem IZ(y:AV)(l:Txt)(v:bu)(h:Heap)(hb:By h y l)(hl:l.length≤900000)(hk:i64 v.kind)(hn:i64 v.n)(hs:v.s.length≤1000000):
  ai prog 126 [y,aS v] h fun r h' =>r= .sl ((l++oQ v).map aJ) .no∧h' =h:=by
 have hnl:=iZ v.kind;have hl2:(l++iY v.kind).length≤1000000:=aeD;refine aeB func126 20 [.tmp 4] fun hwf=>?_
 simp only[go_sem,aS];intro id hid;simp only[go_sem];refine(CM y l v.kind _ (hb.new hid) aeC hk).pthen ?_;simp only[go_sem];refine(Ad v.kind _).pthen ?_;simp only[go_sem];cases d1:(v.kind==3||v.kind==5)
 ·have e:¬(v.kind=3∨v.kind=5):=by grind
  simp only[go_sem];refine(CM (.sl ((l++iY v.kind).map aJ) .no) (l++iY v.kind) v.n _ (.sl _ _) hl2 hn).pthen ?_;simp only[go_sem];refine .mk _ (.refl _) (.aj hid) ⟨?_,rfl⟩;unfold oQ;rw[if_neg e,List.append_assoc];rfl
 ·have e:v.kind=3∨v.kind=5:=by grind
  simp only[go_sem];refine(ye (.sl ((l++iY v.kind).map aJ) .no) (l++iY v.kind) v.s _ (.sl _ _) hl2 hs).pthen ?_;simp only[go_sem];refine .mk _ (.refl _) (.aj hid) ⟨?_,rfl⟩;unfold oQ;rw[if_pos e,List.append_assoc];rfl
theorem Fv(b:Bool)(h:Heap):ai prog 127 [.b b] h fun r h' =>r=aS (dM b)∧h' =h:=by
 refine aeB func127 8 [.cell 2 48] fun hwf=>?_
 simp only[go_sem];intro i1 h1;simp only[go_sem];intro i2 h2;have hne:=aI h2;have n2:=aB h2;cases b
 ·exact aj7
 ·exact aj7
def RO(s:RS):Blk:=.obj [.sl (s.b.map aJ) .no,.i (s.at_:Int),.b s.bad] 310
def WfR(s:RS):Prop:=s.at_≤s.b.length∧s.b.length≤1000000
def RC(f:FuncId)(args:List AV)(s:RS)(R:AV)(s' :RS):Prop:=∀(h:Heap) (id:Nat),h id=some (RO s)→ai prog f (.ptr id 0::args) h fun r h' =>r=R∧h' =upd h id (some (RO s'))
theorem RC.go(hc:RC f args s R s'){id:Nat}(hid:h id=some (RO s))(k:Q R (upd h id (some (RO s')))):ai prog f (.ptr id 0::args) h Q:=
 (hc h id hid).mono fun r h' ⟨e1,e2⟩=>ahd
theorem zO(h:WfR s):WfR (mF s a):=by
 unfold mF;split
 ·rename_i hc
  exact⟨by have:=h.1;show a≤s.b.length;omega,h.2⟩
 omega
theorem zP:∀(f i u:Nat) (l:Txt),(rK f i u l).2≤i+l.length∧((rK f i u l).2=0∨i<(rK f i u l).2)
 |0,_,_,_=>⟨Nat.zero_le _,.inl rfl⟩
 |_+1,_,_,[]=>⟨Nat.zero_le _,.inl rfl⟩
 |f+1,i,u,c::r=>by
  unfold rK;split
  ·omega
  ·split
   ·simp
   ·obtain⟨h1,h2⟩:=zP f (i+1) (u+c.toNat % 128*128 ^ i) r
    grind
theorem mA(h:WfR s):WfR (rIn s lo hi).2:=by
 unfold rIn;split
 ·exact h
 ·simp only
  split
  ·exact zO h
  ·have:=(zP 10 0 0 (s.b.drop s.at_)).1
   exact⟨aeD,h.2⟩
theorem pK(s:RS)(a:Nat):RC 221 [.i (a:Int)] s (.tup []) (mF s a):=fun h id hid=>by
 refine aeB func221 28 [] fun hwf=>?_
 have g:=hid;have d0:decide ((0:Int)≤(a:Int))=true:=decide_eq_true aeC;unfold RO at g;cases d1:s.bad
 ·rw[d1]at g
  cases d2:decide ((a:Int)≤(s.at_:Int))
  ·have h2:=aev d2
   simp only[go_sem,g,d0,d2];exact .mk _ (.refl _) (.refl _) ⟨rfl,by simp_all [mF,if_neg,bF]⟩
  ·have h2:=aeu d2
   simp only[go_sem,g,d0,d2];exact .mk _ (.refl _) (.refl _) ⟨rfl,by rw[mF,if_pos ⟨d1,aeC⟩];rfl⟩
 ·rw[d1]at g
  simp only[go_sem,g];exact .mk _ (.refl _) (.refl _) ⟨rfl,by simp_all [mF,if_neg,bF]⟩
theorem L2(s:RS):RC 222 [] s (.i (s.at_:Int)) s:=fun h id hid=>by
 refine aeB func222 7 [.tmp 2] fun hwf=>?_
 have g:=hid;unfold RO at g;simp only[go_sem,g];exact ahj
theorem Ar(s:RS):RC 223 [] s (.i (if s.bad then 7 else 0)) s:=fun h id hid=>by
 refine aeB func223 7 [.tmp 2] fun hwf=>?_
 have g:=hid;unfold RO at g;cases d1:s.bad<;>rw[d1]at g<;>simp only[go_sem,g]<;>exact .mk _ (.refl _) (.refl _) ⟨rfl,(bF hid).symm⟩
theorem SU(s:RS):RC 172 [] s (.i (if KS s then 0 else 7)) s:=fun h id hid=>by
 refine aeB func172 15 [.tmp 2] fun hwf=>?_
 have g:=hid;unfold RO at g;cases d1:decide ((s.at_:Int)<(s.b.length:Int))
 ·have h1:=aev d1
  simp only[go_sem,g,aes,d1];refine⟨.of aeF,?_⟩;refine(Ar s).go hid ?_;rw[bF hid];simp only[go_sem];refine .mk _ (.refl _) (.refl _) ⟨?_,rfl⟩;unfold KS;rw[decide_eq_true (show s.b.length≤s.at_ by omega)]
  cases s.bad<;>rfl
 ·have h1:=aeu d1
  simp only[go_sem,g,aes,d1];refine⟨.of aeF,?_⟩;refine .mk _ (.refl _) (.refl _) ⟨?_,(bF hid).symm⟩;unfold KS;rw[decide_eq_false (show¬s.b.length≤s.at_ by omega)]
  rfl
theorem Qw(y:AV)(l:Txt)(h:Heap)(hb:By h y l)(hl:l.length≤1000000):
  ai prog 167 [y] h fun r h' =>∃id,h id=none∧r= .ptr id 0∧h' =upd h id (some (RO ⟨l,0,false⟩)):=by
 refine aeB func167 7 [.tmp 2] fun hwf=>?_
 simp only[go_sem];refine(lH.pure fun g hg=>A6 y l g (hb.sub hg) aeC).pthen ?_
 simp only[go_sem];intro id hid;simp only[go_sem];exact .mk _ (.refl _) (.refl _) ⟨id,hid,rfl,rfl⟩
theorem KF(s:RS)(hw:WfR s)(h:Heap)(id:Nat)(hid:h id=some (RO s)):
  ai prog 259 [.ptr id 0] h fun r h' =>r= .tup [.v (.int .i64 (rK 10 0 0 (s.b.drop s.at_)).1),.i ((rK 10 0 0 (s.b.drop s.at_)).2:Nat)]∧h' =h:=by
 refine aeB func259 74 [.tmp 2,.tmp 3] fun hwf=>?_
 have hw1:=hw.1;have hw2:=hw.2;have g:=hid;unfold RO at g;simp only[go_sem];generalize hx:rK 10 0 0 (s.b.drop s.at_)=x;refine .intro (fun k ρ h' =>h' =h∧∃(i u:Nat),k+i=10∧rK k i u (s.b.drop (s.at_+i))=x∧u<128 ^ i∧lk ρ 0=some (.ptr id 0)∧lk ρ 4=some (.v (.int .u64 (u:Int)))∧lk ρ 5=some (.i (i:Int))) 10 ?_ ?_
 ·refine⟨rfl,0,0,rfl,hx,aeG,?_,?_,?_⟩<;>simp only[go_sem]
  all_goals rfl
 rintro k ρ h' ⟨rfl,i,u,hki,hr,hu,r0,r4,r5⟩
 rcases k with _|k
 ·have d1:decide ((i:Int)<10)=false:=decide_eq_false aeC
  simp only[go_sem,r0,r4,r5,d1];exact⟨.of aeF,.mk _ (.refl _) (.refl _) ⟨agK,rfl⟩⟩
 have d1:decide ((i:Int)<10)=true:=decide_eq_true aeC;have w1:IntKind.i64.wrap ((s.at_:Int)+(i:Int))=((s.at_+i:Nat):Int):=afa;have w2:=aey i aeC
 by_cases hc:s.at_+i<s.b.length
 case neg=>
  have d2:decide (((s.at_+i:Nat):Int)<(s.b.length:Int))=false:=decide_eq_false aeC;simp only[go_sem,r0,r4,r5,d1,g,w1,aes,d2];rw[List.drop_eq_nil_of_le aeC]at hr;exact⟨.of aeF,.mk _ (.refl _) (.refl _) ⟨agK,rfl⟩⟩
 have d2:decide (((s.at_+i:Nat):Int)<(s.b.length:Int))=true:=decide_eq_true aeC;rw[List.drop_eq_getElem_cons hc]at hr;generalize hcc:s.b[s.at_+i]=c at hr;simp only[go_sem,r0,r4,r5,d1,g,w1,aes,d2];refine⟨.of aeF,.of aeF,?_⟩;refine .at (s.at_+i) (by simpa using hc) aeQ ?_
 simp only[go_sem,r0,r4,r5,aet,hcc,aJ];have hclt:=c.toNat_lt;have pw:(2:Nat) ^ (7*i)=128 ^ i:=by rw[Nat.pow_mul]
 have p9:(128:Nat) ^ 9=9223372036854775808:=aeG;unfold rK at hr
 by_cases hb:(i=9∧1<c.toNat)∨(0<i∧c.toNat=0)
 ·rw[if_pos hb]at hr
  by_cases h9:i=9∧1<c.toNat
  ·have d3:((i:Int)==9)=true:=by simp;omega
   have d4:decide ((1:Int)<(c.toNat:Int))=true:=decide_eq_true aeC;simp only[go_sem,r0,r4,r5,d3,d4];exact .mk _ (.refl _) (.refl _) ⟨agK,rfl⟩
  ·have hb:0<i∧c.toNat=0:=by omega
   have d4:decide ((1:Int)<(c.toNat:Int))=false:=decide_eq_false aeC;have d5:decide ((0:Int)<(i:Int))=true:=decide_eq_true aeC;have d6:((c.toNat:Int)==0)=true:=ae0;cases d3:((i:Int)==9)<;>simp only[go_sem,r0,r4,r5,d3,d4,d5,d6]<;>exact .mk _ (.refl _) (.refl _) ⟨agK,rfl⟩
 rw[if_neg hb]at hr;have hi9:i≤9:=aeC;have hle:c.toNat % 128*128 ^ i+u<18446744073709551616:=by
  by_cases e9:i=9
  ·subst e9
   rw[p9]at hu⊢;omega
  ·have h1:(128:Nat) ^ i≤128 ^ 8:=Nat.pow_le_pow_right aeG aeC
   have h2:(128:Nat) ^ 8=72057594037927936:=aeG;exact akx
 have w3:IntKind.u64.wrap ((c.toNat % 128:Nat):Int)=((c.toNat % 128:Nat):Int):=Q3 _ aeC;have w4:IntKind.i64.wrap ((7:Int)*(i:Int))=((7*i:Nat):Int):=afa;have w5:IntKind.u64.wrap ((7*i:Nat):Int)=((7*i:Nat):Int):=Q3 _ aeC;have h63:7*i≤63:=aeC;have hu' :u<2 ^ (7*i):=by rw[pw];exact hu
 have hor:u+c.toNat % 128*2 ^ (7*i)<18446744073709551616:=by rw[pw];omega
 have wS:c.toNat % 128*2 ^ (7*i) % 18446744073709551616=c.toNat % 128*2 ^ (7*i):=Nat.mod_eq_of_lt aeC;have three:(i=9∧c.toNat≤1∧c.toNat≠0)∨(i<9∧0<i∧c.toNat≠0)∨i=0:=aeC;cases d7:decide ((c.toNat:Int)<128)
 ·have h7:=aev d7
  rw[if_neg aeC]at hr;have hnew:u+c.toNat % 128*2 ^ (7*i)<128 ^ (i+1):=by
   rw[pw,Nat.pow_succ];exact akx
  rw[←pw,Nat.add_assoc]at hr;generalize hU' :u+c.toNat % 128*2 ^ (7*i)=u' at hr hnew hor;rcases three with⟨t1,t2,t3⟩|⟨t1,t2,t3⟩|t1
  ·have d3:((i:Int)==9)=true:=by simp;omega
   have d4:decide ((1:Int)<(c.toNat:Int))=false:=decide_eq_false aeC;have d5:decide ((0:Int)<(i:Int))=true:=decide_eq_true aeC;have d6:((c.toNat:Int)==0)=false:=ae0;simp only[go_sem,r0,r4,r5,d3,d4,d5,d6,w3,w4,w5,h63,wS,hu',hU',hor,d7,w2];refine⟨k,aeC,rfl,i+1,u',aeC,hr,hnew,?_,?_,?_⟩<;>simp only[go_sem,r0]
  ·have d3:((i:Int)==9)=false:=by simp;omega
   have d5:decide ((0:Int)<(i:Int))=true:=decide_eq_true aeC;have d6:((c.toNat:Int)==0)=false:=ae0;simp only[go_sem,r0,r4,r5,d3,d5,d6,w3,w4,w5,h63,wS,hu',hU',hor,d7,w2];refine⟨k,aeC,rfl,i+1,u',aeC,hr,hnew,?_,?_,?_⟩<;>simp only[go_sem,r0]
  ·have d3:((i:Int)==9)=false:=by simp;omega
   have d5:decide ((0:Int)<(i:Int))=false:=decide_eq_false aeC;simp only[go_sem,r0,r4,r5,d3,d5,w3,w4,w5,h63,wS,hu',hU',hor,d7,w2];refine⟨k,aeC,rfl,i+1,u',aeC,hr,hnew,?_,?_,?_⟩<;>simp only[go_sem,r0]
 ·have h7:=aeu d7
  rw[if_pos aeC]at hr;have ec:c.toNat % 128=c.toNat:=aeC;rw[←pw]at hr;have hU0:u+c.toNat*2 ^ (7*i)=u+c.toNat % 128*2 ^ (7*i):=by rw[ec]
  rw[hU0]at hr;generalize hU' :u+c.toNat % 128*2 ^ (7*i)=u' at hr hor;have w6:IntKind.i64.wrap ((u' / 2:Nat):Int)=((u' / 2:Nat):Int):=aW _ aeC;have b1:(-9223372036854775808:Int)≤((u' / 2:Nat):Int):=aeC;have b2:((u' / 2:Nat):Int)≤9223372036854775807:=aeC;have un:unzig u' =if u' % 2=1 then -((u' / 2:Nat):Int) - 1 else((u' / 2:Nat):Int):=rfl
  cases d8:(((u' % 2:Nat):Int)==1)
  ·have h8:¬u' % 2=1:=by intro hh;rw[hh]at d8;cases d8
   rw[if_neg h8]at un;rw[un]at hr;rcases three with⟨t1,t2,t3⟩|⟨t1,t2,t3⟩|t1
   ·have d3:((i:Int)==9)=true:=by simp;omega
    have d4:decide ((1:Int)<(c.toNat:Int))=false:=decide_eq_false aeC;have d5:decide ((0:Int)<(i:Int))=true:=decide_eq_true aeC;have d6:((c.toNat:Int)==0)=false:=ae0;simp only[go_sem,r0,r4,r5,d3,d4,d5,d6,w3,w4,w5,h63,wS,hu',hU',hor,d7,w6,d8,w2];exact .mk _ (.refl _) (.refl _) ⟨agK,rfl⟩
   ·have d3:((i:Int)==9)=false:=by simp;omega
    have d5:decide ((0:Int)<(i:Int))=true:=decide_eq_true aeC;have d6:((c.toNat:Int)==0)=false:=ae0;simp only[go_sem,r0,r4,r5,d3,d5,d6,w3,w4,w5,h63,wS,hu',hU',hor,d7,w6,d8,w2];exact .mk _ (.refl _) (.refl _) ⟨agK,rfl⟩
   ·have d3:((i:Int)==9)=false:=by simp;omega
    have d5:decide ((0:Int)<(i:Int))=false:=decide_eq_false aeC;simp only[go_sem,r0,r4,r5,d3,d5,w3,w4,w5,h63,wS,hu',hU',hor,d7,w6,d8,w2];exact .mk _ (.refl _) (.refl _) ⟨agK,rfl⟩
  ·have h8:u' % 2=1:=by have:=eq_of_beq d8;omega
   rw[if_pos h8]at un;rw[un]at hr;rcases three with⟨t1,t2,t3⟩|⟨t1,t2,t3⟩|t1
   ·have d3:((i:Int)==9)=true:=by simp;omega
    have d4:decide ((1:Int)<(c.toNat:Int))=false:=decide_eq_false aeC;have d5:decide ((0:Int)<(i:Int))=true:=decide_eq_true aeC;have d6:((c.toNat:Int)==0)=false:=ae0;simp only[go_sem,r0,r4,r5,d3,d4,d5,d6,w3,w4,w5,h63,wS,hu',hU',hor,d7,w6,d8,b1,b2,w2];exact .mk _ (.refl _) (.refl _) ⟨agK,rfl⟩
   ·have d3:((i:Int)==9)=false:=by simp;omega
    have d5:decide ((0:Int)<(i:Int))=true:=decide_eq_true aeC;have d6:((c.toNat:Int)==0)=false:=ae0;simp only[go_sem,r0,r4,r5,d3,d5,d6,w3,w4,w5,h63,wS,hu',hU',hor,d7,w6,d8,b1,b2,w2];exact .mk _ (.refl _) (.refl _) ⟨agK,rfl⟩
   ·have d3:((i:Int)==9)=false:=by simp;omega
    have d5:decide ((0:Int)<(i:Int))=false:=decide_eq_false aeC;simp only[go_sem,r0,r4,r5,d3,d5,w3,w4,w5,h63,wS,hu',hU',hor,d7,w6,d8,b1,b2,w2];exact .mk _ (.refl _) (.refl _) ⟨agK,rfl⟩
theorem RC.step(hc:RC f args s R s'){id:Nat}(hid:h id=some (RO s))
  (k:∀h2,h2=upd h id (some (RO s'))→h2 id=some (RO s')→(∀b,upd h2 id b=upd h id b)→Q R h2):ai prog f (.ptr id 0::args) h Q:=
 hc.go hid (k _ rfl (ah ..) fun b=>by
  grind [ah,ag])
theorem Ed(s:RS)(hw:WfR s)(lo hi:Int):RC 220 [.i lo,.i hi] s (.v (.int .i64 (rIn s lo hi).1)) (rIn s lo hi).2:=fun h id hid=>by
 have hw1:=hw.1;have hw2:=hw.2;refine aeB func220 45 [.tmp 6] fun hwf=>?_
 have g:=hid;unfold RO at g;cases d1:s.bad
 case true=>
  rw[d1]at g;simp only[go_sem,g];exact .mk _ (.refl _) (.refl _) ⟨by rw[rIn,if_pos d1];rfl,by rw[rIn,if_pos d1,bF hid]⟩
 have e:rIn s lo hi=(let x:=rK 10 0 0 (s.b.drop s.at_);if x.2=0∨x.1<lo∨hi<x.1 then(0,mF s s.at_)else(x.1,{s with at_:=s.at_+x.2})):=by
  simp_all [rIn,if_neg]
 rw[d1]at g;simp only[go_sem,g];refine(KF s hw h id hid).pthen ?_;have hlen:=(zP 10 0 0 (s.b.drop s.at_)).1;rw[List.length_drop]at hlen;generalize rK 10 0 0 (s.b.drop s.at_)=x at e hlen⊢;obtain⟨n,z⟩:=x;simp only at e hlen⊢
 by_cases hb:z=0∨n<lo∨hi<n
 ·rw[if_pos hb]at e
  rw[e];have fin:∀P:Prop,P→P:=fun _ p=>p
  rcases Decidable.em (z=0)with c1|c1
  ·have d2:((z:Int)==0)=true:=by grind
   simp only[go_sem,g,d2];refine(pK s s.at_).go hid ?_;exact ajl
  have d2:((z:Int)==0)=false:=aeD;rcases Decidable.em (n<lo)with c2|c2
  ·simp only[go_sem,g,d2,decide_eq_true c2]
   refine(pK s s.at_).go hid ?_;exact ajl
  ·simp only[go_sem,g,d2,decide_eq_false c2,decide_eq_true (show hi<n by omega)]
   refine(pK s s.at_).go hid ?_;exact ajl
 ·rw[if_neg hb]at e
  rw[e];have d2:((z:Int)==0)=false:=aeD;have w1:IntKind.i64.wrap ((s.at_:Int)+(z:Int))=((s.at_+z:Nat):Int):=aeN;simp only[go_sem,g,d2,decide_eq_false (show¬n<lo by omega),decide_eq_false (show¬hi<n by omega),w1]
  exact .mk _ (.refl _) (.refl _) ⟨rfl,by grind [RO]⟩
theorem GA(s:RS)(hw:WfR s):RC 168 [] s (.v (.int .i64 (gC s).1)) (gC s).2:=fun h id hid=>by
 refine aeB func168 5 [.tmp 2] fun hwf=>?_
 simp only[go_sem];refine(Ed s hw _ _).go hid ?_;exact ajl
theorem CU(hw:WfR s)(h0:lo≤0)(h1:0≤hi):lo≤(rIn s lo hi).1∧(rIn s lo hi).1≤hi:=by grind [rIn]
theorem gR(hw:WfR s)(hm:0≤most):WfR (bV s most).2:=by
 have h1:=mA (lo:=0) (hi:=most) hw;have h2:=CU (lo:=0) (hi:=most) hw (Int.le_refl 0) hm;unfold bV;simp only;split
 ·exact zO h1
 ·exact⟨aeD,h1.2⟩
theorem qk(s:RS)(hw:WfR s)(most:Int)(hmo:0≤most):RC 169 [.i most] s (.s (bV s most).1) (bV s most).2:=fun h id hid=>by
 have hx:=mA (lo:=0) (hi:=most) hw;have hx2:=CU (lo:=0) (hi:=most) hw (Int.le_refl 0) hmo;refine aeB func169 59 [.tmp 4] fun hwf=>?_
 have g:=hid;unfold RO at g;simp only[go_sem,g];refine(Ed s hw 0 most).step hid ?_;have e:bV s most=(let x:=rIn s 0 most;if x.2.bad∨(x.2.b.length:Int) - x.2.at_<x.1 then([],mF x.2 s.at_)else((x.2.b.drop x.2.at_).take x.1.toNat,{x.2 with at_:=x.2.at_+x.1.toNat})):=rfl
 generalize rIn s 0 most=x at e hx hx2⊢;obtain⟨n,t⟩:=x;simp only at e hx hx2⊢;obtain⟨m,rfl⟩:=Int.eq_ofNat_of_zero_le hx2.1;have ht1:=hx.1;have ht2:=hx.2;intro h2 eh2 hid2 hup;have g2:=hid2;unfold RO at g2;have w1:IntKind.i64.wrap ((t.b.length:Int) - (t.at_:Int))=(t.b.length:Int) - (t.at_:Int):=aW _ aeC;clear eh2 hid g
 by_cases hb:t.bad=true∨(t.b.length:Int) - t.at_<((m:Nat):Int)
 ·rw[if_pos hb]at e
  rw[e];cases d1:t.bad<;>rw[d1]at g2
  ·have hb:(t.b.length:Int) - t.at_<((m:Nat):Int):=by
    grind
   simp only[go_sem,g2,w1,aes,decide_eq_true hb];exact ajL
  ·simp only[go_sem,g2]
   exact ajL
 ·rw[if_neg hb]at e
  rw[e];have d1:t.bad=false:=by
   grind
  rw[d1]at g2;have hle:t.at_+m≤t.b.length:=aeC;have w2:IntKind.i64.wrap ((t.at_:Int)+(m:Int))=((t.at_+m:Nat):Int):=aeN;have w3:IntKind.i64.wrap (((t.at_+m:Nat):Int) - (m:Int))=(t.at_:Int):=aeN;simp only[go_sem,g2,w1,aes,decide_eq_false (show¬(t.b.length:Int) - t.at_<((m:Nat):Int) by omega)]
  refine⟨.of aeF,?_⟩;simp only[go_sem,g2,w2,w3,aes];exact⟨.of aeF,aeC,aeC,aeC,.mk _ (.refl _) (.refl _) ⟨by rw[show t.at_+m - t.at_=m by omega];rfl,by grind [RO]⟩⟩
structure RAt (h0:Heap) (id:Nat) (h:Heap) (s:RS):Prop where
 here:h id=some (RO s)
 sub:∀j b,j≠id→h0 j=some b→h j=some b
theorem RAt.start{id:Nat}(hid:h id=some (RO s)):RAt h id h s:=⟨hid,fun _ _ _ e=>e⟩
theorem RAt.fin{id:Nat}(hr:RAt h0 id h s):Ab.Sub (upd h0 id (some (RO s))) h:=fun j b e=>by
 by_cases hj:j=id
 ·subst hj;rw[ah]at e;rw[hr.here,e]
 ·rw[ag _ _ hj]at e;exact hr.sub j b hj e
theorem RAt.ne{id i:Nat}(hr:RAt h0 id h s)(hi:h i=none):i≠id:=fun e=>by rw[e,hr.here]at hi;grind
theorem RAt.none{id i:Nat}(hr:RAt h0 id h s)(hi:h i=Option.none):h0 i=Option.none:=by
 cases e:h0 i with
 |none=>rfl
 |some b=>rw[hr.sub i b (hr.ne hi) e]at hi;omega
theorem RAt.put{id i:Nat}{b:Option Blk}(hr:RAt h0 id h s)(hi:h0 i=Option.none)(hn:i≠id):RAt h0 id (upd h i b) s:=
 ⟨by rw[ag _ _ (Ne.symm hn)];exact hr.here,fun j c hj e=>by
  rw[ag _ _ fun e2=>aeD]
  exact hr.sub j c hj e⟩
theorem RAt.step{id:Nat}(hr:RAt h0 id h s)(hc:RC f args s R s')(k:∀h2,RAt h0 id h2 s'→(∀j,j≠id→h2 j=h j)→Q R h2):ai prog f (.ptr id 0::args) h Q:=
 hc.go hr.here (k _ ⟨ah ..,fun j b hj e=>by rw[ag _ _ hj];exact hr.sub j b hj e⟩ fun j hj=>ag _ _ hj)
theorem I2(hw:WfR s):WfR (qH s).2:=by
 have h1:=mA (lo:=1) (hi:=5) hw;unfold qH;simp only;generalize rIn s 1 5=x at h1⊢;have h2:WfR (if oY x.1=true then((⟨x.1,0,(bV x.2 64).1⟩,(bV x.2 64).2):bu×RS)else(⟨x.1,(gC x.2).1,[]⟩,(gC x.2).2)).2:=by
  split
  ·grind [gR]
  ·exact mA h1
 generalize (if oY x.1=true then((⟨x.1,0,(bV x.2 64).1⟩,(bV x.2 64).2):bu×RS)else(⟨x.1,(gC x.2).1,[]⟩,(gC x.2).2))=y at h2⊢
 split
 ·exact aiJ
 ·split
  ·exact zO h2
  ·exact aiJ
theorem HJ(s:RS)(hw:WfR s):RC 171 [] s (aS (qH s).1) (qH s).2:=fun h id hid=>by
 have hw1:=mA (lo:=1) (hi:=5) hw;refine aeB func171 31 [.cell 2 48] fun hwf=>?_
 simp only[go_sem];intro i1 h1;have a0:=RAt.start hid;have n1:=a0.ne h1;have m1:=a0.none h1;have a1:=a0.put (b:=some (.obj [.i 0,.i 0,.s []] 48)) m1 n1;simp only[go_sem];refine a1.step (L2 s) fun g1 b1 k1=>?_
 have c1:=k1 i1 n1;rw[ah]at c1;clear a0 a1 k1;simp only[go_sem];refine b1.step (Ed s hw 1 5) fun g2 b2 k2=>?_
 have c2:=(k2 i1 n1).trans c1;clear b1 c1 k2;simp only[go_sem];intro i2 h2;have n2:=b2.ne h2;have m2:=b2.none h2;have n21:i2≠i1:=fun e=>by rw[e,c2]at h2;cases h2
 have e:qH s=(let x:=rIn s 1 5;let y:bu×RS:=if oY x.1 then(let t:=bV x.2 64;(⟨x.1,0,t.1⟩,t.2))else(let t:=gC x.2;(⟨x.1,t.1,[]⟩,t.2));if y.2.bad then(aq,y.2)else if bz y.1=false then(aq,mF y.2 s.at_)else y):=rfl
 generalize rIn s 1 5=x at e hw1 b2⊢;obtain⟨kd,t⟩:=x;simp only at e hw1 b2⊢;have b3:=b2.put (b:=some (.obj [.i kd,.i 0,.s []] 48)) m2 n2;have c3:upd g2 i2 (some (.obj [.i kd,.i 0,.s []] 48)) i1=_:=(ag _ _ (Ne.symm n21)).trans c2;have d3:upd g2 i2 (some (.obj [.i kd,.i 0,.s []] 48)) i2=_:=ah ..;clear b2 c2 h2;simp only[go_sem,ah];generalize upd g2 i2 (some (.obj [.i kd,.i 0,.s []] 48))=g3 at b3 c3 d3⊢;refine(Ad kd _).pthen ?_;simp only[go_sem];cases dt:(kd==3||kd==5)
 ·have et:oY kd=false:=dt
  rw[et]at e;simp only[Bool.false_eq_true,if_false]at e;simp only[go_sem];refine b3.step (GA t hw1) fun g4 b4 k4=>?_
  have c4:=(k4 i1 n1).trans c3;have d4:=(k4 i2 n2).trans d3;have e5:qH s=(if(gC t).2.bad then(aq,(gC t).2)else if bz (⟨kd,(gC t).1,[]⟩:bu)=false then(aq,mF (gC t).2 s.at_)else((⟨kd,(gC t).1,[]⟩:bu),(gC t).2)):=e
  have wT:WfR (gC t).2:=mA hw1;have b5:=b4.put (b:=(some (.obj [.i kd,.v (.int .i64 (gC t).1),.s []] 48))) m2 n2;have c5:upd g4 i2 (some (.obj [.i kd,.v (.int .i64 (gC t).1),.s []] 48)) i1=_:=(ag _ _ (Ne.symm n21)).trans c4;have d5:upd g4 i2 (some (.obj [.i kd,.v (.int .i64 (gC t).1),.s []] 48)) i2=_:=ah ..;simp only[go_sem,d4];generalize upd g4 i2 (some (.obj [.i kd,.v (.int .i64 (gC t).1),.s []] 48))=g5 at b5 c5 d5⊢;clear b4 c4 d4 k4 e;refine b5.step (Ar _) fun g6 b6 k6=>?_
  have c6:=(k6 i1 n1).trans c5;have d6:=(k6 i2 n2).trans d5;clear b5 c5 d5 k6;cases db:(gC t).2.bad
  ·rw[db,if_neg aeG]at e5
   simp only[go_sem,db,d6];refine(ga (⟨kd,(gC t).1,[]⟩:bu) g6).pthen ?_;cases dv:bz (⟨kd,(gC t).1,[]⟩:bu)
   ·exact ajw
   ·exact akm
  ·exact akn
 ·have et:oY kd=true:=dt
  rw[et]at e;simp only[if_true]at e;simp only[go_sem];refine b3.step (qk t hw1 64 aeG) fun g4 b4 k4=>?_
  have c4:=(k4 i1 n1).trans c3;have d4:=(k4 i2 n2).trans d3;have e5:qH s=(if(bV t 64).2.bad then(aq,(bV t 64).2)else if bz (⟨kd,0,(bV t 64).1⟩:bu)=false then(aq,mF (bV t 64).2 s.at_)else((⟨kd,0,(bV t 64).1⟩:bu),(bV t 64).2)):=e
  have wT:WfR (bV t 64).2:=gR hw1 aeG;have b5:=b4.put (b:=(some (.obj [.i kd,.i 0,.s (bV t 64).1] 48))) m2 n2;have c5:upd g4 i2 (some (.obj [.i kd,.i 0,.s (bV t 64).1] 48)) i1=_:=(ag _ _ (Ne.symm n21)).trans c4;have d5:upd g4 i2 (some (.obj [.i kd,.i 0,.s (bV t 64).1] 48)) i2=_:=ah ..;simp only[go_sem,d4];generalize upd g4 i2 (some (.obj [.i kd,.i 0,.s (bV t 64).1] 48))=g5 at b5 c5 d5⊢;clear b4 c4 d4 k4 e;refine b5.step (Ar _) fun g6 b6 k6=>?_
  have c6:=(k6 i1 n1).trans c5;have d6:=(k6 i2 n2).trans d5;clear b5 c5 d5 k6;cases db:(bV t 64).2.bad
  ·rw[db,if_neg aeG]at e5
   simp only[go_sem,db,d6];refine(ga (⟨kd,0,(bV t 64).1⟩:bu) g6).pthen ?_;cases dv:bz (⟨kd,0,(bV t 64).1⟩:bu)
   ·exact ajw
   ·exact akm
  ·exact akn
theorem I1(hw:WfR s):WfR (qd s).2:=by grind [qd,mA,I2]
theorem Tk(s:RS)(hw:WfR s)(q:Perm):RC 170 [.sl (s.b.map aJ) q] s (aS (qd s).1) (qd s).2:=fun h id hid=>by
 have hw1:=hw.1;have hw2:=hw.2;refine aeB func170 25 [.cell 4 48] fun hwf=>?_
 simp only[go_sem];intro i1 h1;have a0:=RAt.start hid;have n1:=a0.ne h1;have m1:=a0.none h1;have a1:=a0.put (b:=some (.obj [.i 0,.i 0,.s []] 48)) m1 n1;simp only[go_sem];refine a1.step (L2 s) fun g1 b1 k1=>?_
 have c1:=k1 i1 n1;rw[ah]at c1;clear a0 a1 k1
 by_cases hlt:s.at_<s.b.length
 ·have d1:decide ((s.at_:Int)<(s.b.length:Int))=true:=decide_eq_true aeC
  simp only[go_sem,aes,d1];refine b1.step (L2 s) fun g2 b2 k2=>?_
  have c2:=(k2 i1 n1).trans c1;clear b1 c1 k2;simp only[go_sem];refine .at s.at_ aeD aeQ ?_;have hg:s.b.getD s.at_ 0=s.b[s.at_]:=aeD;generalize hcc:s.b[s.at_]=c at hg;cases d2:((c.toNat:Int)==0)
  ·have hne:c≠0:=fun e=>by simp_all
   have e:qd s=qH s:=by simp_all [qd,if_neg]
   rw[e];simp only[go_sem,aet,hcc,aJ,d2];refine b2.step (HJ s hw) fun g3 b3 k3=>?_
   have c3:=(k3 i1 n1).trans c2;simp only[go_sem,c3,ah,aS];exact ahm
  ·have he:c=0:=by
    have:=eq_of_beq d2;exact UInt8.toNat_inj.1 aeD
   have e:qd s=(aq,(rIn (rIn s 0 0).2 0 0).2):=by simp_all [qd,if_pos]
   rw[e];simp only[go_sem,aet,hcc,aJ,d2];refine b2.step (Ed s hw 0 0) fun g3 b3 k3=>?_
   have c3:=(k3 i1 n1).trans c2;simp only[go_sem];refine b3.step (Ed _ (mA hw) 0 0) fun g4 b4 k4=>?_
   have c4:=(k4 i1 n1).trans c3;simp only[go_sem,c4,ah];exact .mk _ (.refl _) (b4.put m1 n1).fin ⟨rfl,rfl⟩
 ·have d1:decide ((s.at_:Int)<(s.b.length:Int))=false:=decide_eq_false aeC
  have e:qd s=qH s:=by simp_all [qd,if_neg]
  rw[e];simp only[go_sem,aes,d1];refine b1.step (HJ s hw) fun g3 b3 k3=>?_
  have c3:=(k3 i1 n1).trans c1;simp only[go_sem,c3,ah,aS];exact ahm
theorem yC(a b:Txt)(p q:Perm)(h:Heap):ai prog 67 [.sl (a.map aJ) p,.sl (b.map aJ) q] h fun r h' =>r= .b (decide (a=b))∧h' =h:=by
 refine aeB func67 10 [.tmp 4] fun hwf=>?_
 simp only[go_sem];exact .same (.refl _) ⟨by
  grind [ax],rfl⟩
structure OpL (o:OpD):Prop where
 subj:o.subj.length≤100000
 case:o.case.length≤100000
 field:o.field.length≤100000
 to:o.to.length≤100000
 val:o.val.s.length≤100000
 text:o.text.length≤100000
 reason:o.reason.length≤100000
def opT(o:OpD):List Txt:=[o.subj,o.case,o.field,o.to]
theorem NW(o:OpD)(h64:oC o)(hl:OpL o)(h:Heap):ai prog 65 [opA o] h fun r h' =>r= .sl ((hY o).map aJ) .no∧h' =h:=by
 obtain⟨k1,k2,k3,k4⟩:=h64;have hnk:=iZ o.kind;obtain⟨l1,l2,l3,l4,l5,l6,l7⟩:=hl;have t1:=cZ o.subj;have t2:=cZ o.case;have t3:=cZ o.field;have t4:=cZ o.to;refine aeB func65 46 [.tmp 2] fun hwf=>?_
 simp only[go_sem,opA,opC];intro id hid;simp only[go_sem];refine(CM (.sl [] .full) [] o.kind _ (.nil _) aeJ k1).pthen ?_;simp only[go_sem];generalize hH:upd h id _=H;have hHid:H id=some (.obj (opC o) 50):=by rw[←hH];exact ah ..
 have hsub:Ab.Sub h H:=by rw[←hH];exact(Sub.refl h).new hid _
 unfold opC at hHid;clear hH;refine .intro (fun m ρ h' =>h' =H∧∃i:Nat,i≤4∧m=4 - i∧lk ρ 1=some (.ptr id 0)∧lk ρ 3=some (.sl ((iY o.kind++(((opT o).map dD).take i).flatten).map aJ) .no)∧(∃q,lk ρ 17=some (.sl ((opT o).map .s) q))∧lk ρ 18=some (.i 4)∧lk ρ 19=some (.i i)) 4 ?_ ?_
 ·refine⟨rfl,0,aeC,rfl,?_,?_,?_,?_,?_⟩
  ·rfl
  ·simp only[go_sem]
   simp
  ·refine⟨?_,?_⟩
   rotate_left
   ·simp only[go_sem]
    rfl
  ·rfl
  rfl
 rintro m ρ h' ⟨rfl,i,hi,rfl,r1,r3,⟨q,r17⟩,r18,r19⟩
 have hLl:((opT o).map dD).length=4:=rfl;have hOl:(opT o).length=4:=rfl;have hF:((opT o).map dD).flatten.length≤400040:=by grind [opT]
 have hf:=pM ((opT o).map dD) i;have hall:∀t∈opT o,t.length≤100000:=by simp_all [opT]
 by_cases hc:i<4
 ·have d1:decide ((i:Int)<4)=true:=decide_eq_true aeC
  have w1:IntKind.i64.wrap ((i:Int)+1)=((i+1:Nat):Int):=aeN;have hs:=oH ((opT o).map dD) i aeC;rw[aet]at hs;have ht:=hall _ (aex (show i<(opT o).length by omega))
  simp only[go_sem,r1,r3,r17,r18,r19,d1];refine .at i aeD aeQ ?_;simp only[go_sem,r1,r3,r17,r18,r19,aet];refine(ye _ (iY o.kind++(((opT o).map dD).take i).flatten) (opT o)[i] _ (.sl _ _) aeD aeC).pthen ?_;simp only[go_sem,r1,r3,r17,r18,r19,w1];refine⟨3 - i,aeC,rfl,i+1,aeC,aeC,?_,?_,⟨q,?_⟩,?_,?_⟩
  ·simp only[go_sem,r1]
  ·simp only[go_sem,hs,List.append_assoc]
   rfl
  ·simp only[go_sem,r17]
  ·simp only[go_sem,r18]
  ·simp only[go_sem]
 ·have e:i=4:=by omega
  subst e;have e4:(((opT o).map dD).take 4).flatten=dD o.subj++(dD o.case++(dD o.field++dD o.to)):=by simp[opT]
  rw[e4]at r3 hf;have d1:decide ((4:Int)<4)=false:=rfl;generalize hP:iY o.kind++(dD o.subj++(dD o.case++(dD o.field++dD o.to)))=P1 at r3;have hP1:P1.length≤400050:=aeD;simp only[go_sem,r1,r3,r17,r18,r19,hHid,d1];refine .quiet aeF ?_;simp only[go_sem,r1,r3,r17,r18,r19,hHid,d1];refine⟨_,IZ _ P1 o.val _ (.sl _ _) aeC k2 k3 aeC,?_⟩;have e2:(oQ o.val).length≤100020:=by
   grind [oQ,aew,iZ,cZ]
  simp only[go_sem,r1,hHid];refine⟨_,CM _ (P1++oQ o.val) o.review _ (.sl _ _) aeD k4,?_⟩;generalize hP2:P1++oQ o.val++iY o.review=P2;have hP2l:P2.length≤500080:=by
   grind [iZ,aew]
  simp only[go_sem,r1,hHid];refine .quiet aeF ?_;simp only[go_sem,r1,hHid];refine⟨_,ye _ P2 o.text _ (.sl _ _) aeC aeC,?_⟩;have e3:=cZ o.text;simp only[go_sem,r1,hHid];refine⟨_,ye _ (P2++dD o.text) o.reason _ (.sl _ _) aeD aeC,?_⟩;generalize hP3:P2++dD o.text++dD o.reason=P3;have e4:=cZ o.reason;have hP3l:P3.length≤800000:=aeD;simp only[go_sem,r1,hHid];refine(Fv o.glass _).pthen ?_;simp only[go_sem];refine(IZ _ P3 (dM o.glass) _ (.sl _ _) aeC ?_ ?_ ?_).pthen ?_
  ·cases o.glass<;>exact⟨aeG,aeG⟩
  ·cases o.glass<;>exact⟨aeG,aeG⟩
  ·cases o.glass<;>decide
  simp only[go_sem];refine .mk _ (.refl _) hsub ⟨?_,rfl⟩
  grind [hY,List.append_assoc,ax]
theorem lH.base{H:Heap}(hs:Ab.Sub h H)(ha:lH H g y l):lH h g y l:=by
 obtain⟨h1,h2|⟨id,i1,h2,h3⟩⟩:=ha
 ·exact⟨hs.trans h1,.inl h2⟩
 ·exact⟨hs.trans h1,.inr ⟨id,hs.none i1,h2,h3⟩⟩
theorem Qx(ch:BitVec 64)(o:OpD)(h64:oC o)(hl:OpL o)(hp:(hY o).length≤1000000)(h:Heap):ai prog 26 [.v (.int .u64 (ch.toNat:Int)),opA o] h fun r h' =>lH h h' r (dF ch o):=by
 refine aeB func26 20 [.tmp 4] fun hwf=>?_
 simp only[go_sem,opA,opC];intro id hid;generalize hH:upd h id _=H;have hHid:H id=some (.obj (opC o) 50):=by rw[←hH];exact ah ..
 have hsub:Ab.Sub h H:=by rw[←hH];exact(Sub.refl h).new hid _
 clear hH;simp only[go_sem];refine .intro (fun k ρ g=>∃(i:Nat) (v:BitVec 64) (l:Txt) (z:AV),lH H g z l∧i+k=8∧l++qX k v=qX 8 ch∧lk ρ 0=some (.v (.int .u64 (v.toNat:Int)))∧lk ρ 3=some (.ptr id 0)∧lk ρ 5=some z∧lk ρ 6=some (.i (i:Int))) 8 ?_ ?_
 ·refine⟨0,ch,[],_,Acc.full (.refl _),rfl,rfl,?_,?_,?_,?_⟩<;>simp only[go_sem]
  all_goals rfl
 rintro k ρ g ⟨i,v,l,z,ha,hk,hv,r0,r3,r5,r6⟩
 have hll:=congrArg List.length hv;rw[aew,gT,gT]at hll;rcases k with _|k
 ·have d1:decide ((i:Int)<8)=false:=decide_eq_false aeC
  have hg:=ha.1 _ _ hHid;unfold opC at hg;rw[show qX 0 v= []from rfl,List.append_nil]at hv
  subst hv;simp only[go_sem,r0,r3,r5,r6,d1,hg];refine(NW o h64 hl g).pthen ?_;simp only[go_sem];refine lH.app ha (m:=hY o) (fun _ hk=>hk) aeC fun z' h2 ha' =>?_
  simp only[go_sem];exact .same (.refl _) (ha'.base hsub)
 ·have d1:decide ((i:Int)<8)=true:=decide_eq_true aeC
  have w1:IntKind.i64.wrap ((i:Int)+1)=((i+1:Nat):Int):=aeN;simp only[go_sem,r0,r3,r5,r6,d1,wu8];refine lH.app ha (m:=[UInt8.ofNat v.toNat]) (fun _ hk=>hk) aeD fun z' h2 ha' =>?_
  have e8:v.toNat / 256=(v>>>8).toNat:=ag0;simp only[go_sem,r0,r3,r5,r6,w1,e8];refine⟨k,aeC,i+1,v>>>8,l++ [UInt8.ofNat v.toNat],z',ha',aeC,?_,?_,?_,?_,?_⟩
  ·grind [qX]
  all_goals simp only[go_sem,r3]
theorem CY(ch:BitVec 64)(o:OpD)(h64:oC o)(hl:OpL o)(hp:(hY o).length≤1000000)(h:Heap):ai prog 26 [.v (.int .u64 (ch.toNat:Int)),opA o] h fun r h' =>r= .sl ((dF ch o).map aJ) .no∧h' =h:=
 lH.pure fun g _=>Qx ch o h64 hl hp g
theorem uN(hw:WfR s):i64 (gC s).1:=CU hw aeG aeG
theorem Jm:i64 aq.kind∧i64 aq.n:=⟨⟨aeG,aeG⟩,⟨aeG,aeG⟩⟩
theorem I0:(mF s a).b=s.b:=by grind [mF]
theorem RM:(rIn s lo hi).2.b=s.b:=by grind [rIn,I0]
theorem xY{m:Int}:(bV s m).2.b=s.b:=by grind [bV,I0,RM]
theorem Qs(hw:WfR s):i64 (qH s).1.kind∧i64 (qH s).1.n:=by
 have hz:=Jm;have h1:=mA (lo:=1) (hi:=5) hw;have h2: -1≤(rIn s 1 5).1∧(rIn s 1 5).1≤5:=by
  grind [rIn]
 unfold qH;simp only;generalize rIn s 1 5=x at h1 h2⊢;have h3:i64 (if oY x.1=true then((⟨x.1,0,(bV x.2 64).1⟩,(bV x.2 64).2):bu×RS)else(⟨x.1,(gC x.2).1,[]⟩,(gC x.2).2)).1.kind∧i64 (if oY x.1=true then((⟨x.1,0,(bV x.2 64).1⟩,(bV x.2 64).2):bu×RS)else(⟨x.1,(gC x.2).1,[]⟩,(gC x.2).2)).1.n:=by
  split
  ·exact⟨⟨aeD,aeD⟩,⟨aeJ,aeJ⟩⟩
  ·exact⟨⟨aeD,aeD⟩,uN h1⟩
 generalize (if oY x.1=true then((⟨x.1,0,(bV x.2 64).1⟩,(bV x.2 64).2):bu×RS)else(⟨x.1,(gC x.2).1,[]⟩,(gC x.2).2))=y at h3⊢
 split
 ·exact hz
 ·split
  ·exact hz
  ·exact h3
theorem CV(hw:WfR s):i64 (qd s).1.kind∧i64 (qd s).1.n:=by grind [qd,Jm,Qs]
def rB:OpD:=⟨0,[],[],[],[],aq,0,[],[],false⟩
def Ka(l:Txt):AV:=.tup [opA ((oX l).getD rB),.v (.bool (oX l).isSome)]
theorem TA(l:Txt):rOp l=(let k:=gC ⟨l,0,false⟩;let s1:=bV k.2 16;let s2:=bV s1.2 16;let s3:=bV s2.2 16;let s4:=bV s3.2 16;let v:=qd s4.2;let r:=gC v.2;let t:=bV r.2 4096;let w:=bV t.2 64;let g:=qH w.2
 (⟨k.1,s1.1,s2.1,s3.1,s4.1,v.1,r.1,t.1,w.1,eqV g.1 (dM true)⟩,g.2)):=rfl
theorem f_l(h:OpF o):OpL o:=by
 obtain⟨a,b,c,d,e,f,g⟩:=h;refine⟨aeC,aeC,aeC,aeC,?_,aeC,aeC⟩;rcases e with e|e
 ·rw[e];decide
 ·by_cases hk:o.val.kind=3∨o.val.kind=5
  ·have:=(wh e hk).2;omega
  grind [B1]
theorem RAt.base{id:Nat}(hr:RAt h id g s)(hn:h id=Option.none):Ab.Sub h g:=fun j b e=>hr.sub j b aeD e
set_option maxHeartbeats 1000000 in
theorem MO(l:Txt)(q:Perm)(hl:l.length≤1000000)(h:Heap):ai prog 119 [.sl (l.map aJ) q] h fun r h' =>r=Ka l∧h' =h:=by
 refine aeB func119 58 [.cell 2 50,.tmp 3] fun hwf=>?_
 simp only[go_sem];intro i1 h1;simp only[go_sem];refine(Qw _ l _ (.sl _ _) hl).mono fun r g ⟨id,hid,er,eg⟩=>?_
 subst er;have n1:i1≠id:=fun e=>aiF
 have m0:h id=none:=by simp_all [ag,Ne.symm]
 have w0:WfR ⟨l,0,false⟩:=⟨Nat.zero_le _,hl⟩;have b0:RAt h id g ⟨l,0,false⟩:=⟨by simp_all [ah],fun j b hj e=>by
  rw[eg,ag _ _ hj,ag _ _ fun e2=>aeD]
  exact e⟩
 have c0:g i1=some (.obj (opC rB) 50):=by rw[eg,ag _ _ n1];exact ah ..
 clear eg hid;simp only[go_sem];intro i2 h2;have n2:=b0.ne h2;have m1:=h1;have m2:=b0.none h2;have n21:i2≠i1:=fun e=>aeD
 clear h2;have e:=TA l;simp only at e;have g0e:g=g:=rfl;generalize g=g0 at b0 c0⊢;clear g0e;simp only[go_sem];have b0' :=b0.put (b:=(some (.obj [.i 0,.s [],.s [],.s [],.s [],.i 0,.i 0,.s [],.i 0,.s [],.s [],.b false] 50))) m2 n2;have c0' :upd g0 i2 (some (.obj [.i 0,.s [],.s [],.s [],.s [],.i 0,.i 0,.s [],.i 0,.s [],.s [],.b false] 50)) i1=_:=(ag _ _ (Ne.symm n21)).trans c0;have d0' :upd g0 i2 (some (.obj [.i 0,.s [],.s [],.s [],.s [],.i 0,.i 0,.s [],.i 0,.s [],.s [],.b false] 50)) i2=_:=ah ..;clear b0 c0;generalize upd g0 i2 (some (.obj [.i 0,.s [],.s [],.s [],.s [],.i 0,.i 0,.s [],.i 0,.s [],.s [],.b false] 50))=g1 at b0' c0' d0'⊢;have b1:=b0';have c1:=c0';have d1:=d0';clear b0' c0' d0';refine b1.step (GA _ w0) fun g2 b2 k2=>?_
 have c2:=(k2 i1 n1).trans c1;have d2:=(k2 i2 n2).trans d1;clear b1 c1 d1 k2;have w1:=mA (lo:= -9223372036854775808) (hi:=9223372036854775807) w0;have q1:=uN w0
 change WfR (gC _).2 at w1
 have hb1:(gC ⟨l,0,false⟩).2.b=l:=RM;generalize gC ⟨l,0,false⟩=x1 at e w1 q1 hb1 b2⊢;obtain⟨v1,s1⟩:=x1;simp only at e w1 q1 hb1 b2⊢;simp only[go_sem,d2,ah];have b2' :=b2.put (b:=(some (.obj [.i v1,.s [],.s [],.s [],.s [],.i 0,.i 0,.s [],.i 0,.s [],.s [],.b false] 50))) m2 n2;have c2' :upd g2 i2 (some (.obj [.i v1,.s [],.s [],.s [],.s [],.i 0,.i 0,.s [],.i 0,.s [],.s [],.b false] 50)) i1=_:=(ag _ _ (Ne.symm n21)).trans c2;have d2' :upd g2 i2 (some (.obj [.i v1,.s [],.s [],.s [],.s [],.i 0,.i 0,.s [],.i 0,.s [],.s [],.b false] 50)) i2=_:=ah ..;clear b2 c2 d2;generalize upd g2 i2 (some (.obj [.i v1,.s [],.s [],.s [],.s [],.i 0,.i 0,.s [],.i 0,.s [],.s [],.b false] 50))=g3 at b2' c2' d2'⊢;have b3:=b2';have c3:=c2';have d3:=d2';clear b2' c2' d2';refine b3.step (qk _ w1 16 aeG) fun g4 b4 k4=>?_
 have c4:=(k4 i1 n1).trans c3;have d4:=(k4 i2 n2).trans d3;clear b3 c3 d3 k4;have w2:=gR (most:=16) w1 aeG;have hb2:(bV s1 16).2.b=l:=xY.trans hb1;generalize bV s1 16=x2 at e w2 hb2 b4⊢;obtain⟨v2,s2⟩:=x2;simp only at e w2 hb2 b4⊢;simp only[go_sem];refine b4.step (qk _ w2 16 aeG) fun g5 b5 k5=>?_
 have c5:=(k5 i1 n1).trans c4;have d5:=(k5 i2 n2).trans d4;clear b4 c4 d4 k5;have w3:=gR (most:=16) w2 aeG;have hb3:(bV s2 16).2.b=l:=xY.trans hb2;generalize bV s2 16=x3 at e w3 hb3 b5⊢;obtain⟨v3,s3⟩:=x3;simp only at e w3 hb3 b5⊢;simp only[go_sem];refine b5.step (qk _ w3 16 aeG) fun g6 b6 k6=>?_
 have c6:=(k6 i1 n1).trans c5;have d6:=(k6 i2 n2).trans d5;clear b5 c5 d5 k6;have w4:=gR (most:=16) w3 aeG;have hb4:(bV s3 16).2.b=l:=xY.trans hb3;generalize bV s3 16=x4 at e w4 hb4 b6⊢;obtain⟨v4,s4⟩:=x4;simp only at e w4 hb4 b6⊢;simp only[go_sem];refine b6.step (qk _ w4 16 aeG) fun g7 b7 k7=>?_
 have c7:=(k7 i1 n1).trans c6;have d7:=(k7 i2 n2).trans d6;clear b6 c6 d6 k7;have w5:=gR (most:=16) w4 aeG;have hb5:(bV s4 16).2.b=l:=xY.trans hb4;generalize bV s4 16=x5 at e w5 hb5 b7⊢;obtain⟨v5,s5⟩:=x5;simp only at e w5 hb5 b7⊢;simp only[go_sem,d7,ah];have b7' :=b7.put (b:=(some (.obj [.i v1,.s v2,.s v3,.s v4,.s v5,.i 0,.i 0,.s [],.i 0,.s [],.s [],.b false] 50))) m2 n2;have c7' :upd g7 i2 (some (.obj [.i v1,.s v2,.s v3,.s v4,.s v5,.i 0,.i 0,.s [],.i 0,.s [],.s [],.b false] 50)) i1=_:=(ag _ _ (Ne.symm n21)).trans c7;have d7' :upd g7 i2 (some (.obj [.i v1,.s v2,.s v3,.s v4,.s v5,.i 0,.i 0,.s [],.i 0,.s [],.s [],.b false] 50)) i2=_:=ah ..;clear b7 c7 d7;generalize upd g7 i2 (some (.obj [.i v1,.s v2,.s v3,.s v4,.s v5,.i 0,.i 0,.s [],.i 0,.s [],.s [],.b false] 50))=g8 at b7' c7' d7'⊢;have b8:=b7';have c8:=c7';have d8:=d7';clear b7' c7' d7';rw[show l.map aJ=s5.b.map aJ by grind]
 refine b8.step (Tk _ w5 _) fun g9 b9 k9=>?_
 have c9:=(k9 i1 n1).trans c8;have d9:=(k9 i2 n2).trans d8;clear b8 c8 d8 k9;have w6:=I1 w5;have q6:=CV w5;generalize qd s5=x6 at e w6 q6 b9⊢;obtain⟨v6,s6⟩:=x6;simp only at e w6 q6 b9⊢;simp only[go_sem,d9,ah,aS];have b9' :=b9.put (b:=(some (.obj [.i v1,.s v2,.s v3,.s v4,.s v5,.i v6.kind,.i v6.n,.s v6.s,.i 0,.s [],.s [],.b false] 50))) m2 n2;have c9' :upd g9 i2 (some (.obj [.i v1,.s v2,.s v3,.s v4,.s v5,.i v6.kind,.i v6.n,.s v6.s,.i 0,.s [],.s [],.b false] 50)) i1=_:=(ag _ _ (Ne.symm n21)).trans c9;have d9' :upd g9 i2 (some (.obj [.i v1,.s v2,.s v3,.s v4,.s v5,.i v6.kind,.i v6.n,.s v6.s,.i 0,.s [],.s [],.b false] 50)) i2=_:=ah ..;clear b9 c9 d9;generalize upd g9 i2 (some (.obj [.i v1,.s v2,.s v3,.s v4,.s v5,.i v6.kind,.i v6.n,.s v6.s,.i 0,.s [],.s [],.b false] 50))=g10 at b9' c9' d9'⊢;have b10:=b9';have c10:=c9';have d10:=d9';clear b9' c9' d9';refine b10.step (GA _ w6) fun g11 b11 k11=>?_
 have c11:=(k11 i1 n1).trans c10;have d11:=(k11 i2 n2).trans d10;clear b10 c10 d10 k11;have w7:=mA (lo:= -9223372036854775808) (hi:=9223372036854775807) w6;have q7:=uN w6
 change WfR (gC _).2 at w7
 generalize gC s6=x7 at e w7 q7 b11⊢;obtain⟨v7,s7⟩:=x7;simp only at e w7 q7 b11⊢;simp only[go_sem,d11,ah];have b11' :=b11.put (b:=(some (.obj [.i v1,.s v2,.s v3,.s v4,.s v5,.i v6.kind,.i v6.n,.s v6.s,.i v7,.s [],.s [],.b false] 50))) m2 n2;have c11' :upd g11 i2 (some (.obj [.i v1,.s v2,.s v3,.s v4,.s v5,.i v6.kind,.i v6.n,.s v6.s,.i v7,.s [],.s [],.b false] 50)) i1=_:=(ag _ _ (Ne.symm n21)).trans c11;have d11' :upd g11 i2 (some (.obj [.i v1,.s v2,.s v3,.s v4,.s v5,.i v6.kind,.i v6.n,.s v6.s,.i v7,.s [],.s [],.b false] 50)) i2=_:=ah ..;clear b11 c11 d11;generalize upd g11 i2 (some (.obj [.i v1,.s v2,.s v3,.s v4,.s v5,.i v6.kind,.i v6.n,.s v6.s,.i v7,.s [],.s [],.b false] 50))=g12 at b11' c11' d11'⊢;have b12:=b11';have c12:=c11';have d12:=d11';clear b11' c11' d11';refine b12.step (qk _ w7 4096 aeG) fun g13 b13 k13=>?_
 have c13:=(k13 i1 n1).trans c12;have d13:=(k13 i2 n2).trans d12;clear b12 c12 d12 k13;have w8:=gR (most:=4096) w7 aeG;generalize bV s7 4096=x8 at e w8 b13⊢;obtain⟨v8,s8⟩:=x8;simp only at e w8 b13⊢;simp only[go_sem];refine b13.step (qk _ w8 64 aeG) fun g14 b14 k14=>?_
 have c14:=(k14 i1 n1).trans c13;have d14:=(k14 i2 n2).trans d13;clear b13 c13 d13 k14;have w9:=gR (most:=64) w8 aeG;generalize bV s8 64=x9 at e w9 b14⊢;obtain⟨v9,s9⟩:=x9;simp only at e w9 b14⊢;simp only[go_sem,d14,ah];have b14' :=b14.put (b:=(some (.obj [.i v1,.s v2,.s v3,.s v4,.s v5,.i v6.kind,.i v6.n,.s v6.s,.i v7,.s v8,.s v9,.b false] 50))) m2 n2;have c14' :upd g14 i2 (some (.obj [.i v1,.s v2,.s v3,.s v4,.s v5,.i v6.kind,.i v6.n,.s v6.s,.i v7,.s v8,.s v9,.b false] 50)) i1=_:=(ag _ _ (Ne.symm n21)).trans c14;have d14' :upd g14 i2 (some (.obj [.i v1,.s v2,.s v3,.s v4,.s v5,.i v6.kind,.i v6.n,.s v6.s,.i v7,.s v8,.s v9,.b false] 50)) i2=_:=ah ..;clear b14 c14 d14;generalize upd g14 i2 (some (.obj [.i v1,.s v2,.s v3,.s v4,.s v5,.i v6.kind,.i v6.n,.s v6.s,.i v7,.s v8,.s v9,.b false] 50))=g15 at b14' c14' d14'⊢;have b15:=b14';have c15:=c14';have d15:=d14';clear b14' c14' d14';refine b15.step (HJ _ w9) fun g16 b16 k16=>?_
 have c16:=(k16 i1 n1).trans c15;have d16:=(k16 i2 n2).trans d15;clear b15 c15 d15 k16;have w10:=I2 w9;generalize qH s9=x10 at e w10 b16⊢;obtain⟨v10,s10⟩:=x10;simp only at e w10 b16⊢;simp only[go_sem];refine(Fv true _).pthen ?_;simp only[go_sem,d16,ah,aS,dM];generalize hgl:(v10.kind==1 && (v10.n==1 && v10.s== []))=gl;have egl:eqV v10 (dM true)=gl:=hgl;rw[egl]at e;clear egl hgl;have b16' :=b16.put (b:=(some (.obj [.i v1,.s v2,.s v3,.s v4,.s v5,.i v6.kind,.i v6.n,.s v6.s,.i v7,.s v8,.s v9,.b gl] 50))) m2 n2;have c16' :upd g16 i2 (some (.obj [.i v1,.s v2,.s v3,.s v4,.s v5,.i v6.kind,.i v6.n,.s v6.s,.i v7,.s v8,.s v9,.b gl] 50)) i1=_:=(ag _ _ (Ne.symm n21)).trans c16;have d16' :upd g16 i2 (some (.obj [.i v1,.s v2,.s v3,.s v4,.s v5,.i v6.kind,.i v6.n,.s v6.s,.i v7,.s v8,.s v9,.b gl] 50)) i2=_:=ah ..;clear b16 c16 d16;generalize upd g16 i2 (some (.obj [.i v1,.s v2,.s v3,.s v4,.s v5,.i v6.kind,.i v6.n,.s v6.s,.i v7,.s v8,.s v9,.b gl] 50))=g17 at b16' c16' d16'⊢;have b17:=b16';have c17:=c16';have d17:=d16';clear b16' c16' d16';refine b17.step (SU _) fun g18 b18 k18=>?_
 have c18:=(k18 i1 n1).trans c17;have d18:=(k18 i2 n2).trans d17;clear b17 c17 d17 k18;generalize ho:(⟨v1,v2,v3,v4,v5,v6,v7,v8,v9,gl⟩:OpD)=o at e;have hd:g18 i2=some (.obj (opC o) 50):=by rw[d18,←ho];rfl
 have h64:oC o:=by rw[←ho];exact⟨q1,q6.1,q6.2,q7⟩
 have hc:g18 i1=some (.obj (opC rB) 50):=c18;clear d18 c18 ho;have hnone:∀(g:Heap),RAt h id g s10→oX l=none→nP [opA rB,.b false] g fun r h' =>r=Ka l∧h' =h:=fun g hg en=>
  .mk _ (.refl _) (hg.base m0) ⟨by unfold Ka;rw[en];rfl,rfl⟩
 unfold opC rB aq at hc;unfold opC at hd;cases de:KS s10
 ·have en:oX l=none:=by grind [oX]
  simp only[go_sem,de,hc,ah];exact ahC
 simp only[go_sem,de,hd];refine(Cw o _).pthen ?_;cases df:cN o
 ·exact aks
 have hF:=mw df;simp only[go_sem,hd];refine(NW o h64 (f_l hF) _).pthen ?_;simp only[go_sem];rw[hb5];refine(yC (hY o) l _ _ _).pthen ?_;cases dp:decide (hY o=l)
 ·exact aks
 ·have en:oX l=some o:=by grind [oX]
  simp only[go_sem,hc,hd,ah];exact .mk _ (.refl _) ((b18.put m1 n1).base m0) ⟨by unfold Ka;rw[en];rfl,rfl⟩
theorem Rv(s q:BitVec 64):IntKind.u64.wrap (IntKind.u64.wrap (((BitVec.ofInt 64 (s.toNat:Int) ^^^ BitVec.ofInt 64 (q.toNat:Int)).toNat:Nat):Int)*1099511628211)=(((s ^^^ q)*1099511628211#64).toNat:Int):=by rw[BitVec.ofInt_natCast,BitVec.ofInt_natCast,BitVec.ofNat_toNat,BitVec.ofNat_toNat,BitVec.setWidth_eq,BitVec.setWidth_eq];generalize s ^^^ q=x;rw[Q3 _ x.isLt];have e:(x.toNat:Int)*1099511628211=((x.toNat*1099511628211:Nat):Int):=aeC;rw[e,R2,BitVec.toNat_mul,BitVec.toNat_ofNat]
theorem Sq(p:BitVec 64):p.toNat % 256=(p &&& 255#64).toNat:=by exact(Nat.and_two_pow_sub_one_eq_mod p.toNat 8).symm
theorem Du(prev:BitVec 64)(y:AV)(l:Txt)(h:Heap)(hb:By h y l)(hl:l.length≤1000000):
  ai prog 63 [.v (.int .u64 (prev.toNat:Int)),y] h fun r h' =>r= .v (.int .u64 ((kU prev l).toNat:Int))∧h' =h:=by
 refine aeB func63 31 [.tmp 4] fun hwf=>?_
 simp only[go_sem];refine .intro (fun k ρ g=>g=h∧∃(i:Nat) (p s:BitVec 64),i+k=8∧J3 k p s=J3 8 prev 14695981039346656037#64∧lk ρ 0=some (.v (.int .u64 (p.toNat:Int)))∧lk ρ 1=some y∧lk ρ 5=some (.v (.int .u64 (s.toNat:Int)))∧lk ρ 8=some (.i (i:Int))) 8 ?_ ?_
 ·refine⟨rfl,0,prev,14695981039346656037#64,rfl,rfl,?_,?_,?_,?_⟩<;>simp only[go_sem]
  rfl
 rintro k ρ g ⟨rfl,i,p,s,hk,hv,r0,r1,r5,r8⟩
 rcases k with _|k
 ·have d1:decide ((i:Int)<8)=false:=decide_eq_false aeC
  simp only[go_sem,r0,r1,r5,r8,d1,hb.len];refine .intro (fun k ρ g' =>g' =g∧∃(i:Nat) (s:BitVec 64),i+k=l.length∧(l.drop i).foldl (fun h c=>fnv h c.toNat) s=kU prev l∧lk ρ 5=some (.v (.int .u64 (s.toNat:Int)))∧lk ρ 18=some y∧lk ρ 19=some (.i (l.length:Int))∧lk ρ 20=some (.i (i:Int))) l.length ?_ ?_
  ·refine⟨rfl,0,s,aeC,by grind [J5,kU],?_,?_,?_,?_⟩<;>simp only[go_sem,r5,r1]
   all_goals rfl
  clear r0 r1 r5 r8 hv
  rintro k ρ g' ⟨rfl,i,s,hk,hv,r5,r18,r19,r20⟩
  rcases k with _|k
  ·have d1:decide ((i:Int)<(l.length:Int))=false:=decide_eq_false aeC
   simp only[go_sem,r5,r18,r19,r20,d1];rw[List.drop_eq_nil_of_le aeC]at hv;exact .same (.refl _) ⟨by rw[←hv];rfl,rfl⟩
  ·have hlt:i<l.length:=by omega
   have d1:decide ((i:Int)<(l.length:Int))=true:=decide_eq_true aeC;have w1:IntKind.i64.wrap ((i:Int)+1)=((i+1:Nat):Int):=aeN;rw[List.drop_eq_getElem_cons hlt]at hv;simp only[go_sem,r5,r18,r19,r20,d1];refine hb.idx i rfl hlt u5 u5a fun q hq=>?_
   generalize l[i]=c at hq hv;have hcl:=c.toNat_lt;have w2:IntKind.u64.wrap (c.toNat:Int)=((BitVec.ofNat 64 c.toNat).toNat:Int):=aeR;have hx:=hq (fun v=>v=aJ c)
   simp only[go_sem,r5,r18,r19,r20,hq _,aJ,w2,w1];refine⟨k,aeC,rfl,i+1,fnv s c.toNat,aeC,aeD,?_,?_,?_,?_⟩<;>simp only[go_sem,r18,r19,fnv]
   exact congrArg (fun z=>some (AV.v (Value.int IntKind.u64 z))) (Rv s _)
 ·have d1:decide ((i:Int)<8)=true:=decide_eq_true aeC
  have w1:IntKind.i64.wrap ((i:Int)+1)=((i+1:Nat):Int):=aeN;have e8:p.toNat / 256=(p>>>8).toNat:=ag0;have hp:=p.isLt;simp only[go_sem,r0,r1,r5,r8,d1,w1,show p.toNat<18446744073709551616 from hp,Sq,e8]
  refine⟨k,aeC,rfl,i+1,p>>>8,fnv s (p &&& 255#64).toNat,aeC,by grind [J4],?_,?_,?_,?_⟩<;>simp only[go_sem,r1,fnv,BitVec.ofNat_toNat,BitVec.setWidth_eq]
  exact congrArg (fun z=>some (AV.v (Value.int IntKind.u64 z))) (Rv s _)
def eN(s:an):List AV:=[.i s.tick,gw s.cases,kR s.reviews,lU s.notices,eJ s.roles]++gq s.policy++ [.i s.version]
def lI(jid:Nat)(e:cr)(yl:AV):Blk:=.obj ([.ptr jid 0]++eN e.s++ [yl,.v (.int .u64 (e.ch.toNat:Int))]) 86
theorem cm(s:an):∃a1 a2 a3 a4 a5 a6 a7,eN s= [.i s.tick,gw s.cases,kR s.reviews,lU s.notices,eJ s.roles,a1,a2,a3,a4,a5,a6,a7,.i s.version]:=by obtain⟨tick,cases,reviews,notices,roles,policy,version⟩:=s;obtain⟨id,set,alg,tgt,rules,kids,obls⟩:=policy;exact⟨_,_,_,_,_,_,_,rfl⟩
def BP(e:cr)(l:Txt):AV:=.tup [opA ((ji e l).getD rB),.v (.bool (ji e l).isSome)]
theorem Iu(hl:l.length≤1000000)(h:oX l=some o):oC o:=by
 unfold oX at h;split at h
 ·cases h
  have w0:WfR ⟨l,0,false⟩:=⟨Nat.zero_le _,hl⟩;have w1:WfR (gC ⟨l,0,false⟩).2:=mA w0;have w2:=gR (most:=16) w1 aeG;have w3:=gR (most:=16) w2 aeG;have w4:=gR (most:=16) w3 aeG;have w5:=gR (most:=16) w4 aeG;exact⟨uN w0,(CV w5).1,(CV w5).2,uN (I1 w5)⟩
 grind
theorem MD(l:Txt)(q:Perm)(e:cr)(yl:AV)(jid x:Nat)(h:Heap)(hl:l.length≤900000)(hx:h x=some (lI jid e yl)):ai prog 56 [.ptr x 0,.sl (l.map aJ) q] h fun r h' =>r=BP e l∧h' =h:=by
 obtain⟨a1,a2,a3,a4,a5,a6,a7,es⟩:=cm e.s;have g:=hx;unfold lI at g;rw[es]at g;simp only[List.cons_append,List.nil_append]at g;refine aeB func56 33 [.cell 4 50,.tmp 5] fun hwf=>?_
 simp only[go_sem];intro i1 h1;have n1:i1≠x:=fun e=>aeD
 by_cases hs:l.length<8
 ·have d1:decide ((l.length:Int)<8)=true:=decide_eq_true aeC
  have er:ji e l=none:=by simp_all [ji,if_pos]
  simp only[go_sem,aes,d1,ah];exact .mk _ (.refl _) ((Sub.refl h).new h1 _) ⟨ahV,rfl⟩
 have d1:decide ((l.length:Int)<8)=false:=decide_eq_false aeC;simp only[go_sem,aes,d1];refine⟨aeC,aeC,?_⟩;refine(MO (l.drop 8) _ aeD _).pthen ?_;have er0:ji e l=(match oX (l.drop 8)with|some o=>if dF e.ch o=l then some o else none|none=>none):=by unfold ji;grind
 cases hg:oX (l.drop 8)with
 |none=>
  have er:ji e l=none:=aeD;simp only[go_sem,Ka,hg,opA,opC,rB,aq,Option.getD,Option.isSome];intro i2 h2;have n2:=aB h2;have n21:=aI h2;simp only[go_sem,ak,n21,n21.symm,n1,n1.symm];generalize hH:upd (upd h i1 _) i2 _=H;have k1:H i1=some (.obj (opC rB) 50):=afT;have k2:H i2=some (.obj (opC rB) 50):=ag1;have kx:H x=some (lI jid e yl):=by
   rw[←hH,ag _ _ (fun e2=>aeD),ag _ _ (Ne.symm n1)];omega
  have hsub:Ab.Sub h H:=afg;clear hH g;unfold lI at kx;rw[es]at kx;simp only[List.cons_append,List.nil_append]at kx;unfold opC rB aq at k1;refine .quiet aeF ?_;simp only[go_sem];simp only[go_sem,k1,ah];exact akc
 |some o=>
  obtain⟨hf,hp⟩:=get_some hg;have h64:=Iu aeD hg;have er1:ji e l=if dF e.ch o=l then some o else none:=aeD
  simp only[go_sem,Ka,hg,opA,opC,Option.getD,Option.isSome];intro i2 h2;have n2:=aB h2;have n21:=aI h2;simp only[go_sem,ak,n21,n21.symm,n1,n1.symm];generalize hH:upd (upd h i1 _) i2 _=H;have k1:H i1=some (.obj (opC rB) 50):=afT;have k2:H i2=some (.obj (opC o) 50):=ag1;have kx:H x=some (lI jid e yl):=by
   rw[←hH,ag _ _ (fun e2=>aeD),ag _ _ (Ne.symm n1)];omega
  have hsub:Ab.Sub h H:=afg;clear hH g;unfold lI at kx;rw[es]at kx;simp only[List.cons_append,List.nil_append]at kx;unfold opC rB aq at k1;unfold opC at k2;refine .quiet aeF ?_;simp only[go_sem,kx,k2];refine⟨_,CY e.ch o h64 (f_l (mw hf)) aeD _,?_⟩;simp only[go_sem];refine⟨_,yC (dF e.ch o) l _ _ _,?_⟩;cases dp:decide (dF e.ch o=l)
  ·have er:ji e l=none:=by grind
   simp only[go_sem,k1,ah];exact akc
  ·have er:ji e l=some o:=by grind
   simp only[go_sem,k1,k2,ah];exact akc
end Go.Proofs.YtelkmnkejghkeaaGreatDoor
namespace Go.Bf
open Go Go.Ab Go.Proofs.YtelkmnkejghkeaaGreatDoor
def opL(k:Int)(subj reason:Txt)(g:Bool)(s:Txt):OpD×Bool:=
 if k=1 then(⟨k,subj,s,[],[],aq,0,[],reason,g⟩,true)
 else if k=2∨k=6 then(⟨k,subj,(di s).1,(di s).2,[],aq,0,[],reason,g⟩,true)
 else if k=3 then(⟨k,subj,(di s).1,(di (di s).2).1,[],(fY (di (di s).2).2).1,0,[],reason,g⟩,(fY (di (di s).2).2).2)
 else if k=4 then(⟨k,subj,(di s).1,[],(di s).2,aq,0,[],reason,g⟩,true)
 else if k=5∨k=8 then(⟨k,subj,[],[],[],aq,CL s,[],reason,g⟩,true)
 else if k=7 then(⟨k,subj,[],[],[],aq,0,s,reason,g⟩,true)
 else(⟨k,subj,[],[],[],aq,0,[],reason,g⟩,true)
def oI(s:Txt):Bool×Txt×Txt:=if s.take 1== [33]then(true,(di (s.drop 1)).1,(di (s.drop 1)).2)else(false,[],s)
def KT(s:Txt):OpD×Bool:=
 let g:=oI (di s).2
 opL (uq (di g.2.2).1) (di s).1 g.2.1 g.1 (di g.2.2).2
def fP(s:Txt):Option OpD:=if(KT s).2 && cN (KT s).1 then some (KT s).1 else none
theorem lg(s:Txt):(di s).1.length≤s.length∧(di s).2.length≤s.length:=by grind [List.takeWhile_prefix,List.dropWhile_suffix,di,List.length_drop]
theorem xd(w:Txt):∀f k:Nat,0≤xb f k w∧xb f k w≤(f:Int)+k - 1∨xb f k w=0
 |0,k=> .inr rfl
 |f+1,k=>by
  unfold xb;have:=xd w f (k+1);split<;>omega
theorem wZ(w:Txt):0≤uq w∧uq w≤8:=by have:=xd w 8 1;unfold uq;omega
end Go.Bf
namespace Go.Proofs.YtelkmnkejghkeaaGreatDoor
open Go Go.Ab Go.Bf Tryz
theorem jZ.join{P:Program}{U:TypeId→TI}{n:Nat}{a b:Code}{K:Exit→Env→Heap→Prop}{ρ:Env}{h:Heap}{y:AV}(I:Env→Heap→Prop)(hK:∀ρ' H',I ρ' H'→K .normal ρ' H')(hc:∀K' :Exit→Env→Heap→Prop,(∀ρ' H',I ρ' H'→K' .normal ρ' H')→jZ P U n a b ρ h K' y):jZ P U n a b ρ h K y:=hc K hK
def Bt(s:Txt):AV:=.tup [opA ((fP s).getD rB),.v (.bool (fP s).isSome)]
def FF:List AV:=[.i 0,.s [],.s [],.s [],.s [],.i 0,.i 0,.s [],.i 0,.s [],.s [],.b false]
theorem zp(s:Txt)(hs:s.length≤900000)(h:Heap)(he:iB h):ai prog 13 [.s s] h fun r h' =>r=Bt s∧h' =h:=by
 obtain⟨l1,l2⟩:=lg s;obtain⟨⟨subj,s1⟩,e0⟩:∃x,di s=x:=⟨_,rfl⟩;rw[e0]at l1 l2;simp only at l1 l2;refine aeB func13 95 [.cell 2 50,.tmp 3] fun hwf=>?_
 simp only[go_sem];intro i2 h2;simp only[go_sem];intro i4 h4;have n42:=aI h4;have k4:=aB h4;simp only[go_sem];refine(l8 s aeC _).pthen ?_;rw[e0];simp only[go_sem,ah,ew];refine(Tx s1 _).pthen ?_;simp only[go_sem];obtain⟨⟨g,rs,s2⟩,eg⟩:∃x,oI s1=x:=⟨_,rfl⟩;have hraw:KT s=opL (uq (di s2).1) subj rs g (di s2).2:=by simp only[KT,e0,eg]
 have l3:s2.length≤900000:=by
  have h3:=lg (s1.drop 1);rw[List.length_drop]at h3;unfold oI at eg;split at eg<;>(injection eg with _ eg;injection eg with _ eg;subst eg;omega)
 refine jZ.join (fun ρ H=>lk ρ 0=some (.s s2)∧lk ρ 2=some (.ptr i2 0)∧lk ρ 4=some (.ptr i4 0)∧lk ρ 6=some (.b true)∧H i4=some (.obj [.i 0,.s subj,.s [],.s [],.s [],.i 0,.i 0,.s [],.i 0,.s [],.s rs,.b g] 50)∧H i2=some (.obj FF 50)∧Ab.Sub h H) ?_ fun K1 hK1=>?_
 rotate_left
 ·cases eh:(s1.take 1== [33])
  ·have eg2:oI s1=(false,[],s1):=by unfold oI;rw[if_neg (by simp[eh])]
   rw[eg2]at eg;injection eg with eg1 eg
   injection eg with eg3 eg
   subst eg1 eg3 eg;simp only[go_sem,eh];exact aj4
  ·have eg2:oI s1=(true,(di (s1.drop 1)).1,(di (s1.drop 1)).2):=by unfold oI;rw[if_pos eh]
   rw[eg2]at eg;injection eg with eg1 eg
   injection eg with eg3 eg
   have hne:1≤s1.length:=by
    rcases s1 with _|⟨c,r⟩
    ·cases eh
    ·simp
   simp only[go_sem,eh,ah,ew];refine⟨aeC,aeC,aeC,?_⟩;rw[show nM s1 1 (s1.length:Int) (some (Operand.const (Value.int .i64 1))).isSome none.isSome=s1.drop 1 from by simp[nM]]
   refine(l8 (s1.drop 1) aga _).pthen ?_;simp only[go_sem,ah,ew];subst eg1 eg3 eg;exact aj4
 rintro ρ H ⟨r0,r2,r4,r6,f4,f2,hsH⟩
 simp only[go_sem,r0];refine(l8 s2 aeC _).pthen ?_;obtain⟨⟨w,s3⟩,e3⟩:∃x,di s2=x:=⟨_,rfl⟩;rw[e3]at hraw;simp only at hraw;rw[e3];simp only[go_sem];refine(PW w _).pthen ?_;obtain⟨k,ek⟩:∃x,uq w=x:=⟨_,rfl⟩;rw[ek]at hraw;simp only[go_sem,ek,r4,f4];have hk:=ek▸wZ w;obtain⟨o,ok,eo⟩:∃o ok,opL k subj rs g s3=(o,ok):=⟨_,_,rfl⟩;rw[eo]at hraw;have n24:i2≠i4:=n42.symm;have hf2:∀c,Ab.Sub h (upd H i4 c):=fun c=>hsH.put k4 c
 have l4:=lg s2;rw[e3]at l4;have l5:=lg s3;have l6:=lg (di s3).2;simp only at l4;refine jZ.join (fun ρ H=>lk ρ 2=some (.ptr i2 0)∧lk ρ 4=some (.ptr i4 0)∧lk ρ 6=some (.b ok)∧H i4=some (.obj [.i o.kind,.s o.subj,.s o.case,.s o.field,.s o.to,.i o.val.kind,.i o.val.n,.s o.val.s,.i o.review,.s o.text,.s o.reason,.b o.glass] 50)∧H i2=some (.obj FF 50)∧Ab.Sub h H) ?_ fun K2 hK2=>?_
 rotate_left
 ·have hc:k=0∨k=1∨k=2∨k=3∨k=4∨k=5∨k=6∨k=7∨k=8:=by omega
  rcases hc with rfl|rfl|rfl|rfl|rfl|rfl|rfl|rfl|rfl
  ·exact ajf
  ·exact ajf
  ·exact ai0
  ·simp[opL]at eo
   obtain⟨eo,rfl⟩:=eo;subst eo;simp only[go_sem,r0,r4];refine(l8 s3 aeC _).pthen ?_;simp only[go_sem,r0,r4,ah,ew];refine(l8 (di s3).2 aeC _).pthen ?_;simp only[go_sem,r0,r4,ah,ew];refine(GQ (di (di s3).2).2 _ (he.sub (hf2 _))).pthen ?_;simp only[go_sem,aS,r0,r4,ah,ew];exact hK2 _ _ ⟨ae4,afb,ae5,by rw[ah],afH,hf2 _⟩
  ·exact ai0
  ·simp[opL]at eo
   obtain⟨eo,rfl⟩:=eo;subst eo;simp only[go_sem,r0,r4];refine(zC s3 aeC _).pthen ?_;exact ai4
  ·exact ai0
  ·exact ajf
  ·simp[opL]at eo
   obtain⟨eo,rfl⟩:=eo;subst eo;simp only[go_sem,r0,r4];refine(zC s3 aeC _).pthen ?_;exact ai4
 rintro ρ3 H3 ⟨q2,q4,q6,g4,g2,hsH3⟩
 have bad:fP s=none→Bt s= .tup [opA rB,.b false]:=fun e=>by
  unfold Bt;rw[e];rfl
 cases ok
 ·simp only[go_sem,q2,q4,q6,g4,g2,FF]
  exact .mk _ (.refl _) (hsH3.put h2 _) ⟨(bad (by unfold fP;rw[hraw];rfl)).symm,rfl⟩
 simp only[go_sem,q2,q4,q6,g4];have hfo:=Cw o H3;rw[opA]at hfo;refine hfo.pthen ?_;cases ef:cN o
 ·simp only[go_sem,q2,q4,q6,g4,g2,FF]
  exact .mk _ (.refl _) (hsH3.put h2 _) ⟨(bad (by unfold fP;rw[hraw];simp[ef])).symm,rfl⟩
 ·simp only[go_sem,q2,q4,q6,g4,g2,FF]
  exact .mk _ (.refl _) (hsH3.put h2 _) ⟨by unfold Bt fP;rw[hraw];simp only[ef,Bool.and_self,if_true];rfl,rfl⟩
end Go.Proofs.YtelkmnkejghkeaaGreatDoor
namespace Go.Bf
open Go Go.Ab Go.Proofs.YtelkmnkejghkeaaGreatDoor
def Bz(m:aT):Txt:=
 if m=naM then [78,111,116,65,112,112,108,105,99,97,98,108,101]else if m=aY then [80,101,114,109,105,116]else if m=cF then [68,101,110,121]
 else if m=wV then [73,110,100,101,116,101,114,109,105,110,97,116,101,123,80,125]else if m=wU then [73,110,100,101,116,101,114,109,105,110,97,116,101,123,68,125]
 else if m=nC then [73,110,100,101,116,101,114,109,105,110,97,116,101,123,68,80,125]else []
def gH(r:jk):Txt:=
 if r.err=12∧r.mark≠aY then [100,101,110,105,101,100,32]++Bz r.mark
 else if r.err≠0∧0<r.at_ then [101,114,114,111,114,32]++Lib.itoa r.err++ [32,97,116,32]++Lib.itoa r.at_
 else if r.err≠0 then [101,114,114,111,114,32]++Lib.itoa r.err
 else if r.glass then [103,108,97,115,115]else if r.hidden then [104,105,100,100,101,110]
 else if r.val.kind=0∧r.val.n=0∧r.val.s= []then [111,107]else [111,107,32]++Al r.val
theorem KE(m:aT):(Bz m).length≤20:=by
 unfold Bz
 repeat' split
 all_goals decide
theorem QY(v:bu)(h:inV v):(Al v).length≤194:=by
 unfold Al;split
 ·rename_i hv
  exact QZ hv h.1 h.2
 simp
end Go.Bf
namespace Go.Proofs.YtelkmnkejghkeaaGreatDoor
open Go Go.Ab Go.Bf Tryz
variable {h h':Heap}{y:AV}{ds:List oA}{sp S spl spj:List Nat}{d:D}{k n:Nat}{P:Program}{l:List Txt}{ρ:Env}{e e1:cr}{p:Txt}
theorem Nq(m:aT)(hmm:M9 m)(h:Heap):ai prog 68 [aN m] h fun r h' =>r= .s (Bz m)∧h' =h:=by
 obtain⟨n1,n2,n3,n4,n5,n6⟩:=nb hmm;refine aeB func68 16 [.tmp 2] fun hwf=>?_
 unfold Bz;cases d1:(m==naM)
 case true=>simp only[go_sem,aN,n1,d1];exact .same (.refl _) ⟨by rw[if_pos aeD];rfl,rfl⟩
 cases d2:(m==aY)
 case true=>simp only[go_sem,aN,n1,n2,d1,d2];exact .same (.refl _) ⟨by rw[if_neg aeD,if_pos aeD];rfl,rfl⟩
 cases d3:(m==cF)
 case true=>simp only[go_sem,aN,n1,n2,n3,d1,d2,d3];exact .same (.refl _) ⟨by rw[if_neg aeD,if_neg aeD,if_pos aeD];rfl,rfl⟩
 cases d4:(m==wV)
 case true=>simp only[go_sem,aN,n1,n2,n3,n4,d1,d2,d3,d4];exact .same (.refl _) ⟨by rw[if_neg aeD,if_neg aeD,if_neg aeD,if_pos aeD];rfl,rfl⟩
 cases d5:(m==wU)
 case true=>simp only[go_sem,aN,n1,n2,n3,n4,n5,d1,d2,d3,d4,d5];exact .same (.refl _) ⟨by rw[if_neg aeD,if_neg aeD,if_neg aeD,if_neg aeD,if_pos aeD];rfl,rfl⟩
 cases d6:(m==nC)
 case true=>simp only[go_sem,aN,n1,n2,n3,n4,n5,n6,d1,d2,d3,d4,d5,d6];exact .same (.refl _) ⟨by rw[if_neg aeD,if_neg aeD,if_neg aeD,if_neg aeD,if_neg aeD,if_pos aeD];rfl,rfl⟩
 simp only[go_sem,aN,n1,n2,n3,n4,n5,n6,d1,d2,d3,d4,d5,d6];exact .same (.refl _) ⟨by rw[if_neg aeD,if_neg aeD,if_neg aeD,if_neg aeD,if_neg aeD,if_neg aeD];rfl,rfl⟩
structure FK (r:jk):Prop where
 mark:M9 r.mark
 err: -9223372036854775808≤r.err∧r.err≤9223372036854775807
 at_: -9223372036854775808≤r.at_∧r.at_≤9223372036854775807
 val:inV r.val
theorem Jr(r:jk)(hr:FK r)(h:Heap)(ht:xF h):ai prog 32 [.agg (mB r)] h fun y h' =>y= .s (gH r)∧h' =h:=by
 have np:=(nb hr.mark).npe;have hl:lim=9223372036854775808:=rfl;have hi1:=Lib.itoa_length_le r.err hr.err.1 hr.err.2;have hi2:=Lib.itoa_length_le r.at_ hr.at_.1 hr.at_.2;have hnl:=KE r.mark;refine aeB func32 57 [.tmp 2] fun hwf=>?_
 simp only[go_sem,mB];intro id hid;have ht2:∀b,xF (upd h id b):=fun b=>ht.sub (.aj hid)
 cases d1:(r.err==12)
 case true=>
  have e1:r.err=12:=aeD;cases d2:(r.mark==aY)
  case false=>
   simp only[go_sem,aN,np,d1,d2];refine(Nq r.mark hr.mark _).pthen ?_;have c1:0+7+(Bz r.mark).length<lim:=aeC;simp only[go_sem,c1];exact .mk _ (.refl _) (.aj hid) ⟨by unfold gH;rw[if_pos ⟨e1,aeD⟩];rfl,rfl⟩
  case true=>
   have d3:(r.err !=0)=true:=aeD;cases d4:decide (r.at_>0)
   ·simp only[go_sem,aN,np,d1,d2,d3,d4]
    exact ajB
   ·simp only[go_sem,aN,np,d1,d2,d3,d4]
    exact ai6
 have e1:r.err≠12:=aeD;cases d3:(r.err !=0)
 case true=>
  cases d4:decide (r.at_>0)
  ·simp only[go_sem,d1,d3,d4]
   exact ajB
  ·simp only[go_sem,d1,d3,d4]
   exact ai6
 have e0:r.err=0:=aeD;cases d5:r.glass
 case true=>
  simp only[go_sem,d1,d3,d5];exact .mk _ (.refl _) (.aj hid) ⟨by unfold gH;rw[if_neg aeD,if_neg aeD,if_neg aeD,if_pos d5];rfl,rfl⟩
 cases d6:r.hidden
 case true=>
  simp only[go_sem,d1,d3,d5,d6];exact .mk _ (.refl _) (.aj hid) ⟨by unfold gH;rw[if_neg aeD,if_neg aeD,if_neg aeD,if_neg aeD,if_pos d6];rfl,rfl⟩
 cases d7:(r.val.kind==0 && (r.val.n==0 && r.val.s== []))
 case true=>
  simp only[go_sem,d1,d3,d5,d6,d7];exact .mk _ (.refl _) (.aj hid) ⟨by unfold gH;rw[if_neg aeD,if_neg aeD,if_neg aeD,if_neg aeD,if_neg aeD,if_pos aeD];rfl,rfl⟩
 simp only[go_sem,d1,d3,d5,d6,d7];have hv:=fun H hH=>OJ KR r.val hr.val H hH
 simp only[aS]at hv;refine(hv _ (ht2 _)).pthen ?_;have c1:0+3+(Al r.val).length<lim:=by
  have:=QY r.val hr.val;omega
 simp only[go_sem,c1];exact .mk _ (.refl _) (.aj hid) ⟨by unfold gH;rw[if_neg aeD,if_neg aeD,if_neg aeD,if_neg aeD,if_neg aeD,if_neg aeD];rfl,rfl⟩
def ldA(d:oA):AV:=.agg (sS d)
def jO(h:Heap)(y:AV)(ds:List oA)(sp:List Nat):Prop:=(y= .sl [] .full∧ds= []∧sp= [])∨∃k,y= .sl (ds.map ldA) (.own k)∧h k=some (.spare ds.length 16)∧sp= [k]
theorem uD:(U 59).sz=16:=aeR
theorem jO.row(hg:jO h y ds sp):∃q,y= .sl (ds.map ldA) q:=by rcases hg with⟨rfl,rfl,_⟩|⟨k,rfl,_⟩<;>exact⟨_,rfl⟩
theorem jO.touch(hg:jO h y ds sp)(ht:Touch S h h')(hn:∀i∈sp,i∉S):jO h' y ds sp:=by
 rcases hg with⟨rfl,rfl,rfl⟩|⟨k,rfl,k1,rfl⟩
 ·exact .inl ⟨rfl,rfl,rfl⟩
 ·exact .inr ⟨k,rfl,ht _ _ (hn k aeJ) k1,rfl⟩
theorem jO.has(hg:jO h y ds sp):∀i∈sp,∃n,h i=some (.spare n 16):=by
 rcases hg with⟨rfl,rfl,rfl⟩|⟨k,rfl,k1,rfl⟩
 ·simp
 grind
theorem zk(ds:List oA):Sized 16 (ds.map ldA):=fun z hz=>by
 obtain⟨d,_,rfl⟩:=List.mem_map.1 hz;rfl
theorem uDb:∃n,(U 59).bytes=n∧n≠0∧n≤1000:=⟨_,rfl,aeG,aeG⟩
theorem jO.app{d:oA}{q:Perm}{Q:AV→Heap→Prop}(hg:jO h y ds sp)(hl:ds.length≤1000000)
  (hk:∀y' h' sp',jO h' y' (ds++ [d]) sp'→Touch sp h h'→(∀i∈sp',i∈sp∨h i=none)→Q y' h'):apK U h y (.sl [ldA d] q) Q (.slice 59):=by
 obtain⟨n,hb,hb0,hb1⟩:=uDb;have hm:(ds.length+1)*n≤140737488355328:=by
  have:=Nat.mul_le_mul (show ds.length+1≤1000001 by omega) hb1
  omega
 have s2:Sized 16 [ldA d]:=zk [d];rcases hg with⟨rfl,rfl,rfl⟩|⟨k,rfl,k1,rfl⟩
 ·refine(qM ..).mpr ⟨aeG,aeC,?_⟩
  refine⟨by simp[Sized],by grind [uD],aeD,And.intro (fun hn=>by cases hn) (fun hn=>mX.own fun id hid=>?_)⟩
  rw[uD];exact hk _ _ [id] (.inr ⟨id,rfl,aiF,rfl⟩) (.of ((Ab.Sub.refl h).new hid _)) aeD
 ·refine(Ck ..).mpr ⟨aeG,aeC,?_⟩
  refine⟨by grind [uD,zk],by grind [uD],aeD,by grind [uD],?_⟩
  rw[uD];exact hk _ _ [k] (.inr ⟨k,aeJ,aiF,rfl⟩) .upd aeJ
theorem Iv(e:cr)(s:an)(d:oA)(p:Txt)(q:Perm)(jid x:Nat)(yl:AV)(sp:List Nat)(h:Heap)(hx:h x=some (lI jid e yl))(hg:jO h yl e.log sp)(hl:e.log.length≤1000000)(hp:p.length≤1000000):
  ai prog 57 [.ptr x 0,cG s,.agg (sS d),.sl (p.map aJ) q] h fun r h' =>r= .tup []∧∃yl' sp',h' x=some (lI jid {e with s:=s,log:=e.log++ [d],ch:=kU e.ch p} yl')∧jO h' yl' (e.log++ [d]) sp'∧Touch (x::sp) h h'∧(∀i∈sp',i∈sp∨h i=none):=by
 obtain⟨a1,a2,a3,a4,a5,a6,a7,es⟩:=cm e.s;obtain⟨b1,b2,b3,b4,b5,b6,b7,es2⟩:=cm s;have g:=hx;unfold lI at g;rw[es]at g;simp only[List.cons_append,List.nil_append]at g;rw[show cG s= .agg (eN s)from rfl,es2]
 refine ai.of_wp hU func57 rfl aeR 31 rfl [] rfl (aer rfl) ?_;refine .one hU hm ?_;simp only[go_sem];intro i1 h1;simp only[go_sem,sS,opC];intro i2 h2;have n2:=aB h2;have n21:=aI h2;have x1:i1≠x:=fun e=>ahs
 have x2:i2≠x:=fun e=>aht
 generalize hH:upd (upd h i1 _) i2 _=H;have k1:H i1=some (.obj [.i s.tick,gw s.cases,kR s.reviews,lU s.notices,eJ s.roles,b1,b2,b3,b4,b5,b6,b7,.i s.version] 41):=by rw[←hH,ag _ _ (Ne.symm n21),ah]
 have k2:H i2=some (.obj [.i d.op.kind,.s d.op.subj,.s d.op.case,.s d.op.field,.s d.op.to,.i d.op.val.kind,.i d.op.val.n,.s d.op.val.s,.i d.op.review,.s d.op.text,.s d.op.reason,.b d.op.glass,.i d.version,aN d.mark,.b d.glass,ay d.obls] 59):=by rw[←hH,ah]
 have kx:H x=_:=(by rw[←hH,ag _ _ (Ne.symm x2),ag _ _ (Ne.symm x1)]:H x=h x).trans g
 have hsub:Ab.Sub h H:=afg;clear hH g;simp only[go_sem];refine .one hU hm ?_;simp only[go_sem,kx,k1];generalize hK:upd H x _=K;have kx2:K x=some (.obj [.ptr jid 0,.i s.tick,gw s.cases,kR s.reviews,lU s.notices,eJ s.roles,b1,b2,b3,b4,b5,b6,b7,.i s.version,yl,.v (.int .u64 (e.ch.toNat:Int))] 86):=by rw[←hK,ah]
 have k22:K i2=_:=(by rw[←hK,ag _ _ x2]:K i2=H i2).trans k2
 have hT:Touch [x] H K:=by rw[←hK];exact .upd
 clear hK
 show WP _ _ _ _ _ _
 refine .one hU hm ?_;simp only[go_sem];refine .last (hm2 x (.obj [.ptr jid 0,.i s.tick,gw s.cases,kR s.reviews,lU s.notices,eJ s.roles,b1,b2,b3,b4,b5,b6,b7,.i s.version,yl,.v (.int .u64 (e.ch.toNat:Int))] 86) i2 (.obj [.i d.op.kind,.s d.op.subj,.s d.op.case,.s d.op.field,.s d.op.to,.i d.op.val.kind,.i d.op.val.n,.s d.op.val.s,.i d.op.review,.s d.op.text,.s d.op.reason,.b d.op.glass,.i d.version,aN d.mark,.b d.glass,ay d.obls] 59)) [0,1,2,3,4,5,6,7,8,9] (.hm2 kx2 k22) aeF rfl aeF rfl ?_;simp only[go_sem,kx2,k22,rZ _ _ (Ne.symm x2),sd];have hno:∀i∈sp,i≠x∧i≠i1∧i≠i2:=fun i hi=>by
  obtain⟨n,hn⟩:=hg.has i hi;exact⟨fun e=>(by rw[e,hx]at hn;cases hn),fun e=>aeD,fun e=>aeD⟩
 have hgK:jO K yl e.log sp:=(hg.touch (S:=[]) (.of hsub) aeJ).touch hT aeD;refine hgK.app hl fun z G sp' hg4 ht4 hsp' =>?_
 have kx3:=ht4 _ _ aeD kx2;have k23:=ht4 _ _ aeD k22;have xG:∀i∈sp',i≠x:=fun i hi e2=>by
  obtain⟨n,hn⟩:=hg4.has i hi;rw[e2,kx3]at hn;cases hn
 refine⟨.hm2 kx3 k23,?_⟩;have hrow:=hg4.row;obtain⟨qz,ez⟩:=hrow;subst ez;simp only[go_sem,kx3];refine .vc hU hm ?_;simp only[go_sem,ah];refine(Du e.ch _ p _ (.sl _ _) hp).pthen ?_;simp only[go_sem,ah,ew];have hF:Touch [x] G (upd G x (some (.obj [.ptr jid 0,.i s.tick,gw s.cases,kR s.reviews,lU s.notices,eJ s.roles,b1,b2,b3,b4,b5,b6,b7,.i s.version,(.sl ((e.log++ [d]).map ldA) qz),.v (.int .u64 ((kU e.ch p).toNat:Int))] 86))):=.upd;refine .same (.refl _) ⟨rfl,_,sp',?_,hg4.touch hF aeD,?_,fun i hi=>?_⟩
 ·simp_all [lI,ah]
 ·exact((((Touch.of (S:=[]) hsub).trans hT).trans ht4).trans hF).mono aeD
 ·rcases hsp' i hi with h3|h3
  ·grind
  ·right
   have:K i=none:=h3;cases hh:h i with
   |none=>rfl
   |some b=>
    have hxi:i≠x:=xG i hi;have:=hT _ _ aeD (hsub _ _ hh);rw[h3]at this;cases this
def jr(h:Heap)(x jid did:Nat)(e:cr)(spl spj:List Nat):Prop:=
 ∃yl,h x=some (lI jid e yl)∧jO h yl e.log spl∧JAt h 207 jid did e.ps e.down spj
theorem Mk(x jid did:Nat)(e:cr)(spl spj:List Nat)(h:Heap)(he:jr h x jid did e spl spj):ai prog 27 [.ptr x 0] h fun r h' =>r= .v (.int .u64 (e.ch.toNat:Int))∧h' =h:=by
 obtain⟨yl,hx,hg,hj⟩:=he;obtain⟨a1,a2,a3,a4,a5,a6,a7,es⟩:=cm e.s;have g:=hx;unfold lI at g;rw[es]at g;refine aeB func27 7 [.tmp 2] fun hwf=>?_
 simp only[go_sem,g];exact aeL
theorem wJ(x jid did:Nat)(e:cr)(spl spj:List Nat)(h:Heap)(he:jr h x jid did e spl spj)(hl:e.ps.length≤1000000)(hp:∀p∈e.ps,p.length≤1000000):ai prog 21 [.ptr x 0] h fun r h' =>∃q,r= .sl (e.ps.map dZ) q∧Ab.Sub h h' :=by
 obtain⟨yl,hx,hg,hj⟩:=he;have g:=hx;unfold lI at g;refine aeB func21 8 [.tmp 2] fun hwf=>?_
 simp only[go_sem,g];refine(zT jid did e.ps e.down spj h hj hl hp).mono fun r h' ⟨q,e1,hs⟩=>?_
 subst e1;simp only[go_sem];exact .same (.refl _) ⟨q,rfl,hs⟩
theorem Pt(x jid did:Nat)(e:cr)(spl spj:List Nat)(o:OpD)(h:Heap)(he:jr h x jid did e spl spj)(hd:e.down=true):ai prog 33 [.ptr x 0,opA o] h fun r h' =>r= .agg (mB (DM 9))∧h' =h:=by
 obtain⟨yl,hx,hg,hj⟩:=he;have g:=hx;unfold lI at g;refine aeB func33 53 [.cell 4 57] fun hwf=>?_
 simp only[go_sem,opA,opC];intro i1 h1;have x1:i1≠x:=fun e=>aeD
 simp only[go_sem];intro i2 h2;have n2:=aB h2;have x2:i2≠x:=fun e=>aeD
 generalize hH:upd (upd h i1 _) i2 _=H;have kx:H x=_:=(by rw[←hH,ag _ _ (Ne.symm x2),ag _ _ (Ne.symm x1)]:H x=h x).trans g
 have k2:H i2=some (.obj ov 57):=ag1;have hsub:Ab.Sub h H:=afg;unfold ov at k2;simp only[go_sem,kx];refine(xR jid did e.ps e.down spj H (hj.sub hsub)).pthen ?_;rw[hd];simp only[go_sem,k2,ah];refine .mk _ (.refl _) (hsub.put n2 _) ⟨?_,rfl⟩;rfl
theorem nw(s:an)(r:jk)(d:oA)(e:Int):j7 (s,r,d,e)= .tup [cG s,.agg [.i r.err,.v (.complex .f64 (hbit r.mark.1) (hbit r.mark.2)),.b r.glass,.i r.val.kind,.i r.val.n,.s r.val.s,.b r.hidden,.i r.at_],.agg [.i d.op.kind,.s d.op.subj,.s d.op.case,.s d.op.field,.s d.op.to,.i d.op.val.kind,.i d.op.val.n,.s d.op.val.s,.i d.op.review,.s d.op.text,.s d.op.reason,.b d.op.glass,.i d.version,.v (.complex .f64 (hbit d.mark.1) (hbit d.mark.2)),.b d.glass,.sl (d.obls.map bl) .no],.i e]:=rfl
theorem SF(x jid did:Nat)(e:cr)(spl spj:List Nat)(o:OpD)(h:Heap)(he:jr h x jid did e spl spj)(hd:e.down=false)(hG:gG k e.s)(hk:k≤1000)(h64:oC o)(her:iB h)(hne:(aE e.s o).2.2.2≠0):ai prog 33 [.ptr x 0,opA o] h fun r h' =>r= .agg (mB (aE e.s o).2.1)∧h' =h:=by
 have hgd:=fun(G:Heap) (hG' :Ab.Sub h G)=>nu e.s hG hk o h64 G (her.sub hG')
 have he0:=he;obtain⟨yl,hx,hg,hj⟩:=he;obtain⟨a1,a2,a3,a4,a5,a6,a7,es⟩:=cm e.s;have g:=hx;unfold lI at g;rw[es]at g;simp only[List.cons_append,List.nil_append]at g;refine aeB func33 53 [.cell 4 57] fun hwf=>?_
 simp only[go_sem,opA,opC];intro i1 h1;have x1:i1≠x:=fun e=>ahs
 simp only[go_sem];intro i2 h2;have n2:=aB h2;have x2:i2≠x:=fun e=>aht
 have n21:=aI h2;generalize hH:upd (upd h i1 _) i2 _=H;have kx:H x=_:=(by rw[←hH,ag _ _ (Ne.symm x2),ag _ _ (Ne.symm x1)]:H x=h x).trans g
 have k2:H i2=some (.obj ov 57):=ag1;have k1:H i1=some (.obj (opC o) 50):=afT;have hsub:Ab.Sub h H:=afg;clear hH g;unfold ov at k2;simp only[go_sem,kx];refine(xR jid did e.ps e.down spj H (hj.sub hsub)).pthen ?_;rw[hd];generalize aE e.s o=gd at hgd hne⊢;obtain⟨S,R,D,E⟩:=gd;simp only at hne⊢;obtain⟨b1,b2,b3,b4,b5,b6,b7,es2⟩:=cm S;rw[nw,show cG e.s= .agg (eN e.s)from rfl,es,show cG S= .agg (eN S)from rfl,es2]at hgd
 simp only[opA,opC]at hgd;unfold opC at k1;simp only[go_sem];refine .tree _ (.quiet [0,1,2,3,4] 5 (.news [6,7,8,9,10] [11,12,13] (.seq [14,15,16,17]))) (.refl _) aeF rfl ?_;simp only[go_sem,kx,k1];refine⟨_,fun G hs=>hgd G (hsub.trans hs),?_⟩
 simp only[go_sem];refine⟨.refl _,aeJ,?_⟩;intro jd hjd je hje jf hjf;have ned:=aI hje;have kje:=aB hje;have nfe:=aI hjf;have nfd:=aI (aB hjf);have kjf:=aB (aB hjf);simp only[go_sem,ak,ned,ned.symm,nfe,nfe.symm,nfd,nfd.symm];refine⟨aeO,aeO,aeO,?_⟩;have mjd:=hsub.none hjd;have mje:=hsub.none kje;have mjf:=hsub.none kjf;have j2:jd≠i2:=fun e=>aia
 have j2e:je≠i2:=fun e=>aib
 have j2f:jf≠i2:=fun e=>aic
 have dE:(E==0)=false:=beq_eq_false_iff_ne.mpr hne;have dE2:(E !=0)=true:=bne_iff_ne.mpr hne;simp only[go_sem,ak,dE,dE2,ned,ned.symm,nfe,nfe.symm,nfd,nfd.symm,j2,j2.symm,j2e,j2e.symm,j2f,j2f.symm,k2];refine .mk _ (.refl _) ?_ ⟨rfl,rfl⟩
 repeat (first|exact hsub|refine Ab.Sub.put ?_ aeP _)
theorem Ih{U:TypeId→TI}{l:List Oper}{K:Exit→Env→Heap→Prop}(hh:∀H2,H2=h→mC P U n l ρ H2 K):mC P U n l ρ h K:=hh h rfl
theorem bR.upd{id i:Nat}{cs:List AV}{t:TypeId}{b:Option Blk}(hd:bR h id d)(hi:h i=some (.obj cs t))(h1:t≠92)(h2:t≠5):bR (Ab.upd h i b) id d:=by
 obtain⟨y,hy,hb⟩:=hd;refine⟨y,?_,?_⟩
 ·grind [ag,Option.some.inj]
 ·rcases hb with hb|⟨j,off,cs2,rfl,a1,a2,a3⟩
  ·exact aiy
  ·refine .oa ?_ a2 a3
   grind [ag,Option.some.inj]
theorem SH(x jid did:Nat)(e:cr)(d:D)(spl spj:List Nat)(o:OpD)(h:Heap)(he:jr h x jid did e spl spj)(hdk:bR h did d)(hdo:d.ok)(hps:e.ps.length≤1000000)(hlg:e.log.length≤1000000)(hd:e.down=false)(hG:gG k e.s)(hk:k≤1000)(h64:oC o)(her:iB h)(hne:(aE e.s o).2.2.2=0)(hcode:(jadd d e.ps false (dF e.ch o)).2≠0):
  ai prog 33 [.ptr x 0,opA o] h fun r h' =>r= .agg (mB (doE e d o).2.2)∧∃spl' spj',jr h' x jid did (doE e d o).1 spl' spj'∧bR h' did (doE e d o).2.1∧Touch (x::did::jid::(spl++spj)) h h'∧(∀i∈spl',i∈spl∨h i=none)∧(∀i∈spj',i∈spj∨h i=none):=by
 have hF:=mw (iK hne);have hrl:=so (h:=e.ch) hF;have hpl:=CT hF;have edo:doE e d o=(let a:=jadd d e.ps false (dF e.ch o);if a.2=0 then({nv e (aE e.s o) (dF e.ch o)with ps:=a.1.2.1,down:=a.1.2.2},a.1.1,(aE e.s o).2.1)else({e with ps:=a.1.2.1,down:=a.1.2.2},a.1.1,DM (a.2:Int))):=by
  exact akp
 have hgd:=fun(G:Heap) (hG' :Ab.Sub h G)=>nu e.s hG hk o h64 G (her.sub hG')
 have he0:=he;obtain⟨yl,hx,hg,hj⟩:=he;obtain⟨a1,a2,a3,a4,a5,a6,a7,es⟩:=cm e.s;have g:=hx;unfold lI at g;rw[es]at g;simp only[List.cons_append,List.nil_append]at g;refine aeB func33 53 [.cell 4 57] fun hwf=>?_
 simp only[go_sem,opA,opC];intro i1 h1;have x1:i1≠x:=fun e=>ahs
 simp only[go_sem];intro i2 h2;have n2:=aB h2;have x2:i2≠x:=fun e=>aht
 have n21:=aI h2;generalize hH:upd (upd h i1 _) i2 _=H;have kx:H x=_:=(by rw[←hH,ag _ _ (Ne.symm x2),ag _ _ (Ne.symm x1)]:H x=h x).trans g
 have k2:H i2=some (.obj ov 57):=ag1;have k1:H i1=some (.obj (opC o) 50):=afT;have hsub:Ab.Sub h H:=afg;clear hH g;unfold ov at k2;simp only[go_sem,kx];refine(xR jid did e.ps e.down spj H (hj.sub hsub)).pthen ?_;rw[hd];generalize aE e.s o=gd at hgd hne edo⊢;obtain⟨S,R,D,E⟩:=gd;simp only at hne edo⊢;subst hne;obtain⟨b1,b2,b3,b4,b5,b6,b7,es2⟩:=cm S;rw[nw,show cG e.s= .agg (eN e.s)from rfl,es,show cG S= .agg (eN S)from rfl,es2]at hgd
 simp only[opA,opC]at hgd;unfold opC at k1;simp only[go_sem];refine .tree _ (.quiet [0,1,2,3,4] 5 (.news [6,7,8,9,10] [11,12,13] (.seq [14,15,16,17]))) (.refl _) aeF rfl ?_;simp only[go_sem,kx,k1];refine⟨_,fun G hs=>hgd G (hsub.trans hs),?_⟩
 simp only[go_sem];refine⟨.refl _,aeJ,?_⟩;intro jd hjd je hje jf hjf;have ned:=aI hje;have kje:=aB hje;have nfe:=aI hjf;have nfd:=aI (aB hjf);have kjf:=aB (aB hjf);simp only[go_sem,ak,ned,ned.symm,nfe,nfe.symm,nfd,nfd.symm];refine⟨aeO,aeO,aeO,?_⟩;have mjd:=hsub.none hjd;have mje:=hsub.none kje;have mjf:=hsub.none kjf;have j2:jd≠i2:=fun e=>aia
 have j2e:je≠i2:=fun e=>aib
 have j2f:jf≠i2:=fun e=>aic
 refine Ih fun H2 w2=>?_
 have xjd:jd≠x:=fun e=>aie
 have xje:je≠x:=fun e=>aif
 have xjf:jf≠x:=fun e=>aih
 have y1:jd≠i1:=fun e=>by rw[e,k1]at hjd;cases hjd
 have y2:je≠i1:=fun e=>by rw[e,k1]at kje;cases kje
 have y3:jf≠i1:=fun e=>by rw[e,k1]at kjf;cases kjf
 have hs2:Ab.Sub h H2:=agy;have fx:H2 x=_:=(by rw[w2];simp only[ak,xjd,xjd.symm,xje,xje.symm,xjf,xjf.symm,ne_eq,not_false_eq_true]:H2 x=H x).trans kx
 have f1:H2 i1=_:=(by rw[w2];simp only[ak,y1,y1.symm,y2,y2.symm,y3,y3.symm,ne_eq,not_false_eq_true]:H2 i1=H i1).trans k1
 have f2:H2 i2=_:=(by rw[w2];simp only[ak,j2,j2.symm,j2e,j2e.symm,j2f,j2f.symm,ne_eq,not_false_eq_true]:H2 i2=H i2).trans k2
 have fd:H2 jd=some (.obj [.i S.tick,gw S.cases,kR S.reviews,lU S.notices,eJ S.roles,b1,b2,b3,b4,b5,b6,b7,.i S.version] 41):=aeY;have fe:H2 je=some (.obj [.i R.err,.v (.complex .f64 (hbit R.mark.1) (hbit R.mark.2)),.b R.glass,.i R.val.kind,.i R.val.n,.s R.val.s,.b R.hidden,.i R.at_] 57):=aeY;have ff:H2 jf=some (.obj (sS D) 59):=afv;clear w2;refine .quiet aeF ?_;simp only[go_sem,fx,f1];refine⟨_,CY e.ch o h64 (f_l hF) aeC _,?_⟩;simp only[go_sem,fx];refine(ID d hdo did jid e.ps e.down spj H2 _ (dF e.ch o) (hdk.keep hs2.fX) (hj.sub hs2) (.sl _ _) aeC hps).mono fun r H3 ⟨er,spj',hd3,hj3,hT3,hs3⟩=>?_
 subst er;have hin:∀q∈did::jid::spj,∃b,h q=some b∧∀cs,b≠ .obj cs 86:=fun q hq=>by
  exact ajg
 have out:∀q,h q=none→q∉did::jid::spj:=fun q hq hi=>by
  obtain⟨b,hb,_⟩:=hin q hi;rw[hq]at hb;cases hb
 have outx:x∉did::jid::spj:=fun hi=>by
  exact akv
 have fx3:=hT3 _ _ outx fx;have f23:=hT3 _ _ (out i2 n2) f2;have fd3:=hT3 _ _ (out jd mjd) fd;have fe3:=hT3 _ _ (out je mje) fe;have ff3:=hT3 _ _ (out jf mjf) ff;rw[hd]at hd3 hj3⊢;generalize jadd d e.ps false (dF e.ch o)=a at hd3 hj3 edo hcode⊢;obtain⟨⟨d2,ps2,dn2⟩,code⟩:=a;simp only at hd3 hj3 edo hcode⊢;cases dc:((code:Int)==0)
 ·have hc:code≠0:=fun e2=>by subst e2;cases dc
  have dc2:((code:Int) !=0)=true:=by rw[bne,dc];rfl
  rw[if_neg hc]at edo;simp only[go_sem,dc2,f23,ah];have hsp:∀i∈spl,i∉did::jid::spj:=fun i hi hq=>by
   exact aje
  have hg3:=(hg.touch (S:=[]) (.of hs2) (fun i hi hh=>af2)).touch hT3 hsp
  have hnl:∀i∈spl,i∉ [i2]:=fun i hi hh=>by
   obtain⟨n,hn⟩:=hg.has i hi;rw[List.mem_singleton.1 hh,n2]at hn;cases hn
  have hF4:∀b,Touch [i2] H3 (upd H3 i2 b):=fun b=> .upd
  have hj3' :=hj3;obtain⟨z,zs,hz1,hz2,_⟩:=hj3';refine .same (.refl _) ⟨by rw[edo];rfl,spl,spj',?_,?_,?_,fun i hi=> .inl hi,fun i hi=>?_⟩
  ·rw[edo]
   refine⟨yl,?_,hg3.touch (hF4 _) hnl,hj3.touch (hF4 _) ?_ ?_⟩
   ·rw[ag _ _ (Ne.symm x2),fx3]
    unfold lI;rw[es];rfl
   ·intro hh
    rw[List.mem_singleton.1 hh,f23]at hz1;cases hz1
   ·intro i hi hh
    obtain⟨n,hn⟩:=hz2.has i hi;rw[List.mem_singleton.1 hh,f23]at hn;cases hn
  ·rw[edo]
   exact hd3.upd f23 aeG aeG
  ·exact(((Touch.of (S:=[]) hs2).trans hT3).trans (hF4 _)).mono (fun i hi=>by
    simp only[List.nil_append,List.mem_append,List.mem_cons,List.mem_singleton,List.not_mem_nil,or_false]at hi;rcases hi with(h3|h3|h3)|h3
    ·left;simp[h3]
    ·left;simp[h3]
    ·left;simp[h3]
    ·right;rw[h3];exact n2)
  ·rcases hs3 i hi with h3|h3
   ·exact .inl h3
   ·right;exact hs2.none h3
 ·exact absurd (eq_of_beq dc) aeC
theorem bR.touch{id:Nat}(hd:bR h id d)(ht:Touch S h h')(hS:∀i∈S,∀cs,h i≠some (.obj cs 92)∧h i≠some (.obj cs 5)):bR h' id d:=by
 obtain⟨y,hy,hb⟩:=hd;refine⟨y,ht _ _ aeD hy,?_⟩;rcases hb with hb|⟨j,off,cs2,rfl,a1,a2,a3⟩
 ·exact aiy
 ·exact .oa (ht _ _ aeD a1) a2 a3
theorem SG(x jid did:Nat)(e:cr)(d:D)(spl spj:List Nat)(o:OpD)(h:Heap)(he:jr h x jid did e spl spj)(hdk:bR h did d)(hdo:d.ok)(hps:e.ps.length≤1000000)(hlg:e.log.length≤1000000)(hd:e.down=false)(hG:gG k e.s)(hk:k≤1000)(h64:oC o)(her:iB h)(hne:(aE e.s o).2.2.2=0)(hcode:(jadd d e.ps false (dF e.ch o)).2=0):
  ai prog 33 [.ptr x 0,opA o] h fun r h' =>r= .agg (mB (doE e d o).2.2)∧∃spl' spj',jr h' x jid did (doE e d o).1 spl' spj'∧bR h' did (doE e d o).2.1∧Touch (x::did::jid::(spl++spj)) h h'∧(∀i∈spl',i∈spl∨i∈spj∨h i=none)∧(∀i∈spj',i∈spj∨h i=none):=by
 have hF:=mw (iK hne);have hrl:=so (h:=e.ch) hF;have hpl:=CT hF;have edo:doE e d o=(let a:=jadd d e.ps false (dF e.ch o);if a.2=0 then({nv e (aE e.s o) (dF e.ch o)with ps:=a.1.2.1,down:=a.1.2.2},a.1.1,(aE e.s o).2.1)else({e with ps:=a.1.2.1,down:=a.1.2.2},a.1.1,DM (a.2:Int))):=by
  exact akp
 have hgd:=fun(G:Heap) (hG' :Ab.Sub h G)=>nu e.s hG hk o h64 G (her.sub hG')
 have he0:=he;obtain⟨yl,hx,hg,hj⟩:=he;obtain⟨a1,a2,a3,a4,a5,a6,a7,es⟩:=cm e.s;have g:=hx;unfold lI at g;rw[es]at g;simp only[List.cons_append,List.nil_append]at g;refine aeB func33 53 [.cell 4 57] fun hwf=>?_
 simp only[go_sem,opA,opC];intro i1 h1;have x1:i1≠x:=fun e=>ahs
 simp only[go_sem];intro i2 h2;have n2:=aB h2;have x2:i2≠x:=fun e=>aht
 have n21:=aI h2;generalize hH:upd (upd h i1 _) i2 _=H;have kx:H x=_:=(by rw[←hH,ag _ _ (Ne.symm x2),ag _ _ (Ne.symm x1)]:H x=h x).trans g
 have k2:H i2=some (.obj ov 57):=ag1;have k1:H i1=some (.obj (opC o) 50):=afT;have hsub:Ab.Sub h H:=afg;clear hH g;unfold ov at k2;simp only[go_sem,kx];refine(xR jid did e.ps e.down spj H (hj.sub hsub)).pthen ?_;rw[hd];generalize aE e.s o=gd at hgd hne edo⊢;obtain⟨S,R,D,E⟩:=gd;simp only at hne edo⊢;subst hne;obtain⟨b1,b2,b3,b4,b5,b6,b7,es2⟩:=cm S;rw[nw,show cG e.s= .agg (eN e.s)from rfl,es,show cG S= .agg (eN S)from rfl,es2]at hgd
 simp only[opA,opC]at hgd;unfold opC at k1;simp only[go_sem];refine .tree _ (.quiet [0,1,2,3,4] 5 (.news [6,7,8,9,10] [11,12,13] (.seq [14,15,16,17]))) (.refl _) aeF rfl ?_;simp only[go_sem,kx,k1];refine⟨_,fun G hs=>hgd G (hsub.trans hs),?_⟩
 simp only[go_sem];refine⟨.refl _,aeJ,?_⟩;intro jd hjd je hje jf hjf;have ned:=aI hje;have kje:=aB hje;have nfe:=aI hjf;have nfd:=aI (aB hjf);have kjf:=aB (aB hjf);simp only[go_sem,ak,ned,ned.symm,nfe,nfe.symm,nfd,nfd.symm];refine⟨aeO,aeO,aeO,?_⟩;have mjd:=hsub.none hjd;have mje:=hsub.none kje;have mjf:=hsub.none kjf;have j2:jd≠i2:=fun e=>aia
 have j2e:je≠i2:=fun e=>aib
 have j2f:jf≠i2:=fun e=>aic
 refine Ih fun H2 w2=>?_
 have xjd:jd≠x:=fun e=>aie
 have xje:je≠x:=fun e=>aif
 have xjf:jf≠x:=fun e=>aih
 have y1:jd≠i1:=fun e=>by rw[e,k1]at hjd;cases hjd
 have y2:je≠i1:=fun e=>by rw[e,k1]at kje;cases kje
 have y3:jf≠i1:=fun e=>by rw[e,k1]at kjf;cases kjf
 have hs2:Ab.Sub h H2:=agy;have fx:H2 x=_:=(by rw[w2];simp only[ak,xjd,xjd.symm,xje,xje.symm,xjf,xjf.symm,ne_eq,not_false_eq_true]:H2 x=H x).trans kx
 have f1:H2 i1=_:=(by rw[w2];simp only[ak,y1,y1.symm,y2,y2.symm,y3,y3.symm,ne_eq,not_false_eq_true]:H2 i1=H i1).trans k1
 have f2:H2 i2=_:=(by rw[w2];simp only[ak,j2,j2.symm,j2e,j2e.symm,j2f,j2f.symm,ne_eq,not_false_eq_true]:H2 i2=H i2).trans k2
 have fd:H2 jd=some (.obj [.i S.tick,gw S.cases,kR S.reviews,lU S.notices,eJ S.roles,b1,b2,b3,b4,b5,b6,b7,.i S.version] 41):=aeY;have fe:H2 je=some (.obj [.i R.err,.v (.complex .f64 (hbit R.mark.1) (hbit R.mark.2)),.b R.glass,.i R.val.kind,.i R.val.n,.s R.val.s,.b R.hidden,.i R.at_] 57):=aeY;have ff:H2 jf=some (.obj (sS D) 59):=afv;clear w2;refine .quiet aeF ?_;simp only[go_sem,fx,f1];refine⟨_,CY e.ch o h64 (f_l hF) aeC _,?_⟩;simp only[go_sem,fx];refine(ID d hdo did jid e.ps e.down spj H2 _ (dF e.ch o) (hdk.keep hs2.fX) (hj.sub hs2) (.sl _ _) aeC hps).mono fun r H3 ⟨er,spj',hd3,hj3,hT3,hs3⟩=>?_
 subst er;have hin:∀q∈did::jid::spj,∃b,h q=some b∧∀cs,b≠ .obj cs 86:=fun q hq=>by
  exact ajg
 have out:∀q,h q=none→q∉did::jid::spj:=fun q hq hi=>by
  obtain⟨b,hb,_⟩:=hin q hi;rw[hq]at hb;cases hb
 have outx:x∉did::jid::spj:=fun hi=>by
  exact akv
 have fx3:=hT3 _ _ outx fx;have f23:=hT3 _ _ (out i2 n2) f2;have fd3:=hT3 _ _ (out jd mjd) fd;have fe3:=hT3 _ _ (out je mje) fe;have ff3:=hT3 _ _ (out jf mjf) ff;rw[hd]at hd3 hj3⊢;generalize jadd d e.ps false (dF e.ch o)=a at hd3 hj3 edo hcode⊢;obtain⟨⟨d2,ps2,dn2⟩,code⟩:=a;simp only at hd3 hj3 edo hcode⊢;subst hcode;rw[if_pos rfl]at edo;simp only[sS,opC,List.cons_append,List.nil_append]at ff3;have hsp:∀i∈spl,i∉did::jid::spj:=fun i hi hq=>by
  exact aje
 have hg3:=(hg.touch (S:=[]) (.of hs2) (fun i hi hh=>af2)).touch hT3 hsp
 have hx3:H3 x=some (lI jid e yl):=by rw[fx3];unfold lI;rw[es];rfl
 have hgo:=Iv e S D (dF e.ch o) .no jid x yl spl H3 hx3 hg3 hlg aeC;rw[show cG S= .agg (eN S)from rfl,es2]at hgo
 simp only[sS,opC,List.cons_append,List.nil_append]at hgo;simp only[go_sem,fd3,ff3];refine hgo.mono fun r H4 ⟨er,yl',spl',hx4,hg4,hT4,hs4⟩=>?_
 subst er;have hnl:∀q,h q=none→q∉x::spl:=fun q hq hh=>by
  rcases List.mem_cons.1 hh with rfl|hh
  ·rw[hx]at hq;cases hq
  ·obtain⟨n,hn⟩:=hg.has q hh
   rw[hn]at hq;cases hq
 have fe4:=hT4 _ _ (hnl je mje) fe3;have f24:=hT4 _ _ (hnl i2 n2) f23;simp only[go_sem,fe4,f24,ah];have hF4:∀b,Touch [i2] H4 (upd H4 i2 b):=fun b=> .upd
 have hj3' :=hj3;obtain⟨z,zs,hz1,hz2,_⟩:=hj3';have jx:jid∉x::spl:=fun hh=>by
  exact ajQ
 have sx:∀i∈spj',i∉x::spl:=fun i hi hh=>by
  obtain⟨n,hn⟩:=hz2.has i hi;rcases List.mem_cons.1 hh with rfl|hh
  ·rw[hx3]at hn;cases hn
  ·obtain⟨n2,hn2⟩:=hg3.has i hh
   rw[hn2]at hn;cases hn
 have hj4:=hj3.touch hT4 jx sx;have hj4' :=hj4;obtain⟨z4,zs4,hz41,hz42,_⟩:=hj4';have hd4:=hd3.touch hT4 (fun i hi cs=>by
  rcases List.mem_cons.1 hi with rfl|hi
  ·rw[hx3];exact⟨fun hh=>af2,fun hh=>af2⟩
  ·obtain⟨n,hn⟩:=hg3.has i hi
   rw[hn];exact⟨fun hh=>af2,fun hh=>af2⟩)
 refine .same (.refl _) ⟨by rw[edo];rfl,spl',spj',?_,?_,?_,fun i hi=>?_,fun i hi=>?_⟩
 ·rw[edo]
  refine⟨yl',?_,hg4.touch (hF4 _) ?_,hj4.touch (hF4 _) ?_ ?_⟩
  ·rw[ag _ _ (Ne.symm x2),hx4]
   unfold lI;simp only[nv]
  ·intro i hi hh
   obtain⟨n,hn⟩:=hg4.has i hi;rw[List.mem_singleton.1 hh,f24]at hn;cases hn
  ·intro hh
   rw[List.mem_singleton.1 hh,f24]at hz41;cases hz41
  ·intro i hi hh
   obtain⟨n,hn⟩:=hz42.has i hi;rw[List.mem_singleton.1 hh,f24]at hn;cases hn
 ·rw[edo]
  exact hd4.upd f24 aeG aeG
 ·exact((((Touch.of (S:=[]) hs2).trans hT3).trans hT4).trans (hF4 _)).mono (fun i hi=>by
   simp only[List.nil_append,List.mem_append,List.mem_cons,List.mem_singleton,List.not_mem_nil,or_false]at hi;rcases hi with((h3|h3|h3)|(h3|h3))|h3
   ·left;simp[h3]
   ·left;simp[h3]
   ·left;simp[h3]
   ·left;simp[h3]
   ·left;simp[h3]
   ·right;rw[h3];exact n2)
 ·rcases hs4 i hi with h3|h3
  ·exact .inl h3
  ·right
   cases hh:h i with
   |none=>exact .inr rfl
   |some b=>
    left
    by_cases hm3:i∈did::jid::spj
    ·simp only[List.mem_cons]at hm3
     rcases hm3 with rfl|rfl|hm3
     ·obtain⟨w,hw,_⟩:=hd3
      rw[hw]at h3;cases h3
     ·rw[hz1]at h3;cases h3
     ·exact hm3
    ·have:=hT3 _ _ hm3 (hs2 _ _ hh)
     rw[h3]at this;cases this
 ·rcases hs3 i hi with h3|h3
  ·exact .inl h3
  ·right;exact hs2.none h3
theorem VM(x jid did:Nat)(e:cr)(d:D)(spl spj:List Nat)(o:OpD)(h:Heap)(he:jr h x jid did e spl spj)(hdk:bR h did d)(hdo:d.ok)(hps:e.ps.length≤1000000)(hlg:e.log.length≤1000000)(hG:gG k e.s)(hk:k≤1000)(h64:oC o)(her:iB h):
  ai prog 33 [.ptr x 0,opA o] h fun r h' =>r= .agg (mB (doE e d o).2.2)∧∃spl' spj',jr h' x jid did (doE e d o).1 spl' spj'∧bR h' did (doE e d o).2.1∧Touch (x::did::jid::(spl++spj)) h h'∧(∀i∈spl',i∈spl∨i∈spj∨h i=none)∧(∀i∈spj',i∈spj∨h i=none):=by
 have stay:∀R:jk,doE e d o=(e,d,R)→∀(r:AV) (h' :Heap),(r= .agg (mB R)∧h' =h)→r= .agg (mB (doE e d o).2.2)∧∃spl' spj',jr h' x jid did (doE e d o).1 spl' spj'∧bR h' did (doE e d o).2.1∧Touch (x::did::jid::(spl++spj)) h h'∧(∀i∈spl',i∈spl∨i∈spj∨h i=none)∧(∀i∈spj',i∈spj∨h i=none):=fun R ed r h' ⟨e1,e2⟩=>by
  subst e2;rw[ed];exact⟨e1,spl,spj,he,hdk,.refl _ _,fun i hi=> .inl hi,fun i hi=> .inl hi⟩
 cases hd:e.down
 case true=>
  exact(Pt x jid did e spl spj o h he hd).mono (stay _ (by simp_all [doE,if_pos]))
 by_cases hne:(aE e.s o).2.2.2=0
 case neg=>
  exact(SF x jid did e spl spj o h he hd hG hk h64 her hne).mono (stay _ (by
   simp_all [doE,if_neg,if_pos]))
 by_cases hcode:(jadd d e.ps false (dF e.ch o)).2=0
 ·exact SG x jid did e d spl spj o h he hdk hdo hps hlg hd hG hk h64 her hne hcode
 ·exact(SH x jid did e d spl spj o h he hdk hdo hps hlg hd hG hk h64 her hne hcode).mono fun r h' ⟨a,s1,s2,b,c,f,g,i⟩=>⟨a,s1,s2,b,c,f,fun q hq=>(g q hq).imp id .inr,i⟩
theorem Mp{U:TypeId→TI}{a b:Code}{K:Exit→Env→Heap→Prop}(hh:∀H2,H2=h→jZ P U n a b ρ H2 K y):jZ P U n a b ρ h K y:=hh h rfl
theorem iB.touch(he:iB h)(ht:Touch S h h')(hS:∀i∈S,∀b vs,h i≠some (.ro b vs)):iB h' :=by obtain⟨ev,hev,id,hi⟩:=he;exact⟨ev,hev,id,ht _ _ aeD hi⟩
theorem Gl{i:Nat}(hi:i<l.length)(h:lN e (l.take i)=some e1):lN e (l.take (i+1))=kE e1 l[i]:=by grind [List.take_succ_eq_append_getElem,sV]
theorem Gk{i:Nat}(h:lN e (l.take i)=none):lN e l=none:=by
 rw[←List.take_append_drop i l];generalize l.take i=a at h⊢
 induction a generalizing e with
 |nil=>cases h
 |cons p a ih=>
  simp only[List.cons_append,lN]at h⊢
  grind
theorem TL{e':cr}(h:kE e p=some e')(hG:gG k e.s):gG (k+1) e'.s:=by
 unfold kE at h;cases hr:ji e p with
 |none=>grind
 |some o=>
  rw[hr]at h;simp only at h;split at h
  ·cases h;exact rj o hG
  grind
theorem Qu{o:OpD}(h:ji e p=some o)(hl:p.length≤1000000):oC o:=by grind [ji,Iu,List.length_drop]
def vh(h h' :Heap)(did:Nat)(ps:List Txt)(r:AV):Prop:=match vT ps with
 |none=>r= .tup [.v (.pointer none),.i 7]
 |some e=>∃x jid spl spj,r= .tup [.ptr x 0,.i 0]∧jr h' x jid did e spl spj∧(∀i∈x::jid::(spl++spj),h i=none)
theorem newL:eN th= [.i 0,.sl [] .no,.sl [] .no,.sl [] .no,.sl [] .no,.s jV,.b false,.i 6,.sl [] .no,.sl [] .no,.sl [] .no,.sl [] .no,.i 0]:=rfl
theorem Oi(d:D)(hdo:d.ok)(did:Nat)(h:Heap)(hdk:bR h did d)(her:iB h)(hps:(scan d.b).1.length≤900):
  ai prog 17 [.ptr did 0] h fun r h' =>bR h' did d.bX.1∧Keep did h h'∧if d.bX.2=0 then vh h h' did (scan d.b).1 r else r= .tup [.v (.pointer none),.i (d.bX.2:Nat)]:=by
 have hlen:=(QE d.b).2;refine aeB func17 62 [.tmp 2,.tmp 3] fun hwf=>?_
 simp only[go_sem];refine(M1 d hdo did h hdk).mono fun r h1 ⟨J,e1,hd1,kp1,hif⟩=>?_
 subst e1;have her1:iB h1:=her.touch (.keep kp1) (fun i hi b vs hh=>by
  obtain⟨y,hy,_⟩:=hdk;rw[List.mem_singleton.1 hi,hy]at hh;cases hh)
 generalize (scan d.b).1=ps at hps hlen hif⊢;generalize d.bX=od at hd1 hif⊢;obtain⟨d1,c1⟩:=od;simp only at hd1 hif⊢
 by_cases hc:c1=0
 case neg=>
  rw[if_neg hc]at hif;subst hif;have t1:(((c1:Nat):Int) !=0)=true:=by simp[hc]
  simp only[go_sem,t1];exact .same (.refl _) ⟨hd1,kp1,by rw[if_neg hc];rfl⟩
 subst hc;rw[if_pos rfl]at hif;obtain⟨jid,spj,rfl,hjn,hj,hsn⟩:=hif;simp only[go_sem];refine(Nr h1 her1).pthen ?_;rw[show cG th= .agg (eN th)from rfl,newL]
 simp only[go_sem];intro x hx;have hxh:h x=none:=by
  cases hh:h x with
  |none=>rfl
  |some k=>
   by_cases e:x=did
   ·subst e
    obtain⟨y,hy,_⟩:=hd1;rw[hy]at hx;cases hx
   ·rw[kp1 _ _ e hh]at hx;cases hx
 simp only[go_sem];refine inH fun H1 w1=>?_
 have hs1:Ab.Sub h1 H1:=by rw[w1];exact(Sub.refl h1).new hx _
 have hE1:jr H1 x jid did (jj ps) [] spj:=⟨_,by rw[w1,ah];rfl,.inl ⟨rfl,rfl,rfl⟩,hj.sub hs1⟩
 clear w1;have hK1:Keep did h H1:=kp1.trans (hs1.keep did);refine(zT jid did ps false spj H1 (hj.sub hs1) aeC (fun p hp=>by have:=hlen p hp;omega)).mono fun r h2 ⟨q,er,hs2⟩=>?_
 subst er;simp only[go_sem,aes];refine .intro (fun m ρ H=>∃(i:Nat) (e:cr) (spl:List Nat),lN (jj ps) (ps.take i)=some e∧e.ps=ps∧e.down=false∧e.log.length=i∧gG i e.s∧jr H x jid did e spl spj∧bR H did d1∧Keep did h H∧(∀j∈spl,h j=none)∧i≤ps.length∧m=ps.length - i∧lk ρ 6=some (.ptr x 0)∧lk ρ 28=some (.sl (ps.map dZ) q)∧lk ρ 29=some (.i ps.length)∧lk ρ 30=some (.i i)) (ps.length - 0) ?_ ?_
 ·obtain⟨yl,a,b,c⟩:=hE1
  refine⟨0,jj ps,[],rfl,rfl,rfl,rfl,sW,⟨yl,hs2 _ _ a,b.touch (S:=[]) (.of hs2) (fun i hi=>by cases hi),c.sub hs2⟩,(hd1.keep hs1.fX).keep hs2.fX,hK1.trans (hs2.keep did),fun j hj=>(by cases hj),aeC,rfl,?_,?_,?_,?_⟩<;>simp only[go_sem]
 rintro m ρ H ⟨i,e,spl,hf,hps2,hdn,hlg,hG,hE,hD,hK,hsl,hi,rfl,r6,r28,r29,r30⟩
 by_cases hlt:i<ps.length
 case neg=>
  have ei:i=ps.length:=aeC;have t1:decide ((i:Int)<(ps.length:Int))=false:=decide_eq_false aeC;rw[ei,List.take_length]at hf;simp only[go_sem,r6,r28,r29,r30,t1];refine .same (.refl _) ⟨hD,hK,?_⟩
  show vh h H did ps (.tup [.ptr x 0,.i 0])
  unfold vh vT;rw[hf];exact⟨x,jid,spl,spj,rfl,hE,fun j hj=>by
   simp only[List.mem_cons,List.mem_append]at hj;rcases hj with rfl|rfl|hj|hj
   ·exact hxh
   ·exact hjn
   ·exact hsl _ hj
   ·exact(hsn _ hj).1⟩
 have t1:decide ((i:Int)<(ps.length:Int))=true:=decide_eq_true aeC;have w3:=aey i aeC;have ix:=fun k=>dR.eq (xs:=ps.map dZ) (sz:=1) i aeX aeQ k
 have hf1:=Gl hlt hf;have hpl:=hlen _ (aex hlt);rw[aet]at ix;obtain⟨p,ep⟩:∃p,ps[i]=p:=⟨_,rfl⟩;rw[ep]at ix hf1 hpl;simp only[dZ]at ix;have hEx:=hE;obtain⟨yl,hx2,hgl,hj2⟩:=hE;simp only[go_sem,r6,r28,r29,r30,t1,ix];refine(MD p .no e yl jid x H aeC hx2).pthen ?_;unfold BP;have her2:iB H:=her.touch (.keep hK) (fun i hi b vs hh=>by
  obtain⟨y,hy,_⟩:=hdk;rw[List.mem_singleton.1 hi,hy]at hh;cases hh)
 have bad:∀H',Ab.Sub H H'→kE e p=none→bR H' did d1∧Keep did h H'∧vh h H' did ps (.tup [.v (.pointer none),.i 7]):=fun H' hs hn=>by
  refine⟨hD.keep hs.fX,hK.trans (hs.keep did),?_⟩;unfold vh vT;rw[Gk (hf1.trans hn)]
 cases hr:ji e p with
 |none=>
  have hn:kE e p=none:=by unfold kE;rw[hr]
  simp only[go_sem,hr,opA,opC,rB,aq,Option.getD,Option.isSome];intro i9 h9;simp only[go_sem];exact .mk _ (.refl _) (.refl _) (bad _ ((Sub.refl H).new h9 _) hn)
 |some o=>
  have h64:=Qu hr aeC;have hst:kE e p=if(aE e.s o).2.2.2=0 then some (nv e (aE e.s o) p)else none:=by unfold kE;rw[hr]
  obtain⟨a1,a2,a3,a4,a5,a6,a7,es⟩:=cm e.s;have hgd:=fun(G:Heap) (hG' :Ab.Sub H G)=>nu e.s hG aeC o h64 G (her2.sub hG')
  have hG2:=rj o hG;have g:=hx2;unfold lI at g;rw[es]at g;simp only[List.cons_append,List.nil_append]at g;simp only[go_sem,hr,opA,opC,Option.getD,Option.isSome];intro i9 h9;have x9:i9≠x:=fun e=>by rw[e,hx2]at h9;cases h9
  simp only[go_sem];generalize hH:upd H i9 _=H1;have kx:H1 x=_:=(by rw[←hH,ag _ _ (Ne.symm x9)]:H1 x=H x).trans g
  have k9:H1 i9=some (.obj (opC o) 50):=ag1;have hsub:Ab.Sub H H1:=by rw[←hH];exact(Sub.refl H).new h9 _
  clear hH g;generalize aE e.s o=gd at hgd hst hG2⊢;obtain⟨S,R,D,E⟩:=gd;simp only at hst hG2;obtain⟨b1,b2,b3,b4,b5,b6,b7,es2⟩:=cm S;rw[nw,show cG e.s= .agg (eN e.s)from rfl,es,show cG S= .agg (eN S)from rfl,es2]at hgd
  simp only[opA,opC]at hgd;unfold opC at k9;refine .tree _ (.quiet [0,1,2,3,4] 5 (.news [6,7,8,9,10] [11,12,13] (.seq [14,15,16,17]))) (.refl _) aeF rfl ?_;simp only[go_sem,r6,kx,k9];refine⟨_,fun G hs=>hgd G (hsub.trans hs),?_⟩
  simp only[go_sem];refine⟨.refl _,aeJ,?_⟩;intro jd hjd je hje jf hjf;have ned:=aI hje;have kje:=aB hje;have nfe:=aI hjf;have nfd:=aI (aB hjf);have kjf:=aB (aB hjf);simp only[go_sem,ak,ned,ned.symm,nfe,nfe.symm,nfd,nfd.symm];refine⟨aeO,aeO,aeO,?_⟩;refine Mp fun H2 w2=>?_
  have xjd:jd≠x:=fun e=>aie
  have xje:je≠x:=fun e=>aif
  have xjf:jf≠x:=fun e=>aih
  have hs2:Ab.Sub H H2:=by
   have:=hsub.none hjd;have:=hsub.none kje;have:=hsub.none kjf;rw[w2];repeat (first|exact hsub|refine Ab.Sub.put ?_ aeP _)
  have fx:H2 x=_:=(by rw[w2];simp only[ak,xjd,xjd.symm,xje,xje.symm,xjf,xjf.symm,ne_eq,not_false_eq_true]:H2 x=H1 x).trans kx
  have fd:H2 jd=some (.obj [.i S.tick,gw S.cases,kR S.reviews,lU S.notices,eJ S.roles,b1,b2,b3,b4,b5,b6,b7,.i S.version] 41):=by rw[w2];simp only[ak,ned,ned.symm,nfe,nfe.symm,nfd,nfd.symm,ah,ne_eq,not_false_eq_true]
  have ff:H2 jf=some (.obj (sS D) 59):=by rw[w2];simp only[ak,ned,ned.symm,nfe,nfe.symm,nfd,nfd.symm,ah,ne_eq,not_false_eq_true];rfl
  clear w2;simp only[sS,opC,List.cons_append,List.nil_append]at ff
  by_cases hE0:E=0
  case neg=>
   have t2:(E !=0)=true:=by simp[hE0]
   rw[if_neg hE0]at hst;simp only[go_sem,t2];exact .same (.refl _) (bad _ hs2 hst)
  subst hE0;rw[if_pos rfl]at hst;have hx3:H2 x=some (lI jid e yl):=by rw[fx];unfold lI;rw[es];rfl
  have hg3:=hgl.touch (S:=[]) (.of hs2) (fun i hi hh=>af2)
  have hgo:=Iv e S D p .no jid x yl spl H2 hx3 hg3 aeC aeC;rw[show cG S= .agg (eN S)from rfl,es2]at hgo
  simp only[sS,opC,List.cons_append,List.nil_append]at hgo;simp only[go_sem,r6,fd,ff];refine hgo.mono fun r H4 ⟨er,yl',spl',hx4,hg4,hT4,hs4⟩=>?_
  subst er;simp only[go_sem,r6,r28,r29,r30,w3];have hout:∀j∈x::spl,h j=none:=fun j hj=>by
   rcases List.mem_cons.1 hj with rfl|hj
   ·exact hxh
   ·exact hsl _ hj
  have hdid:h did≠none:=by
   obtain⟨y,hy,_⟩:=hdk;rw[hy];simp
  have hj3:=hj2.sub hs2;have hD2:=hD.keep hs2.fX;refine⟨_,?_,i+1,nv e (S,R,D,0) p,spl',hf1.trans hst,hps2,hdn,?_,hG2,⟨yl',hx4,hg4,?_⟩,?_,?_,?_,aeC,rfl,?_,?_,?_,?_⟩
  ·omega
  ·simp[nv,hlg]
  ·refine hj3.touch hT4 ?_ ?_
   ·obtain⟨z,zs,hz1,_⟩:=hj3
    intro hh;exact ajQ
   ·obtain⟨z,zs,_,hz2,_⟩:=hj3
    intro j hj hh;obtain⟨n,hn⟩:=hz2.has j hj;rcases List.mem_cons.1 hh with rfl|hh
    ·rw[hx3]at hn;cases hn
    ·obtain⟨n2,hn2⟩:=hg3.has j hh
     rw[hn2]at hn;cases hn
  ·exact hD2.touch hT4 (fun j hj cs=>by
    rcases List.mem_cons.1 hj with rfl|hj
    ·rw[hx3];exact⟨fun hh=>af2,fun hh=>af2⟩
    ·obtain⟨n,hn⟩:=hg3.has j hj
     rw[hn];exact⟨fun hh=>af2,fun hh=>af2⟩)
  ·intro j k hj hk
   exact hT4 _ _ (fun hh=>by rw[hout j hh]at hk;cases hk) (hs2 _ _ (hK _ _ hj hk))
  ·intro j hj
   rcases hs4 j hj with hh|hh
   ·exact hsl _ hh
   ·cases hk:h j with
    |none=>rfl
    |some k=>
     by_cases e1:j=did
     ·subst e1
      obtain⟨y,hy,_⟩:=hD2;rw[hy]at hh;cases hh
     ·rw[hs2 _ _ (hK _ _ e1 hk)]at hh;cases hh
  all_goals simp only[go_sem,r6,r28,r29]
theorem jr.sub{x jid did:Nat}(he:jr h x jid did e spl spj)(hs:Ab.Sub h h'):jr h' x jid did e spl spj:=by obtain⟨yl,a,b,c⟩:=he;exact⟨yl,hs _ _ a,b.touch (S:=[]) (.of hs) aeJ,c.sub hs⟩
theorem Ml(y:AV)(xs:List AV)(h:Heap)(hb:Rd h 16 y xs)(hl:xs.length≤1000000):ai prog 30 [y] h fun r h' =>OwE 59 h h' 16 r xs∧Ab.Sub h h' :=by
 refine aeB func30 8 [.tmp 2] fun hwf=>?_
 simp only[go_sem];refine hb.nil fun b hxs=>?_
 cases b
 ·simp only[go_sem]
  refine hb.src (U:=U) (e:=59) aeR ⟨hb.1,aeC,OwE.j5 (U:=U) (sz:=16) aeR aeR hb.1 fun y' h' hw hs=>?_⟩
  exact aiW
 ·exact aiU
theorem JC(y:AV)(xs:List AV)(h:Heap)(hb:Rd h 3 y xs)(hl:xs.length≤10000000)(hp:gE xs=true):ai prog 31 [y] h fun r h' =>r= .sl xs .no∧h' =h:=
 ai.freeze fun g hg _=>ai.mono (Q:=fun r h' =>OwE 90 g h' 3 r xs∧Ab.Sub g h') (by
  have hb:=hb.sub hg;refine aeB func31 8 [.tmp 2] fun hwf=>?_
  simp only[go_sem];refine hb.nil fun b hxs=>?_
  cases b
  ·simp only[go_sem]
   refine hb.src (U:=U) (e:=90) aeR ⟨hb.1,aeC,OwE.j5 (U:=U) (sz:=3) aeR aeR hb.1 fun y' h' hw hs=>?_⟩
   exact aiW
  ·have hx:xs= []:=by
    grind
   simp only[go_sem];exact .same (.refl _) ⟨.inl ⟨hx,rfl⟩,.refl _⟩) fun r h' ⟨h1,h2⟩=>⟨h2,_,h1.frz hp,rfl⟩
theorem P5(d:oA):cI (ldA d)=true:=by
 have:=bn (f:=bl) (fun _=>rfl) d.obls
 simp[ldA,sS,opC,ay,aN,cI,gE,this]
theorem RX:(U 37).sz≠0:=aeG
theorem TW:(U 37).sz=1:=aeR
theorem Py(x jid did:Nat)(e:cr)(spl spj:List Nat)(h:Heap)(he:jr h x jid did e spl spj)(hl:e.log.length≤1000000)(ho:∀d∈e.log,d.obls.length≤10000000):
  ai prog 10 [.ptr x 0] h fun r h' =>r= .sl (e.log.map ldA) .no∧h' =h:=
 ai.freeze fun g hgs _=>by
 obtain⟨yl,hx,hg,hj⟩:=he.sub hgs;obtain⟨a1,a2,a3,a4,a5,a6,a7,es⟩:=cm e.s;have gx:=hx;unfold lI at gx;rw[es]at gx;simp only[List.cons_append,List.nil_append]at gx;obtain⟨q,rfl⟩:=hg.row;generalize e.log=l at hl ho gx⊢;refine aeB func10 27 [.tmp 2] fun hwf=>?_
 simp only[go_sem,gx];refine(Ml _ (l.map ldA) g (.sl (zk l) q) aeD).mono fun z M ⟨o1,s1⟩=>?_
 simp only[go_sem,o1.rd.len,aes];refine .intro (fun m ρ G=>∃i:Nat,Ab.Sub M G∧i≤l.length∧m=l.length - i∧lk ρ 3=some z∧lk ρ 11=some (.i l.length)∧lk ρ 12=some (.i i)) l.length ?_ ?_
 ·refine⟨0,.refl _,aeC,rfl,?_,?_,?_⟩<;>simp only[go_sem]
 rintro m ρ G ⟨i,hs,hi,rfl,r3,r11,r12⟩
 have v1:=o1.sub hs
 by_cases hlt:i<l.length
 case neg=>
  have d1:decide ((i:Int)<(l.length:Int))=false:=decide_eq_false aeC;simp only[go_sem,r3,r11,r12,d1];exact .same (.refl _) ⟨s1.trans hs,_,v1.frz (bn P5 _),rfl⟩
 have d1:decide ((i:Int)<(l.length:Int))=true:=decide_eq_true aeC;have w1:IntKind.i64.wrap ((i:Int)+1)=((i+1:Nat):Int):=aeN;have hob:=ho _ (aex hlt);obtain⟨d,ed⟩:∃d,l[i]=d:=⟨_,rfl⟩;have hxi:(l.map ldA)[i]'aeD=ldA d:=aeD;rw[ed]at hob;simp only[go_sem,r3,r11,r12,d1];refine v1.rd.idx (U:=U) (e:=59) i rfl aeD uD aeG fun p hp1=>?_
 simp only[go_sem];refine hp1.field (f:=4) (off:=15) (t:=37) rfl RX fun p2 hp2=>?_
 have hld:=hp2.part (U:=U) (ty:=37) RX (by rw[hxi,TW];exact aer rfl)
 simp only[go_sem,hld,hxi,ldA,sS,opC,ay];refine(JC _ (d.obls.map bl) G (eE bl 3 (fun _=>rfl) _ _) aeD (bn (fun _=>rfl) _)).pthen ?_
 simp only[go_sem,r3,r12];obtain⟨id1,hg1,u1⟩:=v1.ow aeD;refine u1.idx (U:=U) (e:=59) i rfl aeD uD aeG ?_;simp only[go_sem];have u1' :=u1;obtain⟨cap,rest,ey,hid,hr,hcap,hsz⟩:=u1';have hbd:i*16+16≤(au (l.map ldA)++rest).length:=by
  grind [aew,aX,aes]
 have e5:List.take (i*16+15) (au (l.map ldA)++rest)++ [.sl (d.obls.map bl) .no]++List.drop (i*16+15+1) (au (l.map ldA)++rest)=au (l.map ldA)++rest:=by
  refine(kC hsz i aeD 15 [.sl (d.obls.map bl) .no] (aer rfl)).trans ?_;rw[pn];rw[List.getElem?_eq_getElem aeD,hxi];rfl
 simp only[go_sem,r12,hid];rw[e5,tH hid];refine⟨aeC,?_⟩;simp only[go_sem,w1];refine⟨_,?_,i+1,hs,aeC,rfl,?_,?_,?_⟩
 ·omega
 all_goals simp only[go_sem,r3,r11]
end Go.Proofs.YtelkmnkejghkeaaGreatDoor
namespace Go.Bf
open Go Go.Ab Go.Proofs.YtelkmnkejghkeaaGreatDoor
variable {e:cr}{o:OpD}{d:D}
def uu(e:cr)(o:OpD):cr:={nv e (aE e.s o) (dF e.ch o)with ps:=e.ps++ [dF e.ch o],down:=false}
theorem Rr(d:D)(h:e.down=false)(hg:(aE e.s o).2.2.2≠0):doE e d o=(e,d,(aE e.s o).2.1):=by simp_all [doE,if_neg,if_pos]
theorem VL{d':D}{ps:List Txt}{dn:Bool}{c:Nat}(h:e.down=false)(hg:(aE e.s o).2.2.2=0)(hj:jadd d e.ps false (dF e.ch o)=((d',ps,dn),c)):
  doE e d o=if c=0 then({nv e (aE e.s o) (dF e.ch o)with ps:=ps,down:=dn},d',(aE e.s o).2.1)else({e with ps:=ps,down:=dn},d',DM (c:Int)):=by
 simp_all [doE,if_neg]
theorem Ig(h:e.down=false)(hg:(aE e.s o).2.2.2=0)(h1:d.off=false)(h2:d.f=0)(hr:d.b.length+(frame (dF e.ch o)).length≤d.q):
  doE e d o=({nv e (aE e.s o) (dF e.ch o)with ps:=e.ps++ [dF e.ch o],down:=false},{d with b:=d.b++frame (dF e.ch o),sy:=(d.b++frame (dF e.ch o)).length},(aE e.s o).2.1):=by
 have hl:=so (h:=e.ch) (mw (iK hg));rw[VL h hg (Wl h1 h2 aeC aeC hr),if_pos rfl]
theorem Ie(h:e.down=false)(hg:(aE e.s o).2.2.2=0)(h1:d.off=false)(hr:d.q<d.b.length+(frame (dF e.ch o)).length):doE e d o=(e,d,DM 8):=by have hl:=so (h:=e.ch) (mw (iK hg));rw[VL h hg (M0 h1 aeC aeC hr),if_neg aeG];obtain⟨_,_,_,_,dn⟩:=e;cases h;rfl
end Go.Bf
namespace Go.Proofs.YtelkmnkejghkeaaGreatDoor
open Go Go.Ab Go.Bf Tryz
variable {h0 h h':Heap}{S spl spj:List Nat}
theorem vV(hs:Ab.Sub h0 h)(ht:Touch S h h')(hn:∀i∈S,h0 i=none):Ab.Sub h0 h' :=fun j k hj=>ht j k aeD (hs j k hj)
theorem Fs{i:Nat}(hs:Ab.Sub h0 h)(ht:Keep i h h')(hn:h0 i=none):Ab.Sub h0 h' :=vV hs (.keep ht) aeD
theorem SW{x jid did:Nat}{e:cr}{d:D}(he:jr h x jid did e spl spj)(hd:bR h did d):∀i∈x::did::jid::(spl++spj),h i≠none:=fun i hi=>by
 obtain⟨yl,a,b,z,zs,c1,c2,_⟩:=he;obtain⟨y,d1,_⟩:=hd;simp only[List.mem_cons,List.mem_append]at hi;rcases hi with rfl|rfl|rfl|hi|hi
 ·grind
 ·grind
 ·grind
 ·obtain⟨n,e⟩:=b.has i hi;grind
 ·obtain⟨n,e⟩:=c2.has i hi;grind
end Go.Proofs.YtelkmnkejghkeaaGreatDoor
