/- The law ScriptForm,ScriptWhat,ScriptBack: pack 6 of its texts. -/
import Derived.WalkKit
import Derived.Lib.Walk
import Derived.Lib.SliceRun
import Derived.Lib.AppendZerosOnto
import Derived.Test.YtfdgemhnlennbaaGreatDoorPk1
import Derived.Test.YtfdgemhnlennbaaGreatDoorPk2
import Derived.Test.YtfdgemhnlennbaaGreatDoorPk3
import Derived.Test.YtfdgemhnlennbaaGreatDoorPk4
import Derived.Test.YtfdgemhnlennbaaGreatDoorPk5
set_option linter.unusedSimpArgs false
set_option linter.unusedVariables false
set_option maxRecDepth 100000
namespace Go.Bf
open Go Go.Ab Go.Proofs.YtfdgemhnlennbaaGreatDoor
def sj(B:Nat)(s:aq):Prop:=(∀c∈s.cases,c.log.length≤B)∧s.reviews.length≤B∧s.notices.length≤B
theorem sj.up{B C:Nat}{s:aq}(h:sj B s)(hc:B≤C):sj C s:=⟨fun c hcc=>Nat.le_trans (h.1 c hcc) hc,Nat.le_trans h.2.1 hc,Nat.le_trans h.2.2 hc⟩
theorem JI{B:Nat}{s:aq}(o:OpD)(done:Bool)(x:cC)(h:sj B s):sj (B+1) (fF o done s x):=by
 unfold fF;split
 ·unfold iX
  split
  ·refine⟨fun c hc=>?_,Nat.le_succ_of_le h.2.1,Nat.le_succ_of_le h.2.2⟩
   rcases mem_modify hc with hc|⟨hi,rfl⟩
   ·exact Nat.le_succ_of_le (h.1 c hc)
   ·have:=h.1 _ (adF hi)
    simp only[jA,adE,List.length_singleton];omega
  ·exact h.up adK
 ·split
  ·refine⟨fun c hc=>Nat.le_succ_of_le (h.1 c hc),?_,Nat.le_succ_of_le h.2.2⟩
   have:=h.2.1;simp only[cc,adE,List.length_singleton];omega
  ·split
   ·refine⟨fun c hc=>Nat.le_succ_of_le (h.1 c hc),Nat.le_succ_of_le h.2.1,?_⟩
    have:=h.2.2;simp only[adE,List.length_singleton];omega
   ·exact h.up adK
theorem wE(o:OpD)(done:Bool):∀(l:List cC) {B:Nat} {s:aq},sj B s→sj (B+l.length) (dG s o l done)
 | [],B,s,h=>h
 |x::l,B,s,h=>(wE o done l (JI o done x h)).up adL
theorem Dm(s:aq)(o:OpD)(done:Bool){l:List cC}{i:Nat}(h:i<l.length):dG s o (l.take (i+1)) done=fF o done (dG s o (l.take i) done) l[i]:=by
 grind [dG,List.take_succ_eq_append_getElem]
theorem wK(o:OpD)(done:Bool)(id:Txt):∀(l:List cC) (s:aq),iR (dG s o l done).cases id=iR s.cases id∧(dG s o l done).cases.length=s.cases.length
 | [],s=>⟨rfl,rfl⟩
 |x::l,s=>by
  obtain⟨a1,a2⟩:=JW o done s x id;obtain⟨b1,b2⟩:=wK o done id l (fF o done s x);exact⟨b1.trans a1,b2.trans a2⟩
theorem Jj{o:OpD}{s:aq}{x:cC}(h:x.kind=1):fF o true s x=iX s o x.arg:=by unfold fF;grind
theorem FQ{o:OpD}{done:Bool}{s:aq}{x:cC}(h:x.kind=3):fF o done s x=cc s o x.arg:=by simp_all [fF,if_neg,if_pos]
theorem FR{o:OpD}{done:Bool}{s:aq}{x:cC}(h:x.kind=4):fF o done s x= {s with notices:=s.notices++ [⟨s.tick,o.case,x.arg⟩]}:=by simp_all [fF,if_neg,if_pos]
theorem Dn{o:OpD}{done:Bool}{s:aq}{x:cC}(h1:¬(x.kind=1∧done=true))(h3:x.kind≠3)(h4:x.kind≠4):fF o done s x=s:=by simp_all [fF,if_neg]
end Go.Bf
namespace Go.Proofs.YtfdgemhnlennbaaGreatDoor
open Go Go.Ab Go.Bf
theorem FO{g H:Heap}{k:Nat}{s:aq}{j:Nat}(hG:GSt g H k s j)(o:OpD)(hk64:i64 o.kind)(l:List cC)(hll:l.length≤100000000)(done:Bool)(hc:s.cases.length≤1000000)(hgr:sj 1000 s)(hj:done=true→iR s.cases o.case<s.cases.length→o.kind≠6→j=iR s.cases o.case):
  ai Tryz.prog 61 [.ptr k 0,opA o,aA l,.b done] H fun r H' =>GSt g H' k (dG s o l done) j:=by
 have hkn:H k≠none:=by obtain⟨y1,y2,y3,y4,hk,_⟩:=hG;rw[hk];simp
 refine adJ Tryz.func61 60 [] fun hwf=>?_
 simp only[go_sem,opA,opC,aA];intro i5 h5;have n5k:i5≠k:=fun e=>hkn (by rw[←e];exact h5)
 have hg5:g i5=none:=by
  obtain⟨y1,y2,y3,y4,hk,ho,hgk,hfr⟩:=hG;cases hh:g i5 with
  |none=>rfl
  |some b=>have:=hfr i5 b n5k hh;rw[h5]at this;cases this
 have hG5:=hG.box h5 (.obj [.i o.kind,.s o.subj,.s o.case,.s o.field,.s o.to,.i o.val.kind,.i o.val.n,.s o.val.s,.i o.review,.s o.text,.s o.reason,.b o.glass] 39);obtain⟨g5,eg5⟩:∃g5,upd g i5 (some (.obj [.i o.kind,.s o.subj,.s o.case,.s o.field,.s o.to,.i o.val.kind,.i o.val.n,.s o.val.s,.i o.review,.s o.text,.s o.reason,.b o.glass] 39))=g5:=⟨_,rfl⟩;have g55:g5 i5=some (.obj [.i o.kind,.s o.subj,.s o.case,.s o.field,.s o.to,.i o.val.kind,.i o.val.n,.s o.val.s,.i o.review,.s o.text,.s o.reason,.b o.glass] 39):=by rw[←eg5,ah]
 rw[eg5]at hG5;have hback:∀ {H' :Heap} {s' :aq},GSt g5 H' k s' j→GSt g H' k s' j:=fun {H' s'} h=>by
  rw[←eg5]at h;exact(h.unbox n5k hg5).1
 have hgk5:g5 k≠none:=by obtain⟨_,_,_,_,_,_,h,_⟩:=hG5;exact h
 simp only[go_sem,adA];refine .intro (fun m ρ H2=>∃i:Nat,GSt g5 H2 k (dG s o (l.take i) done) j∧i≤l.length∧m=l.length - i∧lk ρ 0=some (.ptr k 0)∧lk ρ 3=some (.b done)∧lk ρ 5=some (.ptr i5 0)∧lk ρ 10=some (.sl (l.map bu) .no)∧lk ρ 11=some (.i l.length)∧lk ρ 12=some (.i i)) l.length ?_ ?_
 ·refine⟨0,hG5,adK,rfl,?_,?_,?_,?_,?_,?_⟩<;>simp only[go_sem]
 ·rintro m ρ H2 ⟨i,hS,hi,rfl,r0,r3,r5,r10,r11,r12⟩
  simp only[go_sem,r11,r12];refine .intro (fun e=>?_) (fun e=>?_)
  ·have hlt:i<l.length:=adH e
   have w1:=adG i adK;have hsn:=Dm s o done hlt;have hgi:=wE o done (l.take i) hgr;have hgi:sj 1000000000 (dG s o (l.take i) done):=hgi.up afJ;obtain⟨hix,hcl⟩:=wK o done o.case (l.take i) s;have ix:=fun k=>fo.eq (xs:=l.map bu) (sz:=3) i aeb ad0 k
   rw[adB]at ix;obtain⟨x,ex⟩:∃x,l[i]=x:=⟨_,rfl⟩;rw[ex]at ix hsn;obtain⟨t,et⟩:∃t,dG s o (l.take i) done=t:=⟨_,rfl⟩;rw[et]at hS hsn hgi hix hcl;have hjt:done=true→iR t.cases o.case<t.cases.length→o.kind≠6→j=iR t.cases o.case:=fun a b c=>by rw[hix]at b⊢;rw[hcl]at b;exact hj a b c
   simp only[bu]at ix;simp only[go_sem,r10,r12,ix];intro i9 h9;have kkn:H2 k≠none:=by obtain⟨y1,y2,y3,y4,hk,_⟩:=hS;rw[hk];simp
   have n9k:i9≠k:=fun e=>kkn (by rw[←e];exact h9)
   have hg9:g5 i9=none:=by
    obtain⟨y1,y2,y3,y4,hk,ho,hgk,hfr⟩:=hS;cases hh:g5 i9 with
    |none=>rfl
    |some b=>have:=hfr i9 b n9k hh;rw[h9]at this;cases this
   have n95:i9≠i5:=fun e=>by rw[e,g55]at hg9;cases hg9
   have k5:H2 i5=some (.obj [.i o.kind,.s o.subj,.s o.case,.s o.field,.s o.to,.i o.val.kind,.i o.val.n,.s o.val.s,.i o.review,.s o.text,.s o.reason,.b o.glass] 39):=by obtain⟨_,_,_,_,_,_,_,hfr⟩:=hS;exact hfr i5 _ n5k g55
   have hS9:=hS.box h9 (.obj [.i x.on,.i x.kind,.s x.arg] 131);have hb9:∀ {H' :Heap} {s' :aq},GSt (upd g5 i9 (some (.obj [.i x.on,.i x.kind,.s x.arg] 131))) H' k s' j→GSt g5 H' k s' j:=fun {H' s'} h=>(h.unbox n9k hg9).1
   have hlog:=fun(hd:done=true)=>MC hS9 o x.arg (by rw[hcl];exact hc) hgi.1 (hjt hd)
   have hopen:=En hS9 o x.arg hk64 hgi.2.1;simp only[opA,opC]at hlog hopen;cases a1:(x.kind==1)
   case true=>
    have e1:x.kind=1:=by simpa using a1
    have a3:(x.kind==3)=false:=by rw[e1];rfl
    have a4:(x.kind==4)=false:=by rw[e1];rfl
    cases done
    ·simp only[go_sem,r3,r12,a1,a3,a4,w1]
     refine⟨_,?_,i+1,by rw[hsn,Dn (fun h=>by cases h.2) (by rw[e1];decide) (by rw[e1];decide)];exact hb9 hS9,adK,rfl,?_,?_,?_,?_,?_,?_⟩
     ·omega
     all_goals simp only[go_sem,r0,r3,r5,r10,r11]
    ·simp only[go_sem,r0,r3,r5,a1,ak,n95.symm,k5]
     refine(hlog rfl).mono fun r H3 h3=>?_
     simp only[go_sem,r12,w1];refine⟨_,?_,i+1,by rw[hsn,Jj e1];exact hb9 h3,adK,rfl,?_,?_,?_,?_,?_,?_⟩
     ·omega
     all_goals simp only[go_sem,r0,r3,r5,r10,r11]
   have e1:¬(x.kind=1∧done=true):=fun h=>by rw[h.1]at a1;cases a1
   cases a3:(x.kind==3)
   case true=>
    have e3:x.kind=3:=by simpa using a3
    simp only[go_sem,r0,r5,a1,a3,ak,n95.symm,k5];refine hopen.mono fun r H3 h3=>?_
    simp only[go_sem,r12,w1];refine⟨_,?_,i+1,by rw[hsn,FQ e3];exact hb9 h3,adK,rfl,?_,?_,?_,?_,?_,?_⟩
    ·omega
    all_goals simp only[go_sem,r0,r3,r5,r10,r11]
   have e3:x.kind≠3:=by simpa using a3
   cases a4:(x.kind==4)
   case false=>
    have e4:x.kind≠4:=by simpa using a4
    simp only[go_sem,r12,a1,a3,a4,w1];refine⟨_,?_,i+1,by rw[hsn,Dn e1 e3 e4];exact hb9 hS9,adK,rfl,?_,?_,?_,?_,?_,?_⟩
    ·omega
    all_goals simp only[go_sem,r0,r3,r5,r10,r11]
   have e4:x.kind=4:=by simpa using a4
   rw[FR e4]at hsn;obtain⟨G,sG,nG,oG⟩:=hS9.base;obtain⟨y1,y2,y3,y4,kk,ho,hgk,hfr⟩:=hS9;obtain⟨K,eK⟩:∃K,upd H2 i9 (some (.obj [.i x.on,.i x.kind,.s x.arg] 131))=K:=⟨_,rfl⟩;have k9:K i9=some (.obj [.i x.on,.i x.kind,.s x.arg] 131):=by rw[←eK,ah]
   have k5' :K i5=some (.obj [.i o.kind,.s o.subj,.s o.case,.s o.field,.s o.to,.i o.val.kind,.i o.val.n,.s o.val.s,.i o.review,.s o.text,.s o.reason,.b o.glass] 39):=by rw[←eK,ag _ _ n95.symm];exact k5
   rw[eK]at sG kk ho hfr;have hoK:iO G K y1 y2 y3 y4 t j:=ho.bM fun i hi=>(nG i).2 hi
   obtain⟨pid,pset,palg,ptgt,prules,pkids,pobls,hpp⟩:∃a b c d e f g,t.policy= .mk a b c d e f g:=by cases t.policy;exact⟨_,_,_,_,_,_,_,rfl⟩
   have hst:∀z (n:List IX),stC {t with notices:=n} y1 y2 z y4= [.i t.tick,y1,y2,z,y4,.s pid,.b pset,.i palg,aV ptgt,.sl (prules.map aC) .no,.sl (pkids.map aM) .no,aA pobls,.i t.version]:=fun z n=>ahx
   have hst0:stC t y1 y2 y3 y4= [.i t.tick,y1,y2,y3,y4,.s pid,.b pset,.i palg,aV ptgt,.sl (prules.map aC) .no,.sl (pkids.map aM) .no,aA pobls,.i t.version]:=ahx;rw[hst0]at kk;have p9:=(bD (H:=K) (l:=[k,i5,i9]) (show i9∈ [k,i5,i9] by simp)).trans k9
   have p5:=(bD (H:=K) (l:=[k,i5,i9]) (show i5∈ [k,i5,i9] by simp)).trans k5'
   have pk:=(bD (H:=K) (l:=[k,i5,i9]) (show k∈ [k,i5,i9] by simp)).trans kk
   simp only[go_sem,a1,a3,a4];rw[eK];refine .stage (pick K [k,i5,i9]) [0,1,2,3,4,5,6,7,8,9,10,11,12,13,14,15,16,17] [18] bA adN ?_;simp only[go_sem,r0,r5,pk,p5,p9];have hap1:Rd K 3 (.sl [nH ⟨t.tick,o.case,x.arg⟩] .full) [nH ⟨t.tick,o.case,x.arg⟩]:=.sl aew .full;have hnl:=hgi.2.2;refine OwE.app (U:=U) (tb:=138) hoK.nt sG hap1 adU adO adP adU adR aei fun id y' K2 hid hor how hoth=>?_
   have hor' :K id=none∨nid y3=some id:=by
    exact aiu
   have n2:∀ {q b t},K q=some (.obj b t)→t≠138→q≠id:=fun {q b t} hq ht e=>by
    rcases hor' with h|h
    ·rw[e,h]at hq;cases hq
    ·exact mg (hoK.nt.nid h).2.2 hq ht e.symm
   have m9:=(hoth i9 (n2 k9 adO)).trans k9;have m5:=(hoth i5 (n2 k5' adO)).trans k5';have nik:=n2 kk adO;have mk:=(hoth k nik).trans kk;refine⟨iT fun q hq=>?_,?_⟩
   ·simp only[List.mem_cons,List.not_mem_nil,or_false]at hq
    rcases hq with rfl|rfl|rfl
    ·rw[mk,kk]
    ·rw[m5,k5']
    ·rw[m9,k9]
   simp only[go_sem];refine⟨cH,fun _ _ e=>ad8,?_⟩
   simp only[go_sem,r12,mk,how.rd.fit,how.rd.cells];refine⟨fun _ _ e=>ad8,?_⟩
   simp only[go_sem,w1];obtain⟨F,eF⟩:∃F,upd K2 k (some (.obj [.i t.tick,y1,y2,y',y4,.s pid,.b pset,.i palg,aV ptgt,.sl (prules.map aC) .no,.sl (pkids.map aM) .no,aA pobls,.i t.version] 63))=F:=⟨_,rfl⟩;have Fk:F k=(some (.obj [.i t.tick,y1,y2,y',y4,.s pid,.b pset,.i palg,aV ptgt,.sl (prules.map aC) .no,.sl (pkids.map aM) .no,aA pobls,.i t.version] 63)):=by rw[←eF,ah]
   have Fo:∀q,q≠k→F q=K2 q:=fun q hq=>by rw[←eF,ag _ _ hq]
   have hoz:OwE 138 G F 3 y' ((t.notices++ [(⟨t.tick,o.case,x.arg⟩:IX)]).map nH):=by
    rw[List.map_append];exact .inr ⟨id,hid,how.same (Fo id nik.symm)⟩
   have hop:iO G F y1 y2 y' y4 {t with notices:=t.notices++ [⟨t.tick,o.case,x.arg⟩]} j:=by
    refine iO.nots (h:=K) (h' :=F) hoK hoz (fun q hq=>?_) fun q hq hne hz=>?_
    ·have:id=q:=by have:=how.nid;rw[hq]at this;exact(Option.some.inj this).symm
     rw[←this];exact hor'
    ·have n1:q≠k:=fun e=>hgk ((nG k).1 (by rw[←e];exact hq))
     have n2:q≠id:=fun e=>by
      rcases hor' with h|h
      ·exact hne (by rw[e];exact h)
      ·exact hz (by rw[e];exact h)
     rw[Fo q n1,hoth q n2]
   have hgs:GSt (upd g5 i9 (some (.obj [.i x.on,.i x.kind,.s x.arg] 131))) F k {t with notices:=t.notices++ [⟨t.tick,o.case,x.arg⟩]} j:=by
    refine⟨y1,y2,y',y4,by rw[Fk,hst],iO.bM hop fun i hi=>(nG i).1 hi,hgk,fun i b hi hb=>?_⟩
    have n2:i≠id:=fun e=>by
     have:=(nG id).1 hid;rw[←e,hb]at this;cases this
    rw[Fo i hi,hoth i n2];exact hfr i b hi hb
   rw[←eF]at hgs;refine⟨_,?_,i+1,by rw[hsn];exact hb9 hgs,adK,rfl,?_,?_,?_,?_,?_,?_⟩
   ·omega
   all_goals simp only[go_sem,r0,r3,r5,r10,r11]
  ·have hge:i=l.length:=by have:=adD e;omega
   subst hge;rw[List.take_length]at hS;simp only[go_sem];exact .same (.refl _) (hback hS)
theorem OS(s:aq)(hf:Few s)(h:Heap):ai Tryz.prog 55 [cO s] h fun r h' =>∃y1 y2 y3,r= .agg (stC s y1 y2 y3 (dZ s.roles))∧iO h h' y1 y2 y3 (dZ s.roles) s s.cases.length∧Ab.Sub h h' :=by
 have hst:=vM s;have hsc:∀y1 y2 y3,stC s y1 y2 y3 (dZ s.roles)=stC s y1 y2 y3 (dZ s.roles):=fun _ _ _=>rfl
 have hfc:=hf.cases;have hfg:=hf.log;have hfr:=hf.reviews;have hfn:=hf.notices;obtain⟨tick,cs,rv,nt,ro,⟨pid,pset,palg,ptgt,prules,pkids,pobls⟩,ver⟩:=s;simp only at hfc hfg hfr hfn;rw[hst];simp only[sL,gm,kE,lH,dZ,aY];refine adJ Tryz.func55 35 [.cell 2 63] fun hwf=>?_
 simp only[go_sem];intro i1 h1;simp only[go_sem];intro i2 h2;have n21:=aH h2;have n2:=aB h2;simp only[go_sem];obtain⟨H,eH⟩:∃H,upd (upd h i1 (some (.obj [.i tick,.sl (cs.map cr) .no,.sl (rv.map iU) .no,.sl (nt.map nH) .no,.sl (ro.map eJ) .no,.s pid,.b pset,.i palg,aV ptgt,.sl (prules.map aC) .no,.sl (pkids.map aM) .no,aA pobls,.i ver] 63))) i2 (some (.obj [.i 0,.sl [] .full,.sl [] .full,.sl [] .full,.sl [] .full,.s [],.b false,.i 0,.sl [] .full,.sl [] .full,.sl [] .full,.sl [] .full,.i 0] 63))=H:=⟨_,rfl⟩;have hH:Ab.Sub h H:=aeJ;have g1:H i1=some (.obj [.i tick,.sl (cs.map cr) .no,.sl (rv.map iU) .no,.sl (nt.map nH) .no,.sl (ro.map eJ) .no,.s pid,.b pset,.i palg,aV ptgt,.sl (prules.map aC) .no,.sl (pkids.map aM) .no,aA pobls,.i ver] 63):=afk;have g2:H i2=some (.obj [.i 0,.sl [] .full,.sl [] .full,.sl [] .full,.sl [] .full,.s [],.b false,.i 0,.sl [] .full,.sl [] .full,.sl [] .full,.sl [] .full,.i 0] 63):=afc;rw[eH];clear eH;refine .stage (hm1 i1 (.obj [.i tick,.sl (cs.map cr) .no,.sl (rv.map iU) .no,.sl (nt.map nH) .no,.sl (ro.map eJ) .no,.s pid,.b pset,.i palg,aV ptgt,.sl (prules.map aC) .no,.sl (pkids.map aM) .no,aA pobls,.i ver] 63)) [0,1,3,4,6,7,2,9,5,8] [10,11,12,13,14] (.hm1 g1) adN ?_;simp only[go_sem,gp];refine(wh _ (rv.map iU) H (eS iU 7 (fun _=>rfl) _ _) adL).mono fun z2 H1 ⟨o2,s1⟩=>?_
 refine⟨.hm1 (s1 _ _ g1),?_⟩;simp only[go_sem];refine(wg _ (nt.map nH) H1 (eS nH 3 (fun _=>rfl) _ _) adL).mono fun z3 H2 ⟨o3,s2⟩=>?_
 refine⟨.hm1 (s2 _ _ (s1 _ _ g1)),?_⟩;simp only[go_sem];refine(AS _ (cs.map cr) H2 (eS cr 5 (fun _=>rfl) _ _) adL).mono fun z1 H3 ⟨o1,s3⟩=>?_
 have s03:Ab.Sub H H3:=s1.trans (s2.trans s3);have q1' :=s03 _ _ g1;have q2' :=s03 _ _ g2;refine⟨.hm1 q1',cH,(fun _ _ e=>ad8),?_⟩
 simp only[go_sem,q1',o1.rd.fit,o1.rd.cells,o2.rd.fit,o2.rd.cells,o3.rd.fit,o3.rd.cells];refine⟨fun _ _ e=>ad8,fun _ _ e=>ad8,fun _ _ e=>ad8,?_⟩
 obtain⟨M,eM⟩:∃M,upd H3 i1 (some (.obj [.i tick,z1,z2,z3,.sl (ro.map eJ) .no,.s pid,.b pset,.i palg,aV ptgt,.sl (prules.map aC) .no,.sl (pkids.map aM) .no,aA pobls,.i ver] 63))=M:=⟨_,rfl⟩;have oM:∀q,q≠i1→M q=H3 q:=fun q hq=>by rw[←eM,ag _ _ hq]
 have m1:M i1=some (.obj [.i tick,z1,z2,z3,.sl (ro.map eJ) .no,.s pid,.b pset,.i palg,aV ptgt,.sl (prules.map aC) .no,.sl (pkids.map aM) .no,aA pobls,.i ver] 63):=by rw[←eM,ah]
 have m2:=(oM i2 n21).trans q2';have hM:Ab.Sub h M:=by rw[←eM];exact(hH.trans s03).put h1 _
 have new:∀ {tb:TypeId} {z:AV} {xs:List AV} {n:Nat} {g:Heap},OwE tb g H3 n z xs→Ab.Sub H g→OwE tb h M n z xs:=fun w hg=>(w.less (hH.trans hg)).keep fun id e=>oM id (cK (w.nid e).1 (hg _ _ g1))
 have w1:=new o1 (s1.trans s2);have w2:=new (o2.sub (s2.trans s3)) (.refl _);have w3:=new (o3.sub s3) s1;have a12:apart z1 z2:=(dX o1 (o2.there s2.some)).symm;have a13:apart z1 z3:=(dX o1 (o3.there fun k hk=>hk)).symm
 have a23:apart z2 z3:=dX o3 (o2.there fun k hk=>hk)
 simp only[go_sem,o1.rd.len,adA];rw[eM];have h12:i1≠i2:=n21.symm;refine .intro (fun m ρ G=>∃i:Nat,Ab.Sub M G∧i≤cs.length∧m=cs.length - i∧lk ρ 1=some (.ptr i1 0)∧lk ρ 2=some (.ptr i2 0)∧lk ρ 18=some z1∧lk ρ 19=some (.i cs.length)∧lk ρ 20=some (.i i)) cs.length ?_ ?_
 ·refine⟨0,.refl _,adK,rfl,?_,?_,?_,?_,?_⟩<;>simp only[go_sem]
 ·rintro m ρ G ⟨i,hs,hi,rfl,r1,r2,r18,r19,r20⟩
  have v1:=w1.sub hs;simp only[go_sem,r19,r20];refine .intro (fun e=>?_) (fun e=>?_)
  ·have hlt:i<cs.length:=adH e
   have w1' :IntKind.i64.wrap ((i:Int)+1)=((i+1:Nat):Int):=adY;have hfl:=hfg _ (adF hlt);have hxi:(cs.map cr)[i]'adL=cr cs[i]:=adB ..;simp only[go_sem,r18,r20];refine v1.rd.idx (U:=U) (e:=122) i rfl adL oe adO fun p hp1=>?_
   have hld:=hp1.all (U:=U) (ty:=122) adO (by rw[oe,hxi];rfl) (by simp only[go_sem];rw[hxi];rfl)
   obtain⟨c,ec⟩:∃c,cs[i]=c:=⟨_,rfl⟩;rw[hxi,ec]at hld;rw[ec]at hfl hxi;simp only[cr,nO,gy,sQ]at hld;simp only[go_sem,hld];intro i4 h4;have k1:=hs _ _ m1;have n41:i4≠i1:=cK h4 k1;obtain⟨G4,eG4⟩:∃G4,upd G i4 (some (.obj [.s c.id,.s c.owner,.s c.state,.sl (c.fields.map bO) .no,.sl (c.log.map iQ) .no] 122))=G4:=⟨_,rfl⟩;have sG:Ab.Sub G G4:=ag5;have p1:=sG _ _ k1;have p4:G4 i4=some (.obj [.s c.id,.s c.owner,.s c.state,.sl (c.fields.map bO) .no,.sl (c.log.map iQ) .no] 122):=by rw[←eG4,ah]
   simp only[go_sem];rw[eG4];refine .stage (hm2 i1 (.obj [.i tick,z1,z2,z3,.sl (ro.map eJ) .no,.s pid,.b pset,.i palg,aV ptgt,.sl (prules.map aC) .no,.sl (pkids.map aM) .no,aA pobls,.i ver] 63) i4 (.obj [.s c.id,.s c.owner,.s c.state,.sl (c.fields.map bO) .no,.sl (c.log.map iQ) .no] 122)) [0,1,2,3,4,5,6,7] [8] (.hm2 p1 p4) adN ?_;simp only[go_sem,r1,rN _ _ n41.symm,rO];refine(xq _ (c.log.map iQ) G4 (eS iQ 3 (fun _=>rfl) _ _) adL (bw (fun _=>rfl) _)).pthen ?_
   refine⟨.hm2 p1 p4,?_⟩;simp only[go_sem];obtain⟨id1,hg1,u1⟩:=(v1.sub sG).ow adL;refine u1.idx (U:=U) (e:=122) i rfl adL oe adO ?_;simp only[go_sem];refine⟨cH,(fun _ _ e=>ad8),?_⟩
   have u1' :=u1;obtain⟨cap,rest,ey,hid,hr,hcap,hsz⟩:=u1';have hbd:i*5+5≤(au (cs.map cr)++rest).length:=by
    grind [adE,aZ,adA]
   have e5:List.take (i*5+4) (au (cs.map cr)++rest)++ [.sl (c.log.map iQ) .no]++List.drop (i*5+4+1) (au (cs.map cr)++rest)=au (cs.map cr)++rest:=by
    refine(lJ hsz i adL 4 [.sl (c.log.map iQ) .no] (adz rfl)).trans ?_;rw[ry];rw[List.getElem?_eq_getElem adL,hxi];rfl
   simp only[go_sem,r20,hid];rw[e5,vQ hid];refine⟨adK,(fun _ _ e=>ad8),?_⟩
   simp only[go_sem,w1'];refine⟨_,?_,i+1,hs.trans sG,adK,rfl,?_,?_,?_,?_,?_⟩
   ·omega
   all_goals simp only[go_sem,r1,r2,r18,r19]
  ·have hge:i=cs.length:=by grind
   have k1:=hs _ _ m1;have k2:=hs _ _ m2;have n21' :i2≠i1:=n21;simp only[go_sem,r1,r2,k1,k2];have kp:∀b q,h q=none→M q≠none→q≠i2→upd G i2 b q=M q:=fun b q a c d=>by
    rw[ag _ _ d];cases hh:M q with
    |none=>grind
    |some b=>exact hs _ _ hh
   have ne2:∀ {tb:TypeId} {z:AV} {xs:List AV} {n:Nat},OwE tb h M n z xs→tb≠63→∀q,nid z=some q→q≠i2:=fun w ht q e=>mg (w.nid e).2.2 m2 ht.symm
   refine .mk _ (.refl _) (.refl _) ⟨z1,z2,z3,by simp[stC,gb,aY]<;>rfl,⟨⟨cs.map cr,w1.keep fun q e=>kp _ q (w1.nid e).1 (w1.nid e).2.1 (ne2 w1 adO q e),adR,fun j a b _=>adB ..,fun a b=>absurd b (Nat.lt_irrefl _)⟩,w2.keep fun q e=>kp _ q (w2.nid e).1 (w2.nid e).2.1 (ne2 w2 adO q e),w3.keep fun q e=>kp _ q (w3.nid e).1 (w3.nid e).2.1 (ne2 w3 adO q e),.inl rfl,a12,a13,fun q _ e=>ad8,a23,fun q _ e=>ad8,fun q _ e=>ad8⟩,(hM.trans hs).put n2 _⟩
end Go.Proofs.YtfdgemhnlennbaaGreatDoor
namespace Go.Bf
open Go Go.Ab Go.Proofs.YtfdgemhnlennbaaGreatDoor
def mb(r:ig):List AV:=[.i r.err,aN r.mark,.b r.glass,.i r.val.kind,.i r.val.n,.s r.val.s,.b r.hidden,.i r.at_]
def yj(d:qv):List AV:=opC d.op++ [.i d.version,aN d.mark,.b d.glass,aA d.obls]
def oh:List AV:=[.i 0,.v (.complex .f64 0 0),.b false,.i 0,.i 0,.s [],.b false,.i 0]
def jW(x:aq×ig×qv×Int):AV:=.tup [cO x.1,.agg (mb x.2.1),.agg (yj x.2.2.1),.i x.2.2.2]
theorem A7{cs ds:List aL}(h:ds.map (·.id)=cs.map (·.id))(id:Txt):findD ds id=findD cs id:=by
 have e:∀l:List aL,findD l id=(l.map (·.id)).findIdx fun x=>geB x id:=fun l=>by
  rw[List.findIdx_map];rfl
 rw[e,e,h]
theorem L8(id:Txt):geB id id=true:=by
 have:Op.bytesLess id id=false:=by simpa[lt]using lt_irrefl id
 simp[geB,this]
theorem Ji{s:aq}{o:OpD}(hr:bN s o=0):findD (dR aR s o).cases o.case=findD s.cases o.case:=by
 unfold dR;rw[if_pos hr];unfold doD
 by_cases k1:o.kind=1
 ·simp only[k1,if_true]
  obtain⟨f,ef⟩:∃f,findD s.cases o.case=f:=⟨_,rfl⟩;have hf:f≤s.cases.length:=by rw[←ef];exact List.findIdx_le_length
  rw[ef];refine(List.findIdx_eq adL).2 ⟨?_,fun j hj=>?_⟩
  ·have:((List.take f s.cases++ [jA s ⟨o.case,o.subj,jN,[],[]⟩ o.subj [110,101,119]]++List.drop f s.cases)[f]?)=some (jA s ⟨o.case,o.subj,jN,[],[]⟩ o.subj [110,101,119]):=by
    grind
   rw[(List.getElem_eq_iff _).2 this];exact L8 _
  ·have hj2:j<s.cases.length:=by omega
   have:((List.take f s.cases++ [jA s ⟨o.case,o.subj,jN,[],[]⟩ o.subj [110,101,119]]++List.drop f s.cases)[j]?)=some s.cases[j]:=by
    grind
   rw[(List.getElem_eq_iff _).2 this];have h3:j<s.cases.findIdx fun c=>geB c.id o.case:=by grind [findD]
   simpa using List.not_of_lt_findIdx h3
 ·by_cases k3:o.kind=3
  ·simp only[k3,show¬(3:Int)=1 by decide,if_false,if_true]
   exact A7 (kL (f:=fun c=>jA s {c with fields:=fj c.fields o.field o.val} o.subj [119,114,105,116,101]) (g:=fun c:aL=>c.id) fun c=>rfl) _
  ·by_cases k4:o.kind=4
   ·simp only[k4,show¬(4:Int)=1 by decide,show¬(4:Int)=3 by decide,if_false,if_true]
    exact A7 (kL (f:=fun c=>jA s {c with state:=o.to} o.subj o.to) (g:=fun c:aL=>c.id) fun c=>rfl) _
   grind
theorem OJ{k:Nat}{s:aq}{o:OpD}(h:dD k s)(hr:bN s o=0)(hx:iR (dR aR s o).cases o.case<(dR aR s o).cases.length):findD s.cases o.case=iR (dR aR s o).cases o.case:=by
 rw[←Ji hr];exact Gh (qb o h).asc hx
theorem Kl{t:Txt}(h:(aR t).2.1=0):(aR t).2.2=0:=by
 unfold aR at h⊢;cases hl:pK t with
 |bad e a=>
  rw[hl]at h;simp only at h;have:=(ua hl).1;omega
 |ok ts=>
  simp only[zk]at h⊢
  grind
end Go.Bf
namespace Go.Proofs.YtfdgemhnlennbaaGreatDoor
open Go Go.Ab Go.Bf
theorem Ko(c:aL):cN (cr c)=true:=by
 simp[cr,nO,cN,ic,gy,sQ,bw (f:=bO) (fun _=>rfl),bw (f:=iQ) (fun _=>rfl)]
theorem Si{g h:Heap}(s:aq):Frz g h (cO s) (cO s):=by
 have:=vg (g:=g) (h:=h) (s:=s) (y1:=gm s.cases) (y2:=kE s.reviews) (y3:=lH s.notices) (y4:=dZ s.roles) (.pure (by grind [gm,cN,bw,Ko])) (.pure (by simp only[kE,cN];exact bw (fun _=>rfl) _)) (.pure (by simp only[lH,cN];exact bw (fun _=>rfl) _)) (.pure (by simp only[dZ,cN];exact bw (fun _=>rfl) _))
 exact aer
theorem L6{g h:Heap}(l:List cC)(q:Perm):Frz g h (.sl (l.map bu) q) (aA l):=.sl _ _ _ rfl adK fun i h1 h2 j h3 h4=>by
 refine .pure ?_;have:cN (l.map bu)[i]=true:=ad0;exact nZ this _ adR
theorem Ba{g h:Heap}{x:AV}{S:aq}(r:ig)(d:qv)(e:Int)(a:Frz g h x (cO S))(q:Perm):Frz g h (.tup [x,.agg (mb r),.agg (opC d.op++ [.i d.version,aN d.mark,.b d.glass,.sl (d.obls.map bu) q]),.i e]) (jW (S,r,d,e)):=by
 refine .tup _ _ rfl fun i h1 h2=>?_
 rcases i with _|_|_|_|i
 ·exact a
 ·exact ad4
 ·refine .agg _ _ adV fun j h3 h4=>?_
  rcases j with _|_|_|_|_|_|_|_|_|_|_|_|_|_|_|_|j
  ·exact ad4
  ·exact ad4
  ·exact ad4
  ·exact ad4
  ·exact ad4
  ·exact ad4
  ·exact ad4
  ·exact ad4
  ·exact ad4
  ·exact ad4
  ·exact ad4
  ·exact ad4
  ·exact ad4
  ·exact ad4
  ·exact ad4
  ·exact L6 d.obls q
  ·simp[opC]at h3;omega
 ·exact ad4
 grind
theorem GSt.put{g H:Heap}{k:Nat}{s:aq}{j:Nat}(hG:GSt g H k s j){i:Nat}(hi:i≠k)(hgi:g i≠none)(b:Blk):GSt (upd g i (some b)) (upd H i (some b)) k s j:=by
 obtain⟨y1,y2,y3,y4,hk,ho,hgk,hfr⟩:=hG;refine⟨y1,y2,y3,y4,ael,(ho.more (g:=upd g i (some b)) fun q hq _=>ael).keep fun q hq _=>ag _ _ fun e=>?_,ael,fun q c hq hc=>?_⟩
 ·grind [ah]
 grind [ah,ag]
theorem GSt.at{g H:Heap}{k:Nat}{s:aq}{j:Nat}(hG:GSt g H k s j){i:Nat}{b:Blk}(hi:i≠k)(hb:g i=some b):H i=some b:=by
 obtain⟨_,_,_,_,_,_,_,hfr⟩:=hG
 grind
theorem GSt.sub{f g H:Heap}{k:Nat}{s:aq}{j:Nat}(hG:GSt g H k s j)(hs:Ab.Sub f g)(hk:f k=none):Ab.Sub f H:=fun i b hi=>by
 obtain⟨_,_,_,_,_,_,_,hfr⟩:=hG;exact hfr i b adL (hs i b hi)
theorem GSt.same{g H H' :Heap}{k:Nat}{s:aq}{j:Nat}(hG:GSt g H k s j)(hs:Ab.Sub H H'):GSt g H' k s j:=by
 obtain⟨y1,y2,y3,y4,hk,ho,hgk,hfr⟩:=hG;exact⟨y1,y2,y3,y4,hs _ _ hk,ho.keep fun q _ hne=>by
  cases hh:H q with
  |none=>grind
  |some b=>exact hs _ _ hh,hgk,fun i b hi hb=>hs _ _ (hfr i b hi hb)⟩
theorem rC{s:aq}{pid:Txt}{pset:Bool}{palg:Int}{ptgt:gj}{prules:List cR}{pkids:List bJ}{pobls:List cC}(hpp:s.policy= .mk pid pset palg ptgt prules pkids pobls)(y1 y2 y3 y4:AV):stC s y1 y2 y3 y4= [.i s.tick,y1,y2,y3,y4,.s pid,.b pset,.i palg,.sl (ptgt.map cU) .no,.sl (prules.map aC) .no,.sl (pkids.map aM) .no,.sl (pobls.map bu) .no,.i s.version]:=by
 simp[stC,hpp,gb,aY,aV,aA]
theorem M5(p:bJ):∃a b c d e f g,p= .mk a b c d e f g:=by cases p;simp
theorem pE{k:Nat}(s:aq)(hG:jw k s)(hk:k≤1000)(o:OpD)(ho:mO o)(h:Heap)(he:ja h):ai Tryz.prog 20 [cO s,opA o] h fun r h' =>r=jW (aT s o)∧h' =h:=
 ai.freeze fun g hg _=>by
 replace he:=he.sub hg;obtain⟨pid,pset,palg,ptgt,prules,pkids,pobls,hpp⟩:∃a b c d e f g,s.policy= .mk a b c d e f g:=by cases s.policy;exact⟨_,_,_,_,_,_,_,rfl⟩
 have hst:cO s= .agg [.i s.tick,.sl (s.cases.map cr) .no,.sl (s.reviews.map iU) .no,.sl (s.notices.map nH) .no,.sl (s.roles.map eJ) .no,.s pid,.b pset,.i palg,.sl (ptgt.map cU) .no,.sl (prules.map aC) .no,.sl (pkids.map aM) .no,.sl (pobls.map bu) .no,.i s.version]:=by
  simp[cO,gb,hpp,gm,kE,lH,dZ,aY,aV,aA]
 rw[hst];refine ai.of_wp hU Tryz.func20 rfl adN 131 rfl [.cell 4 63,.cell 5 35,.cell 6 68,.tmp 7] rfl (adz rfl) ?_;refine .one hU hm ?_;simp -implicitDefEqProofs only[go_sem,opA,opC];intro i2 h2;simp -implicitDefEqProofs only[go_sem];obtain⟨H2,e2⟩:∃H2,upd g i2 (some (.obj [.i s.tick,.sl (s.cases.map cr) .no,.sl (s.reviews.map iU) .no,.sl (s.notices.map nH) .no,.sl (s.roles.map eJ) .no,.s pid,.b pset,.i palg,.sl (ptgt.map cU) .no,.sl (prules.map aC) .no,.sl (pkids.map aM) .no,.sl (pobls.map bu) .no,.i s.version] 63))=H2:=⟨_,rfl⟩;have s2:Ab.Sub g H2:=by rw[←e2];exact .aj h2
 have b2:H2 i2=some (.obj [.i s.tick,.sl (s.cases.map cr) .no,.sl (s.reviews.map iU) .no,.sl (s.notices.map nH) .no,.sl (s.roles.map eJ) .no,.s pid,.b pset,.i palg,.sl (ptgt.map cU) .no,.sl (prules.map aC) .no,.sl (pkids.map aM) .no,.sl (pobls.map bu) .no,.i s.version] 63):=by rw[←e2,ah]
 have q2:g i2=none:=h2;have sg:Ab.Sub g H2:=s2;rw[e2];clear e2;intro i3 h3;simp -implicitDefEqProofs only[go_sem];obtain⟨H3,e3⟩:∃H3,upd H2 i3 (some (.obj [.i o.kind,.s o.subj,.s o.case,.s o.field,.s o.to,.i o.val.kind,.i o.val.n,.s o.val.s,.i o.review,.s o.text,.s o.reason,.b o.glass] 39))=H3:=⟨_,rfl⟩;have s3:Ab.Sub H2 H3:=by rw[←e3];exact .aj h3
 have n3_2:i3≠i2:=fun e=>by rw[e,b2]at h3;cases h3
 replace b2:=s3 _ _ b2;have b3:H3 i3=some (.obj [.i o.kind,.s o.subj,.s o.case,.s o.field,.s o.to,.i o.val.kind,.i o.val.n,.s o.val.s,.i o.review,.s o.text,.s o.reason,.b o.glass] 39):=by rw[←e3,ah]
 have q3:g i3=none:=sg.none h3;have sg:Ab.Sub g H3:=sg.trans s3;rw[e3];clear e3;intro i4 h4;simp -implicitDefEqProofs only[go_sem];obtain⟨H4,e4⟩:∃H4,upd H3 i4 (some (.obj [.i 0,.sl [] .full,.sl [] .full,.sl [] .full,.sl [] .full,.s [],.b false,.i 0,.sl [] .full,.sl [] .full,.sl [] .full,.sl [] .full,.i 0] 63))=H4:=⟨_,rfl⟩;have s4:Ab.Sub H3 H4:=by rw[←e4];exact .aj h4
 have n4_2:i4≠i2:=fun e=>by rw[e,b2]at h4;cases h4
 have n4_3:i4≠i3:=fun e=>by rw[e,b3]at h4;cases h4
 replace b2:=s4 _ _ b2;replace b3:=s4 _ _ b3;have b4:H4 i4=some (.obj [.i 0,.sl [] .full,.sl [] .full,.sl [] .full,.sl [] .full,.s [],.b false,.i 0,.sl [] .full,.sl [] .full,.sl [] .full,.sl [] .full,.i 0] 63):=by rw[←e4,ah]
 have q4:g i4=none:=sg.none h4;have sg:Ab.Sub g H4:=sg.trans s4;rw[e4];clear e4;intro i5 h5;simp -implicitDefEqProofs only[go_sem];obtain⟨H5,e5⟩:∃H5,upd H4 i5 (some (.obj [.i 0,.v (.complex .f64 0 0),.b false,.i 0,.i 0,.s [],.b false,.i 0] 35))=H5:=⟨_,rfl⟩;have s5:Ab.Sub H4 H5:=by rw[←e5];exact .aj h5
 have n5_2:i5≠i2:=fun e=>by rw[e,b2]at h5;cases h5
 have n5_3:i5≠i3:=fun e=>by rw[e,b3]at h5;cases h5
 have n5_4:i5≠i4:=fun e=>by rw[e,b4]at h5;cases h5
 replace b2:=s5 _ _ b2;replace b3:=s5 _ _ b3;replace b4:=s5 _ _ b4;have b5:H5 i5=some (.obj [.i 0,.v (.complex .f64 0 0),.b false,.i 0,.i 0,.s [],.b false,.i 0] 35):=by rw[←e5,ah]
 have q5:g i5=none:=sg.none h5;have sg:Ab.Sub g H5:=sg.trans s5;rw[e5];clear e5;intro i6 h6;simp -implicitDefEqProofs only[go_sem];obtain⟨H6,e6⟩:∃H6,upd H5 i6 (some (.obj [.i 0,.s [],.s [],.s [],.s [],.i 0,.i 0,.s [],.i 0,.s [],.s [],.b false,.i 0,.v (.complex .f64 0 0),.b false,.sl [] .full] 68))=H6:=⟨_,rfl⟩;have s6:Ab.Sub H5 H6:=by rw[←e6];exact .aj h6
 have n6_2:i6≠i2:=fun e=>by rw[e,b2]at h6;cases h6
 have n6_3:i6≠i3:=fun e=>by rw[e,b3]at h6;cases h6
 have n6_4:i6≠i4:=fun e=>by rw[e,b4]at h6;cases h6
 have n6_5:i6≠i5:=fun e=>by rw[e,b5]at h6;cases h6
 replace b2:=s6 _ _ b2;replace b3:=s6 _ _ b3;replace b4:=s6 _ _ b4;replace b5:=s6 _ _ b5;have b6:H6 i6=some (.obj [.i 0,.s [],.s [],.s [],.s [],.i 0,.i 0,.s [],.i 0,.s [],.s [],.b false,.i 0,.v (.complex .f64 0 0),.b false,.sl [] .full] 68):=by rw[←e6,ah]
 have q6:g i6=none:=sg.none h6;have sg:Ab.Sub g H6:=sg.trans s6;rw[e6];clear e6;refine WP.Nu hU hm 0 (fun(_:Nat) (ρ:Env) (H' :Heap)=>∃(e a:Int),Ab.Sub g H'∧H' i2=some (.obj [.i s.tick,.sl (s.cases.map cr) .no,.sl (s.reviews.map iU) .no,.sl (s.notices.map nH) .no,.sl (s.roles.map eJ) .no,.s pid,.b pset,.i palg,.sl (ptgt.map cU) .no,.sl (prules.map aC) .no,.sl (pkids.map aM) .no,.sl (pobls.map bu) .no,.i s.version] 63)∧H' i4=some (.obj [.i 0,.sl [] .full,.sl [] .full,.sl [] .full,.sl [] .full,.s [],.b false,.i 0,.sl [] .full,.sl [] .full,.sl [] .full,.sl [] .full,.i 0] 63)∧H' i5=some (.obj [.i 0,.v (.complex .f64 0 0),.b false,.i 0,.i 0,.s [],.b false,.i 0] 35)∧H' i6=some (.obj [.i 0,.s [],.s [],.s [],.s [],.i 0,.i 0,.s [],.i 0,.s [],.s [],.b false,.i 0,.v (.complex .f64 0 0),.b false,.sl [] .full] 68)∧lk ρ 2=some (.ptr i2 0)∧lk ρ 4=some (.ptr i4 0)∧lk ρ 5=some (.ptr i5 0)∧lk ρ 6=some (.ptr i6 0)∧lk ρ 12=some (.i e)∧lk ρ 13=some (.i a)∧aT s o=(s,⟨e,naM,false,an,false,a⟩,xP,e)) rfl ?_ ?_
 ·rintro m ρ H' ⟨e,a,sg',b2,b4,b5,b6,r2,r4,r5,r6,r12,r13,hgd⟩
  refine .vc hU hm ?_;simp -implicitDefEqProofs only[go_sem,r2,r4,r5,r6,r12,r13,b2,b4,b5,b6,ak,n5_4,n5_4.symm,n6_4,n6_4.symm,n6_5,n6_5.symm];refine .mk _ (.refl _) (.refl _) ⟨((sg'.put q4 _).put q5 _).put q6 _,_,?_,rfl⟩;rw[hgd];exact Ba (S:=s) ⟨e,naM,false,an,false,a⟩ xP e (by rw[←hst];exact Si s) .full
 intro _;refine .one hU hm ?_;simp -implicitDefEqProofs only[go_sem];intro i8 h8;simp -implicitDefEqProofs only[go_sem];obtain⟨H8,e8⟩:∃H8,upd H6 i8 (some (.obj [.v (.complex .f64 0 0),.sl [] .full] 107))=H8:=⟨_,rfl⟩;have s8:Ab.Sub H6 H8:=by rw[←e8];exact .aj h8
 have n8_2:i8≠i2:=fun e=>by rw[e,b2]at h8;cases h8
 have n8_3:i8≠i3:=fun e=>by rw[e,b3]at h8;cases h8
 have n8_4:i8≠i4:=fun e=>by rw[e,b4]at h8;cases h8
 have n8_5:i8≠i5:=fun e=>by rw[e,b5]at h8;cases h8
 have n8_6:i8≠i6:=fun e=>by rw[e,b6]at h8;cases h8
 replace b2:=s8 _ _ b2;replace b3:=s8 _ _ b3;replace b4:=s8 _ _ b4;replace b5:=s8 _ _ b5;replace b6:=s8 _ _ b6;have b8:H8 i8=some (.obj [.v (.complex .f64 0 0),.sl [] .full] 107):=by rw[←e8,ah]
 have q8:g i8=none:=sg.none h8;have sg:Ab.Sub g H8:=sg.trans s8;rw[e8];clear e8;refine .one hU hm ?_;simp -implicitDefEqProofs only[go_sem];intro i9 h9;simp -implicitDefEqProofs only[go_sem];obtain⟨H9,e9⟩:∃H9,upd H8 i9 (some (.obj [.i 0,.v (.complex .f64 0 0),.b false,.i 0,.i 0,.s [],.b false,.i 0] 35))=H9:=⟨_,rfl⟩;have s9:Ab.Sub H8 H9:=by rw[←e9];exact .aj h9
 have n9_2:i9≠i2:=fun e=>by rw[e,b2]at h9;cases h9
 have n9_3:i9≠i3:=fun e=>by rw[e,b3]at h9;cases h9
 have n9_4:i9≠i4:=fun e=>by rw[e,b4]at h9;cases h9
 have n9_5:i9≠i5:=fun e=>by rw[e,b5]at h9;cases h9
 have n9_6:i9≠i6:=fun e=>by rw[e,b6]at h9;cases h9
 have n9_8:i9≠i8:=fun e=>by rw[e,b8]at h9;cases h9
 replace b2:=s9 _ _ b2;replace b3:=s9 _ _ b3;replace b4:=s9 _ _ b4;replace b5:=s9 _ _ b5;replace b6:=s9 _ _ b6;replace b8:=s9 _ _ b8;have b9:H9 i9=some (.obj [.i 0,.v (.complex .f64 0 0),.b false,.i 0,.i 0,.s [],.b false,.i 0] 35):=by rw[←e9,ah]
 have q9:g i9=none:=sg.none h9;have sg:Ab.Sub g H9:=sg.trans s9;rw[e9];clear e9;refine .one hU hm ?_;simp -implicitDefEqProofs only[go_sem];intro i10 h10;simp -implicitDefEqProofs only[go_sem];obtain⟨H10,e10⟩:∃H10,upd H9 i10 (some (.obj [.i 0,.sl [] .full,.sl [] .full,.sl [] .full,.sl [] .full,.s [],.b false,.i 0,.sl [] .full,.sl [] .full,.sl [] .full,.sl [] .full,.i 0] 63))=H10:=⟨_,rfl⟩;have s10:Ab.Sub H9 H10:=by rw[←e10];exact .aj h10
 have n10_2:i10≠i2:=fun e=>by rw[e,b2]at h10;cases h10
 have n10_3:i10≠i3:=fun e=>by rw[e,b3]at h10;cases h10
 have n10_4:i10≠i4:=fun e=>by rw[e,b4]at h10;cases h10
 have n10_5:i10≠i5:=fun e=>by rw[e,b5]at h10;cases h10
 have n10_6:i10≠i6:=fun e=>by rw[e,b6]at h10;cases h10
 have n10_8:i10≠i8:=fun e=>by rw[e,b8]at h10;cases h10
 have n10_9:i10≠i9:=fun e=>by rw[e,b9]at h10;cases h10
 replace b2:=s10 _ _ b2;replace b3:=s10 _ _ b3;replace b4:=s10 _ _ b4;replace b5:=s10 _ _ b5;replace b6:=s10 _ _ b6;replace b8:=s10 _ _ b8;replace b9:=s10 _ _ b9;have b10:H10 i10=some (.obj [.i 0,.sl [] .full,.sl [] .full,.sl [] .full,.sl [] .full,.s [],.b false,.i 0,.sl [] .full,.sl [] .full,.sl [] .full,.sl [] .full,.i 0] 63):=by rw[←e10,ah]
 have q10:g i10=none:=sg.none h10;have sg:Ab.Sub g H10:=sg.trans s10;rw[e10];clear e10;refine .one hU hm ?_;simp -implicitDefEqProofs only[go_sem];have hrd:=fun G=>EO (rdS G s) o hG.few ho.2.2.2 hG.Hf
 have hpa:=fun(G:Heap) (hs:Ab.Sub g G)=>zl o.text G (he.sub hs)
 rw[hst]at hrd;simp only[opA,opC]at hrd;refine .one hU hm ?_;simp -implicitDefEqProofs only[go_sem,b2,b3];refine(hrd _).pthen ?_;simp -implicitDefEqProofs only[go_sem];refine .cut (fun ρ H' =>H' =H10∧lk ρ 2=some (.ptr i2 0)∧lk ρ 3=some (.ptr i3 0)∧lk ρ 4=some (.ptr i4 0)∧lk ρ 5=some (.ptr i5 0)∧lk ρ 6=some (.ptr i6 0)∧lk ρ 8=some (.ptr i8 0)∧lk ρ 9=some (.ptr i9 0)∧lk ρ 10=some (.ptr i10 0)∧lk ρ 11=some (.b false)∧lk ρ 12=some (.v (.int .i64 (kj s o).1))∧lk ρ 13=some (.v (.int .i64 (kj s o).2))) ?_ ?_
 ·refine .vc hU hm ?_
  cases dr:(bN s o==0)
  ·have er:bN s o≠0:=by simpa using dr
   have ep:kj s o=(bN s o,0):=by unfold kj;rw[if_neg fun hh=>er hh.1]
   simp -implicitDefEqProofs only[go_sem,dr];refine⟨rfl,?_,?_,?_,?_,?_,?_,?_,?_,?_,?_,?_⟩<;>simp -implicitDefEqProofs only[go_sem,ep]
  have er:bN s o=0:=by simpa using dr
  cases d7:(o.kind==7)
  ·have e7:o.kind≠7:=by simpa using d7
   have ep:kj s o=(bN s o,0):=by unfold kj;rw[if_neg fun hh=>e7 hh.2]
   simp -implicitDefEqProofs only[go_sem,b3,dr,d7];refine⟨rfl,?_,?_,?_,?_,?_,?_,?_,?_,?_,?_,?_⟩<;>simp -implicitDefEqProofs only[go_sem,ep]
  ·have e7:o.kind=7:=by simpa using d7
   have ep:kj s o=((aR o.text).2.1,(aR o.text).2.2):=by unfold kj;rw[if_pos ⟨er,e7⟩]
   simp -implicitDefEqProofs only[go_sem,b3,dr,d7];refine(hpa _ sg).pthen ?_;obtain⟨⟨pp,e,a⟩,epp⟩:∃x,aR o.text=x:=⟨_,rfl⟩;rw[epp]at ep;simp -implicitDefEqProofs only[go_sem,j5,epp];refine⟨rfl,?_,?_,?_,?_,?_,?_,?_,?_,?_,?_,?_⟩<;>simp -implicitDefEqProofs only[go_sem,ep]
 rintro ρ H' ⟨rfl,r2,r3,r4,r5,r6,r8,r9,r10,r11,r12,r13⟩
 refine .one hU hm ?_;cases de:((kj s o).1 !=0)
 case true=>
  have ee:(kj s o).1≠0:=by simpa using de
  simp -implicitDefEqProofs only[go_sem,r2,r4,r5,r6,r12,r13,de];exact⟨0,(kj s o).1,(kj s o).2,sg,b2,b4,b5,b6,rfl,rfl,by unfold aT;rw[if_pos ee]⟩
 have ee:(kj s o).1=0:=by simpa using de
 simp -implicitDefEqProofs only[go_sem,r12,de];obtain⟨hr0,hform,hpar⟩:=uv ee;have hfg:=Lm (I2 hG.todD hform);have hask:=fun G=>RI (rdS G s) o hG.few ho.1
 have hdec:=fun G=>DT s.policy hG.pol (fI s o) hfg G
 have hm6:=Cl (fI s o) s.policy;have hol:=LY (fI s o) hG.nq;have hmk:gS s o=fG (fI s o) s.policy:=rfl;obtain⟨⟨m,ob⟩,em⟩:∃x,fG (fI s o) s.policy=x:=⟨_,rfl⟩;rw[em]at hdec hm6 hol hmk;simp only at hm6 hol;rw[hpp]at hdec;simp only[aM,aV,aA,aY,bL,rsA,aN]at hdec;rw[hst]at hask;simp only[opA,opC,bL]at hask;have p2:=(bD (H:=H') (l:=[i2,i3]) (show i2∈ [i2,i3] by simp)).trans b2
 have p3:=(bD (H:=H') (l:=[i2,i3]) (show i3∈ [i2,i3] by simp)).trans b3
 refine .one hU hm ?_;simp -implicitDefEqProofs only[go_sem];refine .calls (pick H' [i2,i3]) [0,1,2,3,4,5,6,7,8,9,10] bA adN rfl ?_;simp -implicitDefEqProofs only[go_sem,r2,r3,p2,p3];refine(hask _).pthen ?_;refine⟨bA,?_⟩;simp -implicitDefEqProofs only[go_sem];refine(hdec _).pthen ?_;refine⟨bA,?_⟩;simp -implicitDefEqProofs only[go_sem,r8,b8];refine⟨bA.put (by simp[pick,n8_2,n8_3]) _,?_⟩
 obtain⟨H11,eH11⟩:∃H11,upd H' i8 (some (.obj [.v (.complex .f64 (hbit m.1) (hbit m.2)),.sl (ob.map bu) .no] 107))=H11:=⟨_,rfl⟩;replace b2:H11 i2=some (.obj [.i s.tick,.sl (s.cases.map cr) .no,.sl (s.reviews.map iU) .no,.sl (s.notices.map nH) .no,.sl (s.roles.map eJ) .no,.s pid,.b pset,.i palg,.sl (ptgt.map cU) .no,.sl (prules.map aC) .no,.sl (pkids.map aM) .no,.sl (pobls.map bu) .no,.i s.version] 63):=by rw[←eH11,ag _ _ n8_2.symm];exact b2
 replace b3:H11 i3=some (.obj [.i o.kind,.s o.subj,.s o.case,.s o.field,.s o.to,.i o.val.kind,.i o.val.n,.s o.val.s,.i o.review,.s o.text,.s o.reason,.b o.glass] 39):=by rw[←eH11,ag _ _ n8_3.symm];exact b3
 replace b4:H11 i4=some (.obj [.i 0,.sl [] .full,.sl [] .full,.sl [] .full,.sl [] .full,.s [],.b false,.i 0,.sl [] .full,.sl [] .full,.sl [] .full,.sl [] .full,.i 0] 63):=by rw[←eH11,ag _ _ n8_4.symm];exact b4
 replace b5:H11 i5=some (.obj [.i 0,.v (.complex .f64 0 0),.b false,.i 0,.i 0,.s [],.b false,.i 0] 35):=by rw[←eH11,ag _ _ n8_5.symm];exact b5
 replace b6:H11 i6=some (.obj [.i 0,.s [],.s [],.s [],.s [],.i 0,.i 0,.s [],.i 0,.s [],.s [],.b false,.i 0,.v (.complex .f64 0 0),.b false,.sl [] .full] 68):=by rw[←eH11,ag _ _ n8_6.symm];exact b6
 replace b9:H11 i9=some (.obj [.i 0,.v (.complex .f64 0 0),.b false,.i 0,.i 0,.s [],.b false,.i 0] 35):=by rw[←eH11,ag _ _ n9_8];exact b9
 replace b10:H11 i10=some (.obj [.i 0,.sl [] .full,.sl [] .full,.sl [] .full,.sl [] .full,.s [],.b false,.i 0,.sl [] .full,.sl [] .full,.sl [] .full,.sl [] .full,.i 0] 63):=by rw[←eH11,ag _ _ n10_8];exact b10
 replace b8:H11 i8=some (.obj [.v (.complex .f64 (hbit m.1) (hbit m.2)),.sl (ob.map bu) .no] 107):=by rw[←eH11,ah]
 replace sg:Ab.Sub g H11:=by rw[←eH11];exact sg.put q8 _
 rw[eH11];clear eH11;have hbr:=fun G=>I5 s o m hm6.m9 (by have:=hG.nr;omega) (by have:=hG.roles;omega) hG.tick hG.ticks G
 rw[hst]at hbr;simp only[opA,opC,aN]at hbr;obtain⟨gl,egl⟩:∃gl,tE s o m=gl:=⟨_,rfl⟩;have hgl:fJ s o=gl:=by unfold fJ;rw[hmk];exact egl
 rw[egl]at hbr;have p2:=(bD (H:=H11) (l:=[i2,i3,i8]) (show i2∈ [i2,i3,i8] by simp)).trans b2
 have p3:=(bD (H:=H11) (l:=[i2,i3,i8]) (show i3∈ [i2,i3,i8] by simp)).trans b3
 have p8:=(bD (H:=H11) (l:=[i2,i3,i8]) (show i8∈ [i2,i3,i8] by simp)).trans b8
 refine .one hU hm ?_;simp -implicitDefEqProofs only[go_sem];refine .stage (pick H11 [i2,i3,i8]) [0,1,2,3,4,5,7,6] [8,9,10] bA adN ?_;simp -implicitDefEqProofs only[go_sem,r2,r3,r8,r9,p2,p3,p8];refine(hbr _).pthen ?_;refine⟨bA,cH,fun _ _ e=>ad8,?_⟩
 simp -implicitDefEqProofs only[go_sem,r9,b9];refine⟨fun _ _ e=>ad8,fun _ _ e=>ad8,?_⟩
 obtain⟨H12,eH12⟩:∃H12,upd H11 i9 (some (.obj [.i 0,.v (.complex .f64 (hbit m.1) (hbit m.2)),.b gl,.i 0,.i 0,.s [],.b false,.i 0] 35))=H12:=⟨_,rfl⟩;replace b2:H12 i2=some (.obj [.i s.tick,.sl (s.cases.map cr) .no,.sl (s.reviews.map iU) .no,.sl (s.notices.map nH) .no,.sl (s.roles.map eJ) .no,.s pid,.b pset,.i palg,.sl (ptgt.map cU) .no,.sl (prules.map aC) .no,.sl (pkids.map aM) .no,.sl (pobls.map bu) .no,.i s.version] 63):=by rw[←eH12,ag _ _ n9_2.symm];exact b2
 replace b3:H12 i3=some (.obj [.i o.kind,.s o.subj,.s o.case,.s o.field,.s o.to,.i o.val.kind,.i o.val.n,.s o.val.s,.i o.review,.s o.text,.s o.reason,.b o.glass] 39):=by rw[←eH12,ag _ _ n9_3.symm];exact b3
 replace b4:H12 i4=some (.obj [.i 0,.sl [] .full,.sl [] .full,.sl [] .full,.sl [] .full,.s [],.b false,.i 0,.sl [] .full,.sl [] .full,.sl [] .full,.sl [] .full,.i 0] 63):=by rw[←eH12,ag _ _ n9_4.symm];exact b4
 replace b5:H12 i5=some (.obj [.i 0,.v (.complex .f64 0 0),.b false,.i 0,.i 0,.s [],.b false,.i 0] 35):=by rw[←eH12,ag _ _ n9_5.symm];exact b5
 replace b6:H12 i6=some (.obj [.i 0,.s [],.s [],.s [],.s [],.i 0,.i 0,.s [],.i 0,.s [],.s [],.b false,.i 0,.v (.complex .f64 0 0),.b false,.sl [] .full] 68):=by rw[←eH12,ag _ _ n9_6.symm];exact b6
 replace b8:H12 i8=some (.obj [.v (.complex .f64 (hbit m.1) (hbit m.2)),.sl (ob.map bu) .no] 107):=by rw[←eH12,ag _ _ n9_8.symm];exact b8
 replace b10:H12 i10=some (.obj [.i 0,.sl [] .full,.sl [] .full,.sl [] .full,.sl [] .full,.s [],.b false,.i 0,.sl [] .full,.sl [] .full,.sl [] .full,.sl [] .full,.i 0] 63):=by rw[←eH12,ag _ _ n10_9];exact b10
 replace b9:H12 i9=some (.obj [.i 0,.v (.complex .f64 (hbit m.1) (hbit m.2)),.b gl,.i 0,.i 0,.s [],.b false,.i 0] 35):=by rw[←eH12,ah]
 replace sg:Ab.Sub g H12:=by rw[←eH12];exact sg.put q9 _
 rw[eH12];clear eH12;obtain⟨dn,edn⟩:∃dn,(decide (m=bf)||gl)=dn:=⟨_,rfl⟩
 have hdn:tH s o=dn:=by unfold tH;rw[hmk,hgl];exact edn
 have pe:=(nb hm6.m9).pe;refine .cut (fun ρ H' =>H' =H12∧lk ρ 2=some (.ptr i2 0)∧lk ρ 3=some (.ptr i3 0)∧lk ρ 4=some (.ptr i4 0)∧lk ρ 5=some (.ptr i5 0)∧lk ρ 6=some (.ptr i6 0)∧lk ρ 8=some (.ptr i8 0)∧lk ρ 9=some (.ptr i9 0)∧lk ρ 10=some (.ptr i10 0)∧lk ρ 11=some (.b dn)∧lk ρ 13=some (.v (.int .i64 (kj s o).2))) ?_ ?_
 ·refine .vc hU hm ?_
  cases dp:(m==bf)
  ·have e1:decide (m=bf)=false:=decide_eq_false (by simpa using dp)
   rw[e1,Bool.false_or]at edn;simp -implicitDefEqProofs only[go_sem,r8,r9,b8,b9,pe,dp];refine⟨rfl,?_,?_,?_,?_,?_,?_,?_,?_,?_,?_⟩<;>simp -implicitDefEqProofs only[go_sem,r2,r3,r4,r5,r6,r8,r9,r10,r13,edn]
  ·have e1:decide (m=bf)=true:=decide_eq_true (by simpa using dp)
   rw[e1,Bool.true_or]at edn;simp -implicitDefEqProofs only[go_sem,r8,b8,pe,dp];refine⟨rfl,?_,?_,?_,?_,?_,?_,?_,?_,?_,?_⟩<;>simp -implicitDefEqProofs only[go_sem,r2,r3,r4,r5,r6,r8,r9,r10,r13,edn]
 clear r2 r3 r4 r5 r6 r8 r9 r10 r11 r12 r13
 rintro ρ H' ⟨rfl,r2,r3,r4,r5,r6,r8,r9,r10,r11,r13⟩
 have how:=fun G=>OS s hG.few G
 rw[hst]at how;refine .one hU hm ?_;simp -implicitDefEqProofs only[go_sem,r2,b2];refine(how _).mono fun r H13 ⟨y1,y2,y3,er,hown,hs13⟩=>?_
 subst er;rw[rC hpp];simp only[dZ];simp -implicitDefEqProofs only[go_sem,r10,hs13 _ _ b10];obtain⟨H14,e14⟩:∃H14,upd H13 i10 (some (.obj [.i s.tick,y1,y2,y3,.sl (s.roles.map eJ) .no,.s pid,.b pset,.i palg,.sl (ptgt.map cU) .no,.sl (prules.map aC) .no,.sl (pkids.map aM) .no,.sl (pobls.map bu) .no,.i s.version] 63))=H14:=⟨_,rfl⟩;have hS:GSt H' H14 i10 s s.cases.length:=⟨y1,y2,y3,dZ s.roles,by rw[←e14,ah,rC hpp];rfl,hown.keep (fun q hq _=>by rw[←e14];exact ag _ _ fun e=>by rw[e,b10]at hq;cases hq),by rw[b10];simp,fun i b hi hb=>by rw[←e14,ag _ _ hi];exact hs13 _ _ hb⟩
 rw[e14];clear e14;have sGB:=sg;have hroom:s.reviews.length≤1000:=hG.nrev;refine .cut (fun ρ H2=>GSt H' H2 i10 (if gl=true then cc s o o.reason else s) s.cases.length∧lk ρ 2=some (.ptr i2 0)∧lk ρ 3=some (.ptr i3 0)∧lk ρ 4=some (.ptr i4 0)∧lk ρ 5=some (.ptr i5 0)∧lk ρ 6=some (.ptr i6 0)∧lk ρ 8=some (.ptr i8 0)∧lk ρ 9=some (.ptr i9 0)∧lk ρ 10=some (.ptr i10 0)∧lk ρ 11=some (.b dn)∧lk ρ 13=some (.v (.int .i64 (kj s o).2))) ?_ ?_
 ·refine .vc hU hm ?_
  have c9:=hS.at n10_9.symm b9;have c3:=hS.at n10_3.symm b3;have hop:=En hS o o.reason ho.1 adK;simp only[opA,opC]at hop;cases gl
  ·simp -implicitDefEqProofs only[go_sem,r9,c9]
   refine⟨hS,?_,?_,?_,?_,?_,?_,?_,?_,?_,?_⟩<;>simp -implicitDefEqProofs only[go_sem,r2,r3,r4,r5,r6,r8,r9,r10,r11,r13]
  ·simp -implicitDefEqProofs only[go_sem,r3,r9,r10,c9,c3]
   refine hop.mono fun r H3 h3=>?_
   simp -implicitDefEqProofs only[go_sem];refine⟨h3,?_,?_,?_,?_,?_,?_,?_,?_,?_,?_⟩<;>simp -implicitDefEqProofs only[go_sem,r2,r3,r4,r5,r6,r8,r9,r10,r11,r13]
 clear hS r2 r3 r4 r5 r6 r8 r9 r10 r11 r13
 rintro ρ H2 ⟨hS,r2,r3,r4,r5,r6,r8,r9,r10,r11,r13⟩
 have hbd:cY s o=dG (if dn=true then dR aR (if gl=true then cc s o o.reason else s) o else(if gl=true then cc s o o.reason else s)) o ob dn:=by
  unfold cY;rw[hgl,hdn,hmk]
 have hO1:dD k (if gl=true then cc s o o.reason else s):=by
  split
  ·exact CF o _ hG.todD (by have:=hG.nr;omega)
  ·exact hG.todD
 have hc1:(if gl=true then cc s o o.reason else s).cases=s.cases:=by split<;>rfl
 have hp1:(if gl=true then cc s o o.reason else s).policy= .mk pid pset palg ptgt prules pkids pobls:=by split<;>exact hpp
 have hg1:sj 999 (if gl=true then cc s o o.reason else s):=by
  have h1:=hG.nr;have h2:=hG.nn;have h3:=fun c hc=>(hG.case c hc).log2
  split
  ·exact⟨fun c hc=>by have:=h3 c hc;omega,by simp only[cc,adE,List.length_singleton];omega,by simp only[cc];omega⟩
  ·exact⟨fun c hc=>by have:=h3 c hc;omega,adK,adK⟩
 have hr1:bN (if gl=true then cc s o o.reason else s) o=0:=by
  split
  ·rename_i hgt
   have hgo:=yD hform (DH (hgl.trans hgt));rw[←hr0];unfold bN;have k5:o.kind≠5:=adK;have k6:o.kind≠6:=adK;have k8:o.kind≠8:=adK;simp only[k5,k6,k8,if_false];rfl
  ·exact hr0
 obtain⟨s1,es1⟩:∃s1,(if gl=true then cc s o o.reason else s)=s1:=⟨_,rfl⟩
 rw[es1]at hS hbd hO1 hc1 hp1 hg1 hr1;have hre:pW s o=⟨if dn=true then 0 else 12,m,gl,if(dn && o.kind==2 && !jX ob o.field)=true then eO (bz s.cases o.case).fields o.field else an,dn && o.kind==2 && jX ob o.field,0⟩:=by
  unfold pW;rw[hgl,hdn,hmk]
 have hve:=hO1.ver;have b9n:H' i9≠none:=by rw[b9];simp
 refine .cut (fun ρ H3=>lk ρ 2=some (.ptr i2 0)∧lk ρ 3=some (.ptr i3 0)∧lk ρ 4=some (.ptr i4 0)∧lk ρ 5=some (.ptr i5 0)∧lk ρ 6=some (.ptr i6 0)∧lk ρ 8=some (.ptr i8 0)∧lk ρ 9=some (.ptr i9 0)∧lk ρ 10=some (.ptr i10 0)∧lk ρ 11=some (.b dn)∧lk ρ 13=some (.v (.int .i64 (kj s o).2))∧∃(GB:Heap) (j:Nat),GSt GB H3 i10 (if dn=true then dR aR s1 o else s1) j∧Ab.Sub g GB∧(dn=true→iR (if dn=true then dR aR s1 o else s1).cases o.case<(if dn=true then dR aR s1 o else s1).cases.length→o.kind≠6→j=iR (if dn=true then dR aR s1 o else s1).cases o.case)∧GB i2=some (.obj [.i s.tick,.sl (s.cases.map cr) .no,.sl (s.reviews.map iU) .no,.sl (s.notices.map nH) .no,.sl (s.roles.map eJ) .no,.s pid,.b pset,.i palg,.sl (ptgt.map cU) .no,.sl (prules.map aC) .no,.sl (pkids.map aM) .no,.sl (pobls.map bu) .no,.i s.version] 63)∧GB i3=some (.obj [.i o.kind,.s o.subj,.s o.case,.s o.field,.s o.to,.i o.val.kind,.i o.val.n,.s o.val.s,.i o.review,.s o.text,.s o.reason,.b o.glass] 39)∧GB i4=some (.obj [.i 0,.sl [] .full,.sl [] .full,.sl [] .full,.sl [] .full,.s [],.b false,.i 0,.sl [] .full,.sl [] .full,.sl [] .full,.sl [] .full,.i 0] 63)∧GB i5=some (.obj [.i 0,.v (.complex .f64 0 0),.b false,.i 0,.i 0,.s [],.b false,.i 0] 35)∧GB i6=some (.obj [.i 0,.s [],.s [],.s [],.s [],.i 0,.i 0,.s [],.i 0,.s [],.s [],.b false,.i 0,.v (.complex .f64 0 0),.b false,.sl [] .full] 68)∧GB i8=some (.obj [.v (.complex .f64 (hbit m.1) (hbit m.2)),.sl (ob.map bu) .no] 107)∧GB i9=some (.obj [.i (if dn=true then 0 else 12),.v (.complex .f64 (hbit m.1) (hbit m.2)),.b gl,.v (.int .i64 (if(dn && o.kind==2 && !jX ob o.field)=true then eO (bz s.cases o.case).fields o.field else an).kind),.v (.int .i64 (if(dn && o.kind==2 && !jX ob o.field)=true then eO (bz s.cases o.case).fields o.field else an).n),.s (if(dn && o.kind==2 && !jX ob o.field)=true then eO (bz s.cases o.case).fields o.field else an).s,.b (dn && o.kind==2 && jX ob o.field),.i 0] 35)) ?_ ?_
 ·refine .vc hU hm ?_
  have c9:=hS.at n10_9.symm b9;have c3:=hS.at n10_3.symm b3;have c8:=hS.at n10_8.symm b8;have c2:=hS.at n10_2.symm b2;cases dn
  ·simp -implicitDefEqProofs only[go_sem,r9,r11,c9]
   refine⟨?_,?_,?_,?_,?_,?_,?_,?_,?_,?_,upd H' i9 _,s.cases.length,hS.put n10_9.symm b9n _,sGB.put q9 _,fun e=>ad8,agX,agY,agZ,ag0,ag1,ag2,ah ..⟩<;>simp -implicitDefEqProofs only[go_sem,r2,r3,r4,r5,r6,r8,r9,r10,r11,r13]
  ·obtain⟨z1,z2,z3,z4,hk10,hrd⟩:=hS.rd
   have sH2:Ab.Sub g H2:=hS.sub sGB q10;have hdo:=LR hrd o hO1.few hO1.nq ho.2.2.2 hO1.Hf ⟨hve.1,adK⟩ (he.sub sH2);have hjj:=fun hx (_:o.kind≠6)=>OJ (o:=o) hO1 hr1 hx
   rw[rC hp1]at hk10 hdo;simp only[opA,opC]at hdo;simp -implicitDefEqProofs only[go_sem,r3,r10,r11,hk10,c3];refine hdo.mono fun r H3 ⟨hs3,j,hOS,hj⟩=>?_
   have hj:=hj hr1;obtain⟨x1,x2,x3,x4,er,hOP⟩:=hOS.parts;subst er;obtain⟨did,dset,dalg,dtgt,drules,dkids,dobls,hpd⟩:=M5 (dR aR s1 o).policy;rw[rC hpd];have k10:=hs3 _ _ hk10;obtain⟨H4,e4⟩:∃H4,upd H3 i10 (some (.obj [.v (.int .i64 (dR aR s1 o).tick),x1,x2,x3,x4,.s did,.b dset,.i dalg,.sl (dtgt.map cU) .no,.sl (drules.map aC) .no,.sl (dkids.map aM) .no,.sl (dobls.map bu) .no,.v (.int .i64 (dR aR s1 o).version)] 63))=H4:=⟨_,rfl⟩;have hS4:GSt H' H4 i10 (dR aR s1 o) j:=by
    obtain⟨_,_,_,_,_,_,hgk,hfr⟩:=hS;refine⟨x1,x2,x3,x4,by rw[←e4,ah,rC hpd],(hOP.keep fun q hq _=>by rw[←e4];exact ag _ _ fun e=>by rw[e,hk10]at hq;cases hq).bM fun q hq=>?_,hgk,fun i b hi hb=>by rw[←e4,ag _ _ hi];exact hs3 _ _ (hfr i b hi hb)⟩
    cases hh:H' q with
    |none=>rfl
    |some b=>
     by_cases e:q=i10
     ·rw[e,hk10]at hq;cases hq
     ·rw[hfr q b e hh]at hq;cases hq
   have d9:=hS4.at n10_9.symm b9;have d3:=hS4.at n10_3.symm b3;have d8:=hS4.at n10_8.symm b8;have d2:=hS4.at n10_2.symm b2;have hjx:true=true→iR (dR aR s1 o).cases o.case<(dR aR s1 o).cases.length→o.kind≠6→j=iR (dR aR s1 o).cases o.case:=fun _ hx h6=>hj.trans (hjj hx h6)
   have hhi:=fun G=>Mb ob adK o.field G
   simp only[aA]at hhi;have hca:=fun G=>Cf (rdS G s) o.case hG.few
   rw[hst]at hca;have hcf:(bz s.cases o.case).fields.length≤1000000000:=by
    unfold bz;split
    ·by_cases hlt:findD s.cases o.case<s.cases.length
     ·rw[show s.cases.getD (findD s.cases o.case) oY=s.cases[findD s.cases o.case] by simp[List.getD,List.getElem?_eq_getElem hlt]]
      have:=(hG.case _ (adF hlt)).nfields;omega
     ·rw[show s.cases.getD (findD s.cases o.case) oY=oY by simp[List.getD,List.getElem?_eq_none (Nat.le_of_not_lt hlt)]]
      exact agR
    ·exact agR
   have hfd:=fun G=>Dy (rdC G (bz s.cases o.case)) o.field hcf
   simp only[cr,nO,gy,sQ]at hca hfd;simp -implicitDefEqProofs only[go_sem,r3,r10,k10];rw[e4];clear e4;cases d7:(o.kind==2)
   ·simp -implicitDefEqProofs only[go_sem,r3,r9,d9,d3,d7,n9_3.symm]
    refine⟨?_,?_,?_,?_,?_,?_,?_,?_,?_,?_,upd H' i9 _,j,hS4.put n10_9.symm b9n _,sGB.put q9 _,(fun _=>hjx rfl),agX,agY,agZ,ag0,ag1,ag2,ah ..⟩<;>simp -implicitDefEqProofs only[go_sem,r2,r3,r4,r5,r6,r8,r9,r10,r11,r13]
   ·simp -implicitDefEqProofs only[go_sem,r3,r8,d3,d8,d7]
    refine(hhi _).pthen ?_;cases hh:jX ob o.field
    ·simp -implicitDefEqProofs only[go_sem,r2,r3,r9,d9,d3,d2,d7,n9_2.symm,n9_3.symm]
     refine(hca _).pthen ?_;simp -implicitDefEqProofs only[go_sem];intro i14 h14;have t9:i14≠i9:=fun e=>by rw[e,ah]at h14;cases h14
     have t3:i14≠i3:=fun e=>by rw[e,ag _ _ n9_3.symm,d3]at h14;cases h14
     simp -implicitDefEqProofs only[go_sem,r3,d3,n9_3.symm,t3.symm];refine(hfd _).pthen ?_;simp -implicitDefEqProofs only[go_sem,r9,t9.symm,aP];refine⟨?_,?_,?_,?_,?_,?_,?_,?_,?_,?_,upd (upd H' i9 _) i9 _,j,((hS4.put n10_9.symm b9n _).same (.aj h14)).put n10_9.symm (by rw[ah];simp) _,(sGB.put q9 _).put q9 _,(fun _=>hjx rfl),by rw[ag _ _ n9_2.symm,ag _ _ n9_2.symm];exact b2,by rw[ag _ _ n9_3.symm,ag _ _ n9_3.symm];exact b3,by rw[ag _ _ n9_4.symm,ag _ _ n9_4.symm];exact b4,by rw[ag _ _ n9_5.symm,ag _ _ n9_5.symm];exact b5,by rw[ag _ _ n9_6.symm,ag _ _ n9_6.symm];exact b6,by rw[ag _ _ n9_8.symm,ag _ _ n9_8.symm];exact b8,ah ..⟩<;>simp -implicitDefEqProofs only[go_sem,r2,r3,r4,r5,r6,r8,r9,r10,r11,r13]
    ·simp -implicitDefEqProofs only[go_sem,r3,r9,d9,d3,d7,n9_3.symm]
     refine⟨?_,?_,?_,?_,?_,?_,?_,?_,?_,?_,upd H' i9 _,j,hS4.put n10_9.symm b9n _,sGB.put q9 _,(fun _=>hjx rfl),agX,agY,agZ,ag0,ag1,ag2,ah ..⟩<;>simp -implicitDefEqProofs only[go_sem,r2,r3,r4,r5,r6,r8,r9,r10,r11,r13]
 clear hS b2 b3 b4 b5 b6 b8 b9 b10 r2 r3 r4 r5 r6 r8 r9 r10 r11 r13
 rintro ρ H3 ⟨r2,r3,r4,r5,r6,r8,r9,r10,r11,r13,GB,j,hS,sG2,hjx,b2,b3,b4,b5,b6,b8,b9⟩
 have hO2:dD (k+1) (if dn=true then dR aR s1 o else s1):=by
  split
  ·exact qb o hO1
  ·exact {hO1 with ver:=⟨hO1.ver.1,by have:=hO1.ver.2;omega⟩}
 obtain⟨s2,es2⟩:∃s2,(if dn=true then dR aR s1 o else s1)=s2:=⟨_,rfl⟩
 rw[es2]at hS hjx hbd hO2;have hdu:=FO hS o ho.1 ob adK dn (by have:=hO2.ncases;omega) ⟨fun c hc=>by have:=(hO2.case c hc).log2;omega,hO2.nrev,hO2.nnot⟩ hjx
 rw[←hbd]at hdu;simp only[opA,opC,aA]at hdu;have c3:=hS.at n10_3.symm b3;have c8:=hS.at n10_8.symm b8;refine .one hU hm ?_;simp -implicitDefEqProofs only[go_sem,r3,r8,r10,r11,c3,c8];refine hdu.mono fun r H4 h4=>?_
 simp -implicitDefEqProofs only[go_sem];clear c3 c8 hdu hS;have hat:(kj s o).2=0:=by
  unfold kj at ee⊢;split
  ·rename_i hc;rw[if_pos hc]at ee;exact Kl ee
  ·rfl
 have hbl:(cY s o).cases.length≤1000000:=by
  rw[hbd,ym];have:=hO2.ncases;omega
 obtain⟨x1,x2,x3,x4,k10,hOP,_,_⟩:=id h4;have hov:=MV hOP.rd hbl;obtain⟨did,dset,dalg,dtgt,drules,dkids,dobls,hpd⟩:=M5 (cY s o).policy;have hfz:∀H5,(∀q,GB q=none→H5 q=H4 q)→Frz g H5 (.agg (stC (cY s o) x1 x2 x3 x4)) (cO (cY s o)):=fun H5 hq=>((hOP.keep fun q hg _=>hq q hg).bM fun q hg=>by
  cases hh:g q with
  |none=>rfl
  |some b=>rw[sG2 _ _ hh]at hg;cases hg).frz
 rw[rC hpd]at k10 hov hfz;have c2:=h4.at n10_2.symm b2;have c3:=h4.at n10_3.symm b3;have c4:=h4.at n10_4.symm b4;have c5:=h4.at n10_5.symm b5;have c6:=h4.at n10_6.symm b6;have c8:=h4.at n10_8.symm b8;have c9:=h4.at n10_9.symm b9;have sg4:Ab.Sub g H4:=h4.sub sG2 q10;refine .one hU hm ?_;simp -implicitDefEqProofs only[go_sem,r10,k10];refine hov.pthen ?_;cases dov:sr (cY s o)
 case true=>
  simp -implicitDefEqProofs only[go_sem,r2,r4,r5,r6,r13];exact⟨0,6,0,sg4,c2,c4,c5,c6,rfl,by rw[hat],by unfold aT;rw[if_neg (by rw[ee];simp),if_pos dov]⟩
 have hgd:aT s o=(cY s o,⟨if dn=true then 0 else 12,m,gl,if(dn && o.kind==2 && !jX ob o.field)=true then eO (bz s.cases o.case).fields o.field else an,dn && o.kind==2 && jX ob o.field,0⟩,⟨o,s.version,m,gl,ob⟩,0):=by
  unfold aT;rw[if_neg (by rw[ee];simp),if_neg (by rw[dov];decide),hre,hmk,hgl]
 simp -implicitDefEqProofs only[go_sem];have p2:=(bD (H:=H4) (l:=[i2,i3,i8,i9,i10]) (show i2∈ [i2,i3,i8,i9,i10] by simp)).trans c2
 have p3:=(bD (H:=H4) (l:=[i2,i3,i8,i9,i10]) (show i3∈ [i2,i3,i8,i9,i10] by simp)).trans c3
 have p8:=(bD (H:=H4) (l:=[i2,i3,i8,i9,i10]) (show i8∈ [i2,i3,i8,i9,i10] by simp)).trans c8
 have p9:=(bD (H:=H4) (l:=[i2,i3,i8,i9,i10]) (show i9∈ [i2,i3,i8,i9,i10] by simp)).trans c9
 have p10:=(bD (H:=H4) (l:=[i2,i3,i8,i9,i10]) (show i10∈ [i2,i3,i8,i9,i10] by simp)).trans k10
 have t4:pick H4 [i2,i3,i8,i9,i10] i4=none:=by simp[pick,n4_2,n4_3,n8_4.symm,n9_4.symm,n10_4.symm]
 have t5:pick H4 [i2,i3,i8,i9,i10] i5=none:=by simp[pick,n5_2,n5_3,n8_5.symm,n9_5.symm,n10_5.symm]
 have t6:pick H4 [i2,i3,i8,i9,i10] i6=none:=by simp[pick,n6_2,n6_3,n8_6.symm,n9_6.symm,n10_6.symm]
 refine .one hU hm ?_;simp -implicitDefEqProofs only[go_sem];refine .calls (pick H4 [i2,i3,i8,i9,i10]) [0,1,2,3,4,5,6,7,8,9,10,11,12,13,14,15] bA adN rfl ?_;simp -implicitDefEqProofs only[go_sem,r2,r3,r4,r5,r6,r8,r9,r10,p2,p3,p8,p9,p10,c4,c5,c6,n5_4,n5_4.symm,n6_4,n6_4.symm,n6_5,n6_5.symm];refine⟨bA.put t4 _,(bA.put t4 _).put t5 _,((bA.put t4 _).put t5 _).put t6 _,?_⟩;refine .mk _ (.refl _) (.refl _) ⟨((sg4.put q4 _).put q5 _).put q6 _,_,?_,rfl⟩;rw[hgd,←rC hpd];exact Ba (S:=cY s o) ⟨if dn=true then 0 else 12,m,gl,if(dn && o.kind==2 && !jX ob o.field)=true then eO (bz s.cases o.case).fields o.field else an,dn && o.kind==2 && jX ob o.field,0⟩ ⟨o,s.version,m,gl,ob⟩ 0 (by
  rw[rC hpd];exact hfz _ fun q hq=>by
   have x6:q≠i6:=fun e=>by rw[e,b6]at hq;cases hq
   have x5:q≠i5:=fun e=>by rw[e,b5]at hq;cases hq
   have x4:q≠i4:=fun e=>by rw[e,b4]at hq;cases hq
   rw[ag _ _ x6,ag _ _ x5,ag _ _ x4]) .no
end Go.Proofs.YtfdgemhnlennbaaGreatDoor
namespace Go.Bf
open Go Go.Ab
def cG(s:Txt):Txt×Txt:=(s.takeWhile (fun c=> !(c==32)),(s.dropWhile (fun c=> !(c==32))).drop 1)
theorem index_none:∀s:Txt,Lib.indexByte s 32= -1→s.takeWhile (fun c=> !(c==32))=s∧s.dropWhile (fun c=> !(c==32))= []
 | [],_=>adR
 |b::l,h=>by
  unfold Lib.indexByte at h
  by_cases e:(b==32)=true
  ·grind
  ·rw[if_neg e]at h
   by_cases e1:(Lib.indexByte l 32== -1)=true
   ·have:=index_none l adL
    simp[List.takeWhile,List.dropWhile,e,this]
   ·rw[if_neg e1]at h
    have:=index_ge l
    grind
where
 index_ge:∀l:Txt, -1≤Lib.indexByte l 32
  | []=>adO
  |b::l=>by
   have:=index_ge l;unfold Lib.indexByte
   grind
theorem yM:∀s:Txt,Lib.indexByte s 32≠ -1→∃i:Nat,Lib.indexByte s 32=i∧i<s.length∧s.take i=s.takeWhile (fun c=> !(c==32))∧s.drop (i+1)=(s.dropWhile (fun c=> !(c==32))).drop 1
 | [],h=>(h rfl).elim
 |b::l,h=>by
  unfold Lib.indexByte at h⊢
  by_cases e:(b==32)=true
  ·rw[if_pos e]
   exact⟨0,rfl,adR,ahD,ahD⟩
  ·rw[if_neg e]at h⊢
   by_cases e1:(Lib.indexByte l 32== -1)=true
   ·grind
   ·rw[if_neg e1]
    obtain⟨i,h1,h2,h3,h4⟩:=yM l adL
    grind [List.takeWhile,List.dropWhile]
def fV(s:Txt):Int:=if s= []∨9<s.length∨s.head? =some 48∨s.all dgt=false then 0 else(kH s:Int)
def wM:Nat→Nat→Txt→Int
 |0,_,_=>0
 |f+1,k,w=>if cy (k:Int)==w then(k:Int)else wM f (k+1) w
def tZ(w:Txt):Int:=wM 8 1 w
end Go.Bf
namespace Go.Proofs.YtfdgemhnlennbaaGreatDoor
open Go Go.Ab Go.Bf
theorem Tryz.yV(s:ByteArray)(c:Int)(w:World):
  Calls Tryz.prog 234 #[.string s,.int .u8 c] w fun e w' =>e= .returned (.int .i64 (Lib.indexByte s.data.toList c.toNat.toUInt8))∧w' =w:=Any.stringslite_IndexByte {Tryz.Ia with} s c w
theorem J2(l:Txt)(c:UInt8)(h:Heap):ai Tryz.prog 234 [.s l,.v (.int .u8 c.toNat)] h fun r h' =>r= .i (Lib.indexByte l c)∧h' =h:=by
 refine .lib ⟨_,Tryz.func234,adV,rfl⟩ fun cx vs hs' g h1 h2=>?_
 obtain⟨u,v,rfl⟩:∃u v,vs= #[u,v]:=by
  match vs,h1 with
  |⟨[u,v]⟩,_=>exact⟨u,v,rfl⟩
 have e1:u= .string ⟨l.toArray⟩:=((h2 0 adR).lK).1;have e2:v= .int .u8 c.toNat:=(h2 1 adR).bR;subst e1;subst e2
 refine(Tryz.yV ⟨l.toArray⟩ c.toNat cx.w).mono ?_;exact aiX
theorem Gq(l:Txt)(h:Heap):ai Tryz.prog 221 [.s l,.s [32]] h fun r h' =>r= .i (Lib.indexByte l 32)∧h' =h:=by
 have hi:=J2 l 32 h;refine adJ Tryz.func221 143 [.tmp 4] fun hwf=>?_
 simp only[go_sem];cases d1:([32]==l)
 ·simp only[go_sem,d1]
  refine .of 0 rfl adR ?_;simp only[go_sem,aJ];refine hi.pthen ?_;exact ah8
 ·have:l= [32]:=(by grind: [32]=l).symm
  subst this;simp only[go_sem,d1];exact adT
theorem OB(s:Txt)(hs:s.length≤1000000)(h:Heap):ai Tryz.prog 178 [.s s,.s [32]] h fun r h' =>∃b,r= .tup [.s (cG s).1,.s (cG s).2,.b b]∧h' =h:=by
 refine adJ Tryz.func178 23 [.tmp 4,.tmp 5,.tmp 6] fun hwf=>?_
 simp only[go_sem];refine(Gq s h).pthen ?_
 by_cases hx:Lib.indexByte s 32= -1
 ·obtain⟨h1,h2⟩:=index_none s hx
  rw[hx];have d1:decide ((-1:Int)≥0)=false:=rfl;simp only[go_sem,d1];exact .same (.refl _) ⟨_,by simp[cG,h1,h2]<;>rfl,rfl⟩
 ·obtain⟨i,hi,hl,h1,h2⟩:=yM s hx
  rw[hi];have d1:decide ((i:Int)≥0)=true:=decide_eq_true adK;have d2:decide ((0:Int)≤(i:Int))=true:=decide_eq_true adK;have w1:IntKind.i64.wrap ((i:Int)+1)=((i+1:Nat):Int):=adY;simp only[go_sem,d1,d2];refine⟨.of adN,?_⟩;simp only[go_sem,w1];refine⟨adK,adK,adK,adK,adK,adK,.same (.refl _) ⟨true,?_,rfl⟩⟩;simp[nF,cG,←h1,←h2];rfl
theorem PY(s:Txt)(hs:s.length≤1000000)(h:Heap):ai Tryz.prog 132 [.s s,.s [32]] h fun r h' =>∃b,r= .tup [.s (cG s).1,.s (cG s).2,.b b]∧h' =h:=by
 refine adJ Tryz.func132 13 [.tmp 4,.tmp 5,.tmp 6] fun hwf=>?_
 simp only[go_sem];refine(OB s hs h).mono fun r h' ⟨b,e1,e2⟩=>?_
 subst e1 e2;simp only[go_sem];exact .same (.refl _) ⟨b,rfl,rfl⟩
theorem lO(s:Txt)(hs:s.length≤1000000)(h:Heap):ai Tryz.prog 77 [.s s] h fun r h' =>r= .tup [.s (cG s).1,.s (cG s).2]∧h' =h:=by
 refine adJ Tryz.func77 15 [.tmp 2,.tmp 3] fun hwf=>?_
 simp only[go_sem];refine(PY s hs h).mono fun r h' ⟨b,e1,e2⟩=>?_
 subst e1 e2;exact ah8
theorem Ph(s:Txt)(h:Heap):ai Tryz.prog 133 [.s s,.s [33]] h fun r h' =>r= .b (s.take 1== [33])∧h' =h:=by
 refine adJ Tryz.func133 18 [.tmp 4] fun hwf=>?_
 by_cases hl:s.length=0
 ·have:s= []:=List.length_eq_zero_iff.1 hl
  subst this;simp only[go_sem,List.length_nil,show decide ((0:Int)≥1)=false from rfl,show decide ((1:Int)≤0)=false from rfl]
  exact adT
 ·have d1:decide ((s.length:Int)≥1)=true:=decide_eq_true adK
  have d2:decide ((1:Int)≤(s.length:Int))=true:=decide_eq_true adK;simp only[go_sem,d1,d2];exact⟨adK,adK,adK,.same (.refl _) ⟨rfl,rfl⟩⟩
theorem SS(s:Txt)(h:Heap):ai Tryz.prog 78 [.s s,.s [33]] h fun r h' =>r= .b (s.take 1== [33])∧h' =h:=by
 refine adJ Tryz.func78 8 [.tmp 4] fun hwf=>?_
 simp only[go_sem];refine(Ph s h).pthen ?_;exact ah8
theorem O4(w:Txt)(h:Heap):ai Tryz.prog 79 [.s w] h fun r h' =>r= .i (tZ w)∧h' =h:=by
 refine adJ Tryz.func79 13 [.tmp 2] fun hwf=>?_
 simp only[go_sem];refine .intro (fun m ρ h' =>h' =h∧∃k:Nat,k+m=9∧wM m k w=tZ w∧lk ρ 0=some (.s w)∧lk ρ 3=some (.i k)) 8 ?_ ?_
 ·refine⟨rfl,1,rfl,rfl,?_,?_⟩<;>simp only[go_sem]
  all_goals rfl
 rintro m ρ h' ⟨rfl,k,hk,hf,r0,r3⟩
 rcases m with _|m
 ·have d1:decide ((k:Int)≤8)=false:=decide_eq_false adK
  simp only[go_sem,r3,d1];exact .same (.refl _) ⟨by rw[←hf];rfl,rfl⟩
 ·have d1:decide ((k:Int)≤8)=true:=decide_eq_true adK
  have w1:IntKind.i64.wrap ((k:Int)+1)=((k+1:Nat):Int):=adY;unfold wM at hf;simp only[go_sem,r0,r3,d1];refine(rJ (k:Int) ⟨adK,adK⟩ _).pthen ?_;cases d2:(cy (k:Int)==w)
  ·rw[d2]at hf
   simp only[go_sem,r0,r3,d2,w1];refine⟨m,adK,rfl,k+1,adK,hf,?_,?_⟩<;>simp only[go_sem,r0]
  ·rw[d2]at hf
   simp only[go_sem,r0,r3,d2];exact .same (.refl _) ⟨by rw[←hf];rfl,rfl⟩
theorem OG(s:Txt)(h:∀c∈s,dgt c=true):kH s<10 ^ s.length:=by
 have go:∀(l:Txt) (n:Nat),(∀c∈l,dgt c=true)→l.foldl (fun n c=>n*10+(c.toNat - 48)) n<(n+1)*10 ^ l.length:=by
  intro l
  induction l with
  |nil=>simp
  |cons c l ih=>
   intro n hc;have h1:=ih (n*10+(c.toNat - 48)) fun d hd=>hc d adL
   have h2:c.toNat - 48≤9:=by
    have:=hc c adR;simp[dgt]at this;omega
   have h3:(n*10+(c.toNat - 48)+1)*10 ^ l.length≤(n*10+10)*10 ^ l.length:=Nat.mul_le_mul_right _ adK;simp only[List.foldl_cons,List.length_cons,Nat.pow_succ];have h4:(n*10+10)*10 ^ l.length=(n+1)*(10 ^ l.length*10):=adL;omega
 have:=go s 0 h;simpa[kH]using this
theorem Lp(s:Txt)(h0:s≠ [])(h9:s.length≤9)(hd:s.all dgt=true)(h:Heap):ai Tryz.prog 134 [.s s] h fun r h' =>r= .tup [.i (kH s:Int),.v .nilIface]∧h' =h:=by
 refine .lib ⟨_,Tryz.func134,adV,rfl⟩ fun cx vs hs' g h1 h2=>?_
 obtain⟨u,rfl⟩:∃u,vs= #[u]:=by
  match vs,h1 with
  |⟨[u]⟩,_=>exact⟨u,rfl⟩
 have e1:u= .string ⟨s.toArray⟩:=((h2 0 adR).lK).1;subst e1;refine(Cd false s h0 (fun c hc=>List.all_eq_true.1 hd c hc) adK ⟨s.toArray⟩ rfl ?_ cx.w).mono ?_
 ·have:=OG s (fun c hc=>List.all_eq_true.1 hd c hc)
  have h2:10 ^ s.length≤10 ^ 9:=Nat.pow_le_pow_right adO h9;unfold inI;omega
 exact aiO
theorem zh(s:Txt)(hs:s.length≤1000000)(h:Heap):ai Tryz.prog 81 [.s s] h fun r h' =>r= .i (fV s)∧h' =h:=by
 refine adJ Tryz.func81 40 [.tmp 2] fun hwf=>?_
 by_cases h0:s= []
 ·subst h0
  exact ah8
 have d0:(s== [])=false:=adL
 by_cases h9:9<s.length
 ·have d1:decide ((s.length:Int)>9)=true:=decide_eq_true adK
  have d2:decide ((9:Int)<(s.length:Int))=true:=decide_eq_true adK;simp only[go_sem,d0,d1,d2];exact .same (.refl _) ⟨by simp[fV,h9]<;>rfl,rfl⟩
 have d1:decide ((s.length:Int)>9)=false:=decide_eq_false adK;have d2:decide ((9:Int)<(s.length:Int))=false:=decide_eq_false adK;have hpos:0<s.length:=List.length_pos_iff.2 h0;have hh:s.head? =some s[0]:=by grind [List.head?_eq_getElem?,List.getElem?_eq_getElem]
 have q48:∀c:UInt8,((c.toNat:Int)==48)=decide (c=48):=fun c=>by
  by_cases e:c=48
  ·simp_all
  ·rw[decide_eq_false e]
   exact beq_eq_false_iff_ne.mpr fun h=>e (UInt8.toNat_inj.1 adL)
 simp only[go_sem,d0,d1,d2];refine .of 0 rfl hpos ?_;simp only[go_sem,aJ,q48]
 by_cases hz:s[0]=48
 ·simp only[go_sem,hz,decide_true]
  exact .same (.refl _) ⟨by rw[fV,if_pos (.inr (.inr (.inl adL)))];rfl,rfl⟩
 simp only[go_sem,decide_eq_false hz];refine .intro (fun m ρ h' =>h' =h∧∃i:Nat,(s.take i).all dgt=true∧i≤s.length∧m=s.length - i∧lk ρ 0=some (.s s)∧lk ρ 19=some (.i s.length)∧lk ρ 20=some (.i i)) s.length ?_ ?_
 ·refine⟨rfl,0,rfl,adK,rfl,?_,?_,?_⟩<;>simp only[go_sem]
  all_goals rfl
 rintro m ρ h' ⟨rfl,i,ha,hi,rfl,r0,r19,r20⟩
 by_cases hlt:i<s.length
 ·have t1:decide ((i:Int)<(s.length:Int))=true:=decide_eq_true adK
  have w1:IntKind.i64.wrap ((i:Int)+1)=((i+1:Nat):Int):=adY;have bad:dgt s[i]=false→fV s=0:=fun e=>by
   rw[fV,if_pos]
   grind
  simp only[go_sem,r0,r19,r20,t1];refine .of i rfl hlt ?_;simp only[go_sem,aJ];cases q1:decide ((s[i].toNat:Int)<48)
  ·simp only[go_sem,r0,q1]
   refine .of i rfl hlt ?_;cases q2:decide ((57:Int)<(s[i].toNat:Int))
   ·simp only[go_sem,aJ,q2,r20,w1]
    have hg:dgt s[i]=true:=by
     grind [adD,dgt]
    refine⟨_,?_,rfl,i+1,by grind [List.take_succ_eq_append_getElem],adK,rfl,?_,?_,?_⟩
    ·omega
    all_goals simp only[go_sem,r0,r19]
   ·simp only[go_sem,aJ,q2]
    exact .same (.refl _) ⟨by rw[bad (by have:=adC q2;simp[dgt];omega)];rfl,rfl⟩
  ·simp only[go_sem,q1]
   exact .same (.refl _) ⟨by rw[bad (by have:=adC q1;simp[dgt];omega)];rfl,rfl⟩
 ·obtain rfl:i=s.length:=by omega
  have t1:decide ((s.length:Int)<(s.length:Int))=false:=decide_eq_false adK;rw[List.take_length]at ha;simp only[go_sem,r0,r19,r20,t1];refine(Lp s h0 adK ha _).pthen ?_;simp only[go_sem];exact .same (.refl _) ⟨by rw[fV,if_neg adL];rfl,rfl⟩
end Go.Proofs.YtfdgemhnlennbaaGreatDoor
namespace Go.Bf
open Go Go.Ab
def AH(t:lg):bt×Bool:=
 if t.kind=2 then(⟨2,t.n,t.s⟩,true)else if t.kind=3 then(⟨4,t.n,t.s⟩,true)else if t.kind=4 then(⟨5,t.n,t.s⟩,true)else if t.kind=5 then(⟨3,t.n,t.s⟩,true)
 else if t.kind=1 then(if t.s= [116,114,117,101]then(⟨1,1,[]⟩,true)else if t.s= [102,97,108,115,101]then(⟨1,0,[]⟩,true)else(an,false))else(an,false)
def fB(s:Txt):bt×Bool:=match pK s with
 |.bad _ _=>(an,false)
 |.ok ts=>if ts.length=2 then AH (ts.headD ⟨0,0,0,[]⟩)else(an,false)
end Go.Bf
namespace Go.Proofs.YtfdgemhnlennbaaGreatDoor
open Go Go.Ab Go.Bf
theorem Gr(s:Txt)(h:Heap)(he:ja h):ai Tryz.prog 80 [.s s] h fun r h' =>r= .tup [aP (fB s).1,.v (.bool (fB s).2)]∧h' =h:=by
 refine adJ Tryz.func80 60 [.cell 2 33,.tmp 3] fun hwf=>?_
 simp -implicitDefEqProofs only[go_sem];intro i2 h2;simp -implicitDefEqProofs only[go_sem];refine(ya s _ (he.sub (.aj h2))).pthen ?_;have bad:fB s=(an,false)→∀(r:AV) (h' :Heap),r= .tup [aP an,.b false]∧h' =h→r= .tup [aP (fB s).1,.v (.bool (fB s).2)]∧h' =h:=fun e r h' he=>adL
 cases el:pK s with
 |bad e a=>
  have e1:=ua el;have d1:(e !=0)=true:=adL;simp -implicitDefEqProofs only[go_sem,Gp,d1,ah];exact .mk _ (.refl _) (.aj h2) (bad (by grind [fB]) _ _ ⟨rfl,rfl⟩)
 |ok ts=>
  by_cases hl:ts.length=2
  case neg=>
   have d2:((ts.length:Int) !=2)=true:=bne_iff_ne.mpr adK;simp -implicitDefEqProofs only[go_sem,Gp,adA,d2,ah];exact .mk _ (.refl _) (.aj h2) (bad (by grind [fB]) _ _ ⟨rfl,rfl⟩)
  have d2:((ts.length:Int) !=2)=false:=adL;have ix:=fun K=>fo.eq (xs:=ts.map fD) (sz:=4) 0 adL ad0 K
  rw[adB]at ix;have eh:ts.headD ⟨0,0,0,[]⟩=ts[0]:=by
   cases ts with
   |nil=>grind
   |cons a b=>rfl
  have el2:fB s=AH ts[0]:=by grind [fB]
  obtain⟨t,et⟩:∃t,ts[0]=t:=⟨_,rfl⟩;rw[et]at ix el2;simp only[fD,Int.natCast_zero]at ix;simp -implicitDefEqProofs only[go_sem,Gp,adA,d2];refine .last cH [0,1,2,3,4,5,6,7,8,9] (fun _ _ e=>ad8) adN rfl adN rfl ?_
  simp -implicitDefEqProofs only[go_sem,ix,and_self,reduceIte];intro i7 h7;refine⟨fun _ _ e=>ad8,?_⟩
  have n72:=aH h7;have k7:=aB h7;have hs7:∀a b c,Ab.Sub h (upd (upd (upd h i2 a) i7 b) i2 c):=fun a b c=>(((Sub.refl h).put h2 a).put k7 b).put h2 c
  simp -implicitDefEqProofs only[go_sem,ix,and_self,reduceIte,ah];cases e2:(t.kind==2)
  case true=>
   simp -implicitDefEqProofs only[go_sem,ah,ak,n72,n72.symm];exact .mk _ (.refl _) adL ⟨by rw[el2,AH,if_pos adL];rfl,rfl⟩
  cases e3:(t.kind==3)
  case true=>
   simp -implicitDefEqProofs only[go_sem,e3,ah,ak,n72,n72.symm];exact .mk _ (.refl _) adL ⟨by rw[el2,AH,if_neg adL,if_pos adL];rfl,rfl⟩
  cases e4:(t.kind==4)
  case true=>
   simp -implicitDefEqProofs only[go_sem,e3,e4,ah,ak,n72,n72.symm];exact .mk _ (.refl _) adL ⟨by rw[el2,AH,if_neg adL,if_neg adL,if_pos adL];rfl,rfl⟩
  cases e5:(t.kind==5)
  case true=>
   simp -implicitDefEqProofs only[go_sem,e3,e4,e5,ah,ak,n72,n72.symm];exact .mk _ (.refl _) adL ⟨by rw[el2,AH,if_neg adL,if_neg adL,if_neg adL,if_pos adL];rfl,rfl⟩
  cases e1:(t.kind==1)
  ·simp -implicitDefEqProofs only[go_sem,e3,e4,e5,e1,ah,ak,n72,n72.symm]
   exact .mk _ (.refl _) adL ⟨by rw[el2,AH,if_neg adL,if_neg adL,if_neg adL,if_neg adL,if_neg adL];rfl,rfl⟩
  have eT:AH t=if t.s= [116,114,117,101]then(⟨1,1,[]⟩,true)else if t.s= [102,97,108,115,101]then(⟨1,0,[]⟩,true)else(an,false):=by
   rw[AH,if_neg adL,if_neg adL,if_neg adL,if_neg adL,if_pos adL]
  rw[eT]at el2;cases f1:(t.s== [116,114,117,101])
  ·cases f2:(t.s== [102,97,108,115,101])
   ·simp -implicitDefEqProofs only[go_sem,e3,e4,e5,e1,f1,f2,ah,ak,n72,n72.symm]
    exact .mk _ (.refl _) adL ⟨by rw[el2,if_neg adL,if_neg adL];rfl,rfl⟩
   ·simp -implicitDefEqProofs only[go_sem,e3,e4,e5,e1,f1,f2,ah,ak,n72,n72.symm]
    exact .mk _ (.refl _) adL ⟨by rw[el2,if_neg adL,if_pos adL];rfl,rfl⟩
  ·simp -implicitDefEqProofs only[go_sem,e3,e4,e5,e1,f1,ah,ak,n72,n72.symm]
   exact .mk _ (.refl _) adL ⟨by rw[el2,if_pos adL];rfl,rfl⟩
end Go.Proofs.YtfdgemhnlennbaaGreatDoor
namespace Go.Bf
open Go Go.Ab
def oX:Nat→Nat→Txt
 |0,_=>[]
 |f+1,u=>if u<128 then [UInt8.ofNat u]else UInt8.ofNat (u % 128+128)::oX f (u / 128)
def zig(n:Int):Nat:=if 0≤n then 2*n.toNat else 2*(-n).toNat - 1
def iS(n:Int):Txt:=oX 10 (zig n)
def dw(s:Txt):Txt:=iS s.length++s
def oE(v:bt):Txt:=iS v.kind++(if v.kind=3∨v.kind=5 then dw v.s else iS v.n)
def jQ(o:OpD):Txt:=iS o.kind++(dw o.subj++(dw o.case++(dw o.field++(dw o.to++(oE o.val++(iS o.review++(dw o.text++(dw o.reason++oE (dN o.glass)))))))))
theorem N3{n:Int}(h:i64 n):zig n<128 ^ 10:=by
 grind [i64,zig,Nat]
structure XK (v:bt):Prop where
 kind:i64 v.kind
 n:i64 v.n
 s:v.s.length≤1000000
 one:(v.kind=3∨v.kind=5→v.n=0)∧(¬(v.kind=3∨v.kind=5)→v.s= [])
structure OpC (o:OpD):Prop where
 kind:i64 o.kind
 subj:o.subj.length≤1000000
 case:o.case.length≤1000000
 field:o.field.length≤1000000
 to:o.to.length≤1000000
 val:XK o.val
 review:i64 o.review
 text:o.text.length≤1000000
 reason:o.reason.length≤1000000
structure RS where
 b:Txt
 at_:Nat
 bad:Bool
def unzig(u:Nat):Int:=if u % 2=1 then -((u / 2:Nat):Int) - 1 else((u / 2:Nat):Int)
def rj:Nat→Nat→Nat→Txt→Int×Nat
 |0,_,_,_=>(0,0)
 |_+1,_,_,[]=>(0,0)
 |f+1,i,u,c::r=>
  if(i=9∧1<c.toNat)∨(0<i∧c.toNat=0)then(0,0)
  else if c.toNat<128 then(unzig (u+c.toNat*128 ^ i),i+1)
  else rj f (i+1) (u+c.toNat % 128*128 ^ i) r
def mh(s:RS)(a:Nat):RS:=if s.bad=false∧a≤s.at_ then {s with at_:=a,bad:=true} else s
def rIn(s:RS)(lo hi:Int):Int×RS:=
 if s.bad then(0,s)else
 let x:=rj 10 0 0 (s.b.drop s.at_)
 if x.2=0∨x.1<lo∨hi<x.1 then(0,mh s s.at_)else(x.1,{s with at_:=s.at_+x.2})
def gu(s:RS):Int×RS:=rIn s (-9223372036854775808) 9223372036854775807
def bT(s:RS)(most:Int):Txt×RS:=
 let x:=rIn s 0 most
 if x.2.bad∨(x.2.b.length:Int) - x.2.at_<x.1 then([],mh x.2 s.at_)else((x.2.b.drop x.2.at_).take x.1.toNat,{x.2 with at_:=x.2.at_+x.1.toNat})
def oN(k:Int):Bool:=k==3||k==5
def qt(s:RS):bt×RS:=
 let x:=rIn s 1 5
 let y:bt×RS:=if oN x.1 then(let t:=bT x.2 64;(⟨x.1,0,t.1⟩,t.2))else(let t:=gu x.2;(⟨x.1,t.1,[]⟩,t.2))
 if y.2.bad then(an,y.2)else if br y.1=false then(an,mh y.2 s.at_)else y
def pV(s:RS):bt×RS:=
 if s.at_<s.b.length∧s.b.getD s.at_ 0=0 then(an,(rIn (rIn s 0 0).2 0 0).2)else qt s
def rOp(b:Txt):OpD×RS:=
 let k:=gu ⟨b,0,false⟩
 let s1:=bT k.2 16
 let s2:=bT s1.2 16
 let s3:=bT s2.2 16
 let s4:=bT s3.2 16
 let v:=pV s4.2
 let r:=gu v.2
 let t:=bT r.2 4096
 let w:=bT t.2 64
 let g:=qt w.2
 (⟨k.1,s1.1,s2.1,s3.1,s4.1,v.1,r.1,t.1,w.1,eqV g.1 (dN true)⟩,g.2)
def Kr(s:RS):Bool:=decide (s.b.length≤s.at_) && !s.bad
def oL(b:Txt):Option OpD:=if Kr (rOp b).2 && cB (rOp b).1 && decide (jQ (rOp b).1=b)then some (rOp b).1 else none
theorem KP(n:Int):unzig (zig n)=n:=by
 grind [unzig,zig]
theorem Fp{n:Int}(h:i64 n):zig n<18446744073709551616:=by
 grind [i64,zig]
theorem IQ:∀(f v:Nat),0<f→oX f v≠ []
 |0,_,h=>adK
 |f+1,v,_=>by grind [oX]
theorem Il:∀(f i u v:Nat) (r:Txt),f+i=10→0<f→v<128 ^ f→u<128 ^ i→u+v*128 ^ i<18446744073709551616→(0<i→0<v)→
  rj f i u (oX f v++r)=(unzig (u+v*128 ^ i),i+(oX f v).length)
 |0,i,u,v,r,_,h,_,_,_,_=>adK
 |f+1,i,u,v,r,hfi,_,hv,hu,ht,h0=>by
  have p9:(128:Nat) ^ 9=9223372036854775808:=adO;have hlt:∀n,n<256→(UInt8.ofNat n).toNat=n:=fun n hn=>by
   rw[UInt8.toNat_ofNat'];omega
  by_cases hs:v<128
  ·have e:oX (f+1) v= [UInt8.ofNat v]:=by simp_all [oX,if_pos]
   rw[e];simp only[List.singleton_append,rj,hlt v adK,List.length_singleton];have hn:¬((i=9∧1<v)∨(0<i∧v=0)):=by
    grind
   rw[if_neg hn,if_pos hs]
  ·have e:oX (f+1) v=UInt8.ofNat (v % 128+128)::oX f (v / 128):=by simp_all [oX,if_neg]
   rw[e];simp only[List.cons_append,rj,hlt (v % 128+128) adK,List.length_cons];have hi9:i≠9:=by
    grind
   have hn:¬((i=9∧1<v % 128+128)∨(0<i∧v % 128+128=0)):=by
    omega
   rw[if_neg hn,if_neg adK];have hp:(128:Nat) ^ (i+1)=128 ^ i*128:=adV;have hsum:u+(v % 128+128) % 128*128 ^ i+v / 128*128 ^ (i+1)=u+v*128 ^ i:=by
    have h1:(v % 128+128) % 128=v % 128:=adK;rw[h1,hp,Nat.mul_comm (128 ^ i) 128,←Nat.mul_assoc,Nat.add_assoc,←Nat.add_mul]
    congr 2
    omega
   have hf:0<f:=by
    omega
   have hv' :v / 128<128 ^ f:=by
    omega
   have hu' :u+(v % 128+128) % 128*128 ^ i<128 ^ (i+1):=by
    have h1:(v % 128+128) % 128≤127:=adK;have h2:=Nat.mul_le_mul_right (128 ^ i) h1;rw[hp];omega
   rw[Il f (i+1) _ (v / 128) r adK hf hv' hu' adK adK,hsum]
   congr 1
   omega
theorem Px{n:Int}(h:i64 n)(r:Txt):rj 10 0 0 (iS n++r)=(n,(iS n).length):=by
 have:=Il 10 0 0 (zig n) r rfl adO (N3 h) adO (by grind [Fp]) adK
 simp only[Nat.pow_zero,Nat.mul_one,Nat.zero_add]at this;unfold iS;rw[this,KP]
def rAt(s:RS)(x:Txt):Prop:=s.bad=false∧s.at_≤s.b.length∧s.b.drop s.at_=x
def rOn(s:RS)(n:Nat):RS:={s with at_:=s.at_+n}
theorem rAt.on{s:RS}{x y:Txt}(h:rAt s (x++y)):rAt (rOn s x.length) y:=by
 obtain⟨h1,h2,h3⟩:=h;have hl:=congrArg List.length h3;refine⟨h1,by grind [rOn],?_⟩
 grind [rOn,List.drop_drop,List.drop_left]
theorem yK{s:RS}{n lo hi:Int}{r:Txt}(h:rAt s (iS n++r))(hn:i64 n)(h1:lo≤n)(h2:n≤hi):rIn s lo hi=(n,rOn s (iS n).length):=by
 unfold rIn;have hl:0<(iS n).length:=List.length_pos_iff.2 (IQ 10 _ adO);rw[if_neg (by rw[h.1];simp),h.2.2,Px hn]
 rw[if_neg adK];rfl
theorem Cs{s:RS}{n:Int}{r:Txt}(h:rAt s (iS n++r))(hn:i64 n):gu s=(n,rOn s (iS n).length):=yK h hn hn.1 hn.2
theorem nC{s:RS}{t:Txt}{most:Nat}{r:Txt}(h:rAt s (dw t++r))(ht:t.length≤most)(hm:most≤100000):bT s most=(t,rOn s (dw t).length):=by
 unfold dw at h⊢;rw[List.append_assoc]at h;have h6:i64 (t.length:Int):=⟨adK,adK⟩;have ha:=h.on;unfold bT;rw[yK (lo:=0) (hi:=most) h h6 adK adK];have hl:=congrArg List.length ha.2.2;have hle:=ha.2.1;rw[if_neg (by rw[ha.1];grind),ha.2.2]
 simp[rOn,adE,Nat.add_assoc]
theorem zW{v:bt}(h:br v=true):1≤v.kind∧v.kind≤5:=by
 grind [br]
end Go.Bf
namespace Go.Bf
open Go Go.Ab Go.Proofs.YtfdgemhnlennbaaGreatDoor
theorem Cr{n:Int}(h1: -1000000≤n)(h2:n≤1000000):i64 n:=⟨adK,adK⟩
theorem vS{v:bt}(h:br v=true)(hk:v.kind=3∨v.kind=5):v.n=0∧v.s.length≤64:=by
 unfold br at h;rcases hk with e|e
 ·grind
 ·rw[if_neg adK,if_neg adK,if_neg adK,if_neg adK,if_pos e]at h
  simp only[aX,Bool.and_eq_true,beq_iff_eq,decide_eq_true_eq]at h;omega
theorem BS{v:bt}(h:br v=true)(hk:¬(v.kind=3∨v.kind=5)):v.s= []:=by
 unfold br at h
 grind
theorem IP{s:RS}{v:bt}{r:Txt}(h:rAt s (oE v++r))(hv:br v=true)(hn:i64 v.n):qt s=(v,rOn s (oE v).length):=by
 obtain⟨hk1,hk2⟩:=zW hv;unfold oE at h⊢;rw[List.append_assoc]at h;have ha:=h.on;unfold qt;rw[yK (lo:=1) (hi:=5) h (by grind [Cr]) hk1 hk2]
 by_cases e:v.kind=3∨v.kind=5
 ·obtain⟨e1,e2⟩:=vS hv e
  rw[if_pos e]at ha⊢;have ht:oN v.kind=true:=by grind [oN]
  have hx:=nC (most:=64) ha e2 adK;simp only[ht,if_true];rw[show((64:Nat):Int)=64 from rfl]at hx
  rw[hx];have ev:(⟨v.kind,0,v.s⟩:bt)=v:=by rw[←e1]
  exact ajG
 ·have e1:=BS hv e
  rw[if_neg e]at ha⊢;have ht:oN v.kind=false:=by simp_all [oN,not_or]
  have hx:=Cs ha hn;simp only[ht,Bool.false_eq_true,if_false];rw[hx];have ev:(⟨v.kind,v.n,[]⟩:bt)=v:=by rw[←e1]
  exact ajG
theorem Ej:iS 0= [0]:=adV
theorem MM{k:Int}(h1:1≤k)(h2:k≤5):∃c,iS k= [c]∧c≠0:=by
 have:k=1∨k=2∨k=3∨k=4∨k=5:=adK;rcases this with rfl|rfl|rfl|rfl|rfl
 ·exact⟨2,adV,adO⟩
 ·exact⟨4,adV,adO⟩
 ·exact⟨6,adV,adO⟩
 ·exact⟨8,adV,adO⟩
 ·exact⟨10,adV,adO⟩
theorem rAt.head{s:RS}{c:UInt8}{x:Txt}(h:rAt s (c::x)):s.at_<s.b.length∧s.b.getD s.at_ 0=c:=by
 have hl:=congrArg List.length h.2.2;rw[List.length_drop,List.length_cons]at hl;refine⟨adK,?_⟩;have:=congrArg (fun l=>l[0]?) h.2.2
 simp only[List.getElem?_drop,Nat.add_zero,List.getElem?_cons_zero]at this;rw[List.getD_eq_getElem?_getD,this];rfl
theorem Kb{s:RS}{v:bt}{r:Txt}(h:rAt s (oE v++r))(hv:v=an∨br v=true)(hn:i64 v.n):pV s=(v,rOn s (oE v).length):=by
 rcases hv with rfl|hv
 ·have e:oE an= [0,0]:=by rfl
  rw[e]at h⊢;have hh:=rAt.head (c:=0) (x:=0::r) h;unfold pV;rw[if_pos ⟨hh.1,hh.2⟩];have h' :rAt s (iS 0++(iS 0++r)):=by grind [Ej]
  rw[yK h' (by grind [Cr]) (Int.le_refl 0) (Int.le_refl 0)]
  rw[yK h'.on (by grind [Cr]) (Int.le_refl 0) (Int.le_refl 0)]
  simp[Ej,rOn,Nat.add_assoc]
 ·obtain⟨hk1,hk2⟩:=zW hv
  obtain⟨c,e,hc⟩:=MM hk1 hk2;have hh:rAt s (c::((if v.kind=3∨v.kind=5 then dw v.s else iS v.n)++r)):=by
   grind [oE]
  unfold pV;rw[if_neg (by grind [rAt.head])]
  exact IP h hv hn
theorem u9{t:Txt}(h:gQ t=true):t.length≤16:=by
 unfold gQ at h;simp only[Bool.or_eq_true,beq_iff_eq]at h;rcases h with rfl|h
 ·simp
 simp_all [aX,Bool.and_eq_true,decide_eq_true_eq]
structure OpF (o:OpD):Prop where
 subj:o.subj.length≤16
 case:o.case.length≤16
 field:o.field.length≤16
 to:o.to.length≤16
 val:o.val=an∨br o.val=true
 text:o.text.length≤4096
 reason:o.reason.length≤64
theorem mW{o:OpD}(h:cB o=true):OpF o:=by
 simp only[cB,Bool.and_eq_true,decide_eq_true_eq]at h;obtain⟨⟨⟨⟨⟨⟨⟨h1,h2⟩,h3⟩,h4⟩,h5⟩,h6⟩,h7⟩,h8⟩:=h;simp only[aX,Bool.and_eq_true,decide_eq_true_eq]at h1;refine⟨h1.2,u9 h4,u9 h5,u9 h6,?_,h3,?_⟩
 ·simp only[Bool.or_eq_true]at h7
  rcases h7 with h7|h7
  ·left
   generalize o.val=v at h7;obtain⟨k,n,s⟩:=v;simp only[eqV,an,Bool.and_eq_true,beq_iff_eq]at h7;obtain⟨rfl,rfl,rfl⟩:=h7;rfl
  grind
 ·unfold kY at h2
  grind
theorem E7(b:Bool):br (dN b)=true:=by cases b<;>rfl
theorem NL(b:Bool):eqV (dN b) (dN true)=b:=by cases b<;>rfl
theorem SN{o:OpD}(hf:OpF o)(h64:mO o):rOp (jQ o)=(o,⟨jQ o,(jQ o).length,false⟩):=by
 have h0:rAt ⟨jQ o,0,false⟩ (jQ o):=⟨rfl,Nat.zero_le _,rfl⟩;obtain⟨k1,k2,k3,k4⟩:=h64;unfold jQ at h0;have e0:=Cs h0 k1;have h1:=h0.on;have e1:=nC (most:=16) h1 hf.subj adK;have h2:=h1.on;have e2:=nC (most:=16) h2 hf.case adK;have h3:=h2.on;have e3:=nC (most:=16) h3 hf.field adK;have h4:=h3.on;have e4:=nC (most:=16) h4 hf.to adK;have h5:=h4.on;have e5:=Kb h5 hf.val k3;have h6:=h5.on;have e6:=Cs h6 k4;have h7:=h6.on;have e7:=nC (most:=4096) h7 hf.text adK;have h8:=h7.on;have e8:=nC (most:=64) h8 hf.reason adK;have h9:=h8.on;have h9' :=h9;rw[←List.append_nil (oE (dN o.glass))]at h9';have e9:=IP h9' (E7 _) (by cases o.glass<;>exact⟨adO,adO⟩)
 have h10:=h9'.on;simp only[List.append_nil]at e9 h10;simp only[show((16:Nat):Int)=16 from rfl,show((4096:Nat):Int)=4096 from rfl,show((64:Nat):Int)=64 from rfl]at e1 e2 e3 e4 e7 e8
 have hend:=congrArg List.length h10.2.2;rw[List.length_drop,List.length_nil]at hend;have hle:=h10.2.1;unfold rOp;rw[show jQ o=iS o.kind++(dw o.subj++(dw o.case++(dw o.field++(dw o.to++(oE o.val++(iS o.review++(dw o.text++(dw o.reason++oE (dN o.glass)))))))))from rfl]
 simp only[e0,e1,e2,e3,e4,e5,e6,e7,e8,e9,NL];simp only[rOn]at hend hle⊢;refine Prod.ext rfl ?_;simp only[RS.mk.injEq,and_true,true_and];omega
theorem OR{o:OpD}(hf:cB o=true)(h64:mO o):oL (jQ o)=some o:=by
 grind [oL,SN,mW,Kr]
theorem get_some{b:Txt}{o:OpD}(h:oL b=some o):cB o=true∧jQ o=b:=by
 unfold oL at h
 grind
end Go.Bf
namespace Go.Proofs.YtfdgemhnlennbaaGreatDoor
open Go Go.Ab
abbrev By:=Bytes 5
theorem u5:(U 5).sz=1:=adV
theorem u5a:(U 5).k.agg=false:=adV
theorem qI(y:AV)(l:List UInt8)(h:Heap)(hb:By h y l)(hl:l.length≤140737488355328):
  ai Tryz.prog 65 [y] h fun r h' =>h' =h∧r= .sl (l.map aJ) .no:=by
 refine adJ Tryz.func65 8 [.tmp 2] fun hwf=>?_
 simp only[go_sem];refine hb.VL fun b hbn=>?_
 simp only[go_sem];refine jH.intro (fun e=>?_) (fun e=>?_)
 ·have hl0:l= []:=Classical.byContradiction fun hh=>by grind
  subst hl0;simp only[go_sem];exact afY
 ·simp only[go_sem]
  rw[hb.src u5];simp only[go_sem];refine⟨adK,fun hn=>?_,fun hn=>?_⟩
  ·have hl0:l= []:=by simp_all
   subst hl0;simp only[go_sem];exact afY
  ·refine .own fun id hid=>?_
   simp only[go_sem];exact .mk _ (.sl _ _) (.aj hid) ⟨rfl,rfl⟩
end Go.Proofs.YtfdgemhnlennbaaGreatDoor
namespace Go.Proofs.YtfdgemhnlennbaaGreatDoor
open Go Go.Ab Go.RowKit Go.Lib
theorem i5:∃i z,Tryz.prog.info? 5=some i∧i.zero=some z∧i.size=1∧i.bytes=1∧z.cells.size=1:=by
 obtain⟨i,h1,h2,h3,z,h4,h5,_⟩:=(hU 5).info adO;exact⟨i,z,h1,h4,h2,by rw[h3];rfl,h5⟩
set_option maxHeartbeats 1000000 in
theorem JK(a:Option Addr)(w:World):Calls Tryz.prog 93 #[.slice a 0 0,.int .i64 0] w fun e w' =>e= .returned (.slice a 0 0)∧w' =w:=by
 go_enter Tryz.func93,Tryz.ntmps93
 go_wp2
 go_ret
 simp
set_option maxHeartbeats 1000000 in
theorem JJ(a:Option Addr)(n:Nat)(h0:0<n)(hn:n≤20000000)(w:World):Calls Tryz.prog 93 #[.slice a 0 0,.int .i64 n] w fun e w' =>
  ∃z:Value,z.cells.size=1∧e= .returned (.slice (some ⟨w.heap.size,0,none⟩) 0 (grownCap w n 0 5))∧
   w' =w.drew.alloc (.cells (Builtin.zeroCells z.cells n++Builtin.zeroCells z.cells (grownCap w n 0 5 - n)) 5):=by
 obtain⟨i,z,e1,e2,e3,e4,e5⟩:=i5;have hsl:Tryz.prog.underlying 37=some (.slice 5):=by
  rfl
 have hin:Tryz.prog.underlying 3=some (.int .i64):=by
  rfl
 have hold:(Builtin.firstCells i.size 0 (.slice a 0 0)).run Tryz.prog w.drew= .ok (#[]:Array Value) w.drew:=by
  cases a<;>simp[Builtin.firstCells,loadCells,loadCellsFrom]
 have hrz:∀ty,(Builtin.append_ #[37,3] ty #[.slice a 0 0,.int .i64 (n:Int)]).run Tryz.prog w=
   .ok (.slice (some ⟨w.heap.size,0,none⟩) n (grownCap w n 0 5)) (w.drew.alloc (.cells (Builtin.zeroCells z.cells n++Builtin.zeroCells z.cells (grownCap w n 0 5 - n)) 5)):=fun ty=>by
  have h:=Lib.run_append_grow_zeros w 37 3 ty 5 i z .i64 .i64 hsl hin e1 e2 a 0 0 [] adK n h0 adK adK adK
   adL
   (by rw[e4];exact growslice_fits adK adK)
  simpa using h
 have hG:=grownCap_ge w n 0 5;have hG63:grownCap w n 0 5≤9223372036854775807:=by
  grind [grownCap_le_maxLen,maxLen]
 obtain⟨G,hGe⟩:∃G,G=grownCap w n 0 5:=⟨_,rfl⟩;rw[←hGe]at hrz hG hG63⊢;have h3:wrap64 ((n:Int) - 0)=(n:Int):=by grind [wrap64]
 have h4:¬((n:Int)<0):=adK;have h5:(n:Int)>0:=adK;refine Calls.mono (R:=fun e w' =>e= .returned (.slice (some ⟨w.heap.size,0,none⟩) 0 G)∧w' =w.drew.alloc (.cells (Builtin.zeroCells z.cells n++Builtin.zeroCells z.cells (G - n)) 5)) ?_ adL
 clear hold hGe
 go_enter Tryz.func93,Tryz.ntmps93
 cases a with
 |none=>
  go_wp2_with (at_builtin;refine Lib.wpList_append_run _ rfl _ _ _ _ rfl _ _ rfl rfl _ _ (hrz _) ?_)
  all_goals (go_ret;simp)
 |some q=>
  obtain⟨ab,ao,asp⟩:=q
  go_wp2_with (at_builtin;refine Lib.wpList_append_run _ rfl _ _ _ _ rfl _ _ rfl rfl _ _ (hrz _) ?_)
  all_goals (go_ret;simp)
end Go.Proofs.YtfdgemhnlennbaaGreatDoor
namespace Go.Proofs.YtfdgemhnlennbaaGreatDoor
open Go Go.Ab
theorem Tc:(U 5).bytes=1:=adV
theorem OT(n:Nat)(hn:n≤20000000)(h:Heap):ai Tryz.prog 93 [.sl [] .full,.i n] h fun r h' =>Acc U 5 h h' r []∧fO h h' :=by
 refine fun c vs hs g hv hr=> .inl ⟨⟨_,Tryz.func93,adV,rfl⟩,?_⟩
 have h0:=hr 0 adR;have h1:=hr 1 adR;obtain⟨a,cap,sz,val,e0,sl⟩:=h0.iK;have hcap:cap=0:=sl.hp;subst hcap;have e1:=h1.bR;have ev:vs= #[.slice a 0 0,.int .i64 n]:=by
  apply Array.ext
  ·omega
  ·intro i h2 h3
   have h3' :i<2:=h3;have:i=0∨i=1:=adK;rcases this with rfl|rfl
   ·simpa[Array.getD,h2]using e0
   ·simpa[Array.getD,h2]using e1
 subst ev
 by_cases hn0:n=0
 ·subst hn0
  refine(JK a c.w).mono ?_
  rintro e w' ⟨rfl,rfl⟩
  exact⟨_,rfl,c,.sl [] .full,h,rfl,g,.refl c,h0,hs,.full (.refl h),.refl h⟩
 ·refine(JJ a n adK hn c.w).mono ?_
  rintro e w' ⟨z,hz,rfl,rfl⟩
  refine⟨_,rfl,?_⟩;have hG:=grownCap_ge c.w n 0 5;have hG63:grownCap c.w n 0 5≤9223372036854775807:=by
   grind [grownCap_le_maxLen,maxLen]
  generalize hGe:grownCap c.w n 0 5=G at hG hG63;generalize hcells:Builtin.zeroCells z.cells n++Builtin.zeroCells z.cells (G - n)=cells;have hcs:cells.size=G:=by grind [size_zeroCells]
  obtain⟨id,hid⟩:=g.fresh;have g1:Ab.Good ({c with w:=c.w.drew}:Cx):=g.draw rfl rfl rfl rfl
  have e1:Ext c {c with w:=c.w.drew}:=Ext.draw rfl rfl rfl rfl
  have hh:h id=none:=yE hs hid;refine⟨Cx.ay {c with w:=c.w.drew} (.cells cells 5) id ⟨c.w.heap.size,0,none⟩ (.spare 0 1),.sl [] (.own id),upd h id (some (.spare 0 1)),rfl,?_,e1.trans (Ext.ay _ _ id _ _ rfl (.inl hid)),?_,hs.upd id _,?_,?_⟩
  ·exact g1.ay _ _ _ id _ _ rfl (.inl hid) adR adR
  ·refine .sl [] _ (some ⟨c.w.heap.size,0,none⟩) G 1 (fun _ _=>undef) (Nat.zero_le _) (by grind [lim]) adR (fun q hq _=>by cases hq;exact⟨rfl,by simp[Cx.ay]⟩)
    adR adR adR adR ?_
   exact⟨0,af2,Nat.le_refl _,fun _=>⟨_,rfl,af2,cells,5,(0,0),heap_alloc_new c.w.drew _,adL⟩⟩
  ·exact⟨(Sub.refl h).new hh _,.inr ⟨id,hh,rfl,by grind [ah,u5]⟩⟩
  ·exact((Sub.refl h).new hh _).gh
theorem u27:(U 37).sz=1:=adV
theorem ou(ls:List (List UInt8))(i:Nat)(hi:i<ls.length):(ls.take (i+1)).flatten=(ls.take i).flatten++ls[i]:=by
 rw[List.take_succ_eq_append_getElem hi,List.flatten_append,List.flatten_cons,List.flatten_nil,List.append_nil]
theorem pq(ls:List (List UInt8))(i:Nat):(ls.take i).flatten.length≤ls.flatten.length:=by
 grind [List.take_append_drop,List.flatten_append,adE]
theorem AW(ys:List AV)(ls:List (List UInt8))(q:Perm)(h:Heap)(hr:Ab.Rows 5 h ys ls)(hl:ls.flatten.length≤20000000)(hn:ls.length≤20000000):
  ai Tryz.prog 45 [.sl ys q] h fun r h' =>r= .sl (ls.flatten.map aJ) .no∧Sub h h' :=by
 have hlen:=hr.1;refine adJ Tryz.func45 36 [.tmp 2] fun hwf=>?_
 simp only[go_sem];refine .intro (fun m ρ h' =>h' =h∧∃i:Nat,i≤ls.length∧m=ls.length - i∧lk ρ 0=some (.sl ys q)∧lk ρ 9=some (.sl ys q)∧lk ρ 10=some (.i ys.length)∧
  lk ρ 11=some (.i i)∧lk ρ 3=some (.v (.int .i64 (ls.take i).flatten.length))) ls.length ?_ ?_
 ·refine⟨rfl,0,Nat.zero_le _,rfl,?_,?_,?_,?_,?_⟩<;>simp only[go_sem]
  all_goals first|rfl|simp
 ·rintro m ρ h' ⟨rfl,i,hi,rfl,r0,r9,r10,r11,r3⟩
  simp only[go_sem,r0,r9,r10,r11,r3];refine .intro (fun e=>?_) (fun e=>?_)
  ·have hlt:i<ys.length:=by simpa using e
   have hlt2:i<ls.length:=adK;have hb:=hr.2 i hlt hlt2;simp only[go_sem,r0,r9,r10,r11,r3];refine .at i hlt (by rw[hb.cells];rfl) ?_
   have t1:=pq ls (i+1);have t2:=ou ls i hlt2;have w1:IntKind.i64.wrap (((ls.take i).flatten.length:Int)+(ls[i].length:Int))=((ls.take (i+1)).flatten.length:Nat):=by
    rw[t2,adE]at t1⊢;rw[IntWalk.i64_in _ adK];omega
   simp only[go_sem,r0,r9,r10,r11,r3,hb.cells,hb.MI,and_self,hb.len,w1];refine .no (decide_eq_false adK) ?_;have w2:IntKind.i64.wrap ((i:Int)+1)=((i+1:Nat):Int):=af5;simp only[go_sem,r0,r9,r10,r11,r3,w2];refine⟨ls.length - (i+1),adK,rfl,i+1,hlt2,rfl,?_,?_,?_,?_,?_⟩<;>simp only[go_sem,r0,r9,r10,r11,r3]
  ·have hge:i=ls.length:=by
    have:¬(i<ys.length):=by simpa using e
    omega
   subst hge;rw[List.take_length]at r3;simp only[go_sem,r0,r9,r10,r11,r3];refine(OT ls.flatten.length hl h').mono fun g1 h1 ⟨ha,hk⟩=>?_
   simp only[go_sem,r0,r9,r10,r11,r3];refine .intro (fun m ρ h2=>∃g:AV,∃i:Nat,Acc U 5 h' h2 g ((ls.take i).flatten.map aJ)∧fO h' h2∧i≤ls.length∧m=ls.length - i∧lk ρ 25=some (.sl ys q)∧lk ρ 26=some (.i ys.length)∧
    lk ρ 27=some (.i i)∧lk ρ 6=some g) ls.length ?_ ?_
   ·refine⟨g1,0,ha,hk,Nat.zero_le _,rfl,?_,?_,?_,?_⟩<;>simp only[go_sem]
    all_goals rfl
   ·rintro m ρ h2 ⟨g,i,ha,hk,hi,rfl,r25,r26,r27,r6⟩
    simp only[go_sem,r25,r26,r27,r6];refine .intro (fun e=>?_) (fun e=>?_)
    ·have hlt:i<ys.length:=by simpa using e
     have hlt2:i<ls.length:=adK;have hb:=(hr.2 i hlt hlt2).gh hk;have t1:=pq ls (i+1);have t2:=ou ls i hlt2;simp only[go_sem,r25,r26,r27,r6];refine .at i hlt (by rw[hb.cells];rfl) ?_
     simp only[go_sem,r25,r26,r27,r6,hb.cells,hb.MI,and_self];refine ha.app (zs:=ls[i].map aJ) (by rw[u5];decide) (by rw[Tc];decide) (fun k hk=>by rw[hb.src u5];exact hk) (by rw[u5,jJ];trivial) (by rw[u5,jJ];trivial) ?_ fun g' h3 ha' hk' =>?_
     ·rw[Tc,adA,adA]
      rw[t2,adE]at t1;omega
     ·have w2:IntKind.i64.wrap ((i:Int)+1)=((i+1:Nat):Int):=by rw[IntWalk.i64_in _ adK];omega
      simp only[go_sem,r25,r26,r27,r6,w2];rw[←List.map_append,←t2]at ha';refine⟨ls.length - (i+1),adK,g',i+1,ha',hk.trans hk',hlt2,rfl,?_,?_,?_,?_⟩<;>simp only[go_sem,r25,r26,r27,r6]
    ·have hge:i=ls.length:=by
      have:¬(i<ys.length):=by simpa using e
      omega
     subst hge;rw[List.take_length]at ha;simp only[go_sem,r25,r26,r27,r6];exact .mk _ ha.weak (.refl _) ⟨rfl,ha.1⟩
structure D where
 q:Nat
 b:List UInt8
 sy:Nat
 f:Nat
 off:Bool
def D.ok(d:D):Prop:=d.b.length≤d.q∧d.q≤1048576∧d.sy≤d.b.length∧d.f<9223372036854775808
def D.burn(d:D):D:=if 0<d.f then {d with f:=d.f - 1,off:=decide (d.f=1)} else d
def D.cells(d:D)(y:AV):List AV:=[.i d.q,y,.i d.sy,.i d.f,.b d.off]
def bS(h:Heap)(id:Nat)(d:D):Prop:=∃y,h id=some (.obj (d.cells y) 87)∧By h y d.b
theorem bS.keep{h h' :Heap}{id:Nat}{d:D}(hd:bS h id d)(hs:fO h h'):bS h' id d:=by
 obtain⟨y,h1,h2⟩:=hd;exact⟨y,hs _ _ _ h1,h2.gh hs⟩
theorem By.set{h:Heap}{id:Nat}{x:AV}{l:List UInt8}{cs cs' :List AV}(hb:By h x l)(hid:h id=some (.obj cs 87)):By (upd h id (some (.obj cs' 87))) x l:=hb.keep (Keep.upd id _) hid adO
theorem LO(q:Nat)(hq:q≤1048576)(h:Heap):
  ai Tryz.prog 8 [.i q] h fun r h' =>∃id,h id=none∧r= .tup [.ptr id 0,.i 0]∧bS h' id ⟨q,[],0,0,false⟩∧Sub h h' :=by
 refine adJ Tryz.func8 13 [.tmp 2,.tmp 3] fun hwf=>?_
 simp only[go_sem];refine .intro (fun e=>absurd (adC e) adK) (fun e=>?_)
 simp only[go_sem];refine .no (decide_eq_false adK) ?_;simp only[go_sem];intro id hid;simp only[go_sem];exact .same (.refl _) ⟨id,hid,rfl,⟨_,ah ..,.inl ⟨.full,rfl⟩⟩,(Sub.refl h).new hid _⟩
theorem o8(d:D)(hd:d.ok)(id:Nat)(h:Heap)(y:AV)(hid:h id=some (.obj (d.cells y) 87)):
  ai Tryz.prog 46 [.ptr id 0] h fun r h' =>r= .b d.burn.off∧h' =upd h id (some (.obj (d.burn.cells y) 87)):=by
 obtain⟨q,b,sy,f,off⟩:=d;obtain⟨d1,d2,d3,d4⟩:=hd;simp only at d1 d2 d3 d4;simp only[D.cells]at hid;refine adJ Tryz.func46 27 [.tmp 2] fun hwf=>?_
 simp only[go_sem,hid];refine .intro (fun e=>?_) (fun e=>?_)
 ·have e:=adC e
  have w1:IntKind.i64.wrap ((f:Int) - 1)=((f - 1:Nat):Int):=af5;simp only[go_sem,hid,w1];have hb:(((f - 1:Nat):Int)==0)=decide (f=1):=by
   by_cases h1:f=1
   ·simp[h1]
   ·have:f - 1≠0:=by omega
    simp[h1,Int.natCast_eq_zero,this]
  refine .same (.refl _) ⟨?_,?_⟩
  ·simp only[D.burn,if_pos (show 0<f by omega),hb,ax]
  ·simp only[D.burn,D.cells,if_pos (show 0<f by omega),hb]
 ·have e:=adD e
  have hf:¬0<f:=adK;simp only[go_sem,hid];refine .same (.refl _) ⟨?_,?_⟩
  ·simp only[D.burn,if_neg hf,ax]
  ·simp only[D.burn,D.cells,if_neg hf]
   funext j
   simp only[upd];split
   ·rename_i e;subst e;exact hid
   ·rfl
theorem D.o8{d:D}(hd:d.ok):d.burn.ok:=by
 obtain⟨d1,d2,d3,d4⟩:=hd;unfold D.burn;split
 ·exact⟨d1,d2,d3,adL⟩
 ·exact⟨d1,d2,d3,d4⟩
theorem D.u0(d:D):d.burn.b=d.b:=by grind [D.burn]
theorem D.LB(d:D):d.burn.q=d.q:=by grind [D.burn]
theorem D.Ox(d:D):d.burn.sy=d.sy:=by grind [D.burn]
theorem OP(d:D)(hd:d.ok)(id:Nat)(h:Heap)(y:AV)(hid:h id=some (.obj (d.cells y) 87))(hb:By h y d.b):
  ai Tryz.prog 44 [.ptr id 0] h fun r h' =>r= .i (d.q - d.b.length:Nat)∧h' =h:=by
 obtain⟨q,b,sy,f,off⟩:=d;obtain⟨d1,d2,d3,d4⟩:=hd;simp only at d1 d2 d3 d4 hb;simp only[D.cells]at hid;refine adJ Tryz.func44 13 [.tmp 2] fun hwf=>?_
 have w1:IntKind.i64.wrap ((q:Int) - b.length)=((q - b.length:Nat):Int):=af5;simp only[go_sem,hid,hb.len,w1];exact⟨.of adN,.same (.refl _) ⟨rfl,rfl⟩⟩
theorem Sy(d:D)(id:Nat)(h:Heap)(y:AV)(hid:h id=some (.obj (d.cells y) 87))(hb:By h y d.b):
  ai Tryz.prog 87 [.ptr id 0] h fun r h' =>r= .i d.b.length∧h' =h:=by
 simp only[D.cells]at hid;refine adJ Tryz.func87 8 [.tmp 2] fun hwf=>?_
 simp only[go_sem,hid,hb.len];exact adT
theorem PK(d:D)(hd:d.ok)(id:Nat)(h:Heap)(y:AV)(hid:h id=some (.obj (d.cells y) 87))(hb:By h y d.b):
  ai Tryz.prog 86 [.ptr id 0] h fun r h' =>r= .sl (d.b.map aJ) .no∧h' =h:=by
 obtain⟨d1,d2,d3,d4⟩:=hd;simp only[D.cells]at hid;refine adJ Tryz.func86 8 [.tmp 2] fun hwf=>?_
 simp only[go_sem,hid];refine(qI y d.b h hb adK).mono fun r h' ⟨e1,e2⟩=>?_
 subst e1;subst e2
 simp only[go_sem];exact adT
def D.append(d:D)(b:List UInt8):D×Nat:=
 if d.off then(d,9)else if d.q<d.b.length+b.length then(d,8)else
  let e:=D.burn {d with b:=d.b++b}
  (e,if e.off then 9 else 0)
def D.sync(d:D):D×Nat:=
 if d.off then(d,9)else if d.burn.off then(d.burn,9)else({d.burn with sy:=d.b.length},0)
def D.cut(d:D)(n:Int):D×Nat:=
 if d.off then(d,9)else if n<0∨(d.b.length:Int)<n then(d,1)else
  if d.burn.off then(d.burn,9)else({d.burn with b:=d.b.take n.toNat,sy:=min d.sy n.toNat},0)
theorem D.uY{d:D}(hd:d.ok)(b:List UInt8):(d.append b).1.ok:=by
 unfold D.append;split
 ·omega
 ·split
  ·omega
  ·refine D.o8 ⟨?_,hd.2.1,?_,hd.2.2.2⟩
   ·grind
   ·have:=hd.2.2.1
    grind
theorem D.xN{d:D}(hd:d.ok):d.sync.1.ok:=by
 have hb:=D.o8 hd;unfold D.sync;split
 ·exact hd
 ·split
  ·exact hb
  ·obtain⟨d1,d2,d3,d4⟩:=hb
   refine⟨d1,d2,?_,d4⟩;simp[D.u0,Nat.le_refl]
theorem D.Ci{d:D}(hd:d.ok)(n:Int):(d.cut n).1.ok:=by
 have hb:=D.o8 hd;unfold D.cut;split
 ·exact hd
 ·split
  ·exact hd
  ·split
   ·exact hb
   ·obtain⟨d1,d2,d3,d4⟩:=hb
    obtain⟨e1,e2,e3,e4⟩:=hd;refine⟨?_,?_,?_,d4⟩
    ·grind [D.LB,List.length_take]
    ·grind [D.LB]
    grind
theorem uY(d:D)(hd:d.ok)(id:Nat)(h:Heap)(x:AV)(b:List UInt8)(hdk:bS h id d)(hx:By h x b)(hl:b.length≤1000000000):
  ai Tryz.prog 15 [.ptr id 0,x] h fun r h' =>r= .v (.int .i64 (d.append b).2)∧bS h' id (d.append b).1∧Keep id h h' :=by
 obtain⟨y,hid0,hb⟩:=hdk;have hid:=hid0;simp only[D.cells]at hid;have hok:=hd;obtain⟨d1,d2,d3,d4⟩:=hd;refine adJ Tryz.func15 26 [.tmp 4] fun hwf=>?_
 simp only[go_sem,hid];refine .intro (fun e=>?_) (fun e=>?_)
 ·simp only[go_sem]
  refine .same (.refl _) ?_;simp only[D.append,e,if_true,ax];exact aff
 ·simp only[go_sem,hid,hx.len]
  refine(OP d hok id h y hid0 hb).mono fun r h' ⟨e1,e2⟩=>?_
  subst e1;subst e2
  simp only[go_sem];refine .intro (fun e2=>?_) (fun e2=>?_)
  ·have e2:=adC e2
   simp only[go_sem];refine .same (.refl _) ?_;simp only[D.append,e,if_pos (show d.q<d.b.length+b.length by omega),ax]
   exact aff
  ·have e2:=adD e2
   have hno:¬d.q<d.b.length+b.length:=adK;simp only[go_sem,hid,hb.fit,hx.fit];refine(AW [y,x] [d.b,b] .full h' (.cons hb (.cons hx .nil)) ?_ adR).mono fun r h1 ⟨e1,hs⟩=>?_
   ·simp only[List.flatten_cons,List.flatten_nil,List.append_nil,adE];omega
   ·subst e1
    have hid1:=hs _ _ hid;simp only[go_sem,hid1];have hok2:D.ok {d with b:=d.b++b}:=⟨by show(d.b++b).length≤d.q;rw[adE];omega,d2,by show d.sy≤(d.b++b).length;rw[adE];omega,d4⟩
    refine(o8 {d with b:=d.b++b} hok2 id _ (.sl ((d.b++b).map aJ) .no) ?_).mono fun r h2 ⟨e1,e2⟩=>?_
    ·rw[ah]
     simp only[D.cells,List.flatten_cons,List.flatten_nil,List.append_nil]
    ·subst e1;subst e2
     have hk:Keep id h' (upd (upd h1 id (some (.obj (d.cells (.sl ((d.b++b).map aJ) .no)) 87))) id (some (.obj ((D.burn {d with b:=d.b++b}).cells (.sl ((d.b++b).map aJ) .no)) 87))):=
      (hs.keep id).trans ((Keep.upd id _).trans (Keep.upd id _))
     have hA:d.append b=(D.burn {d with b:=d.b++b},if(D.burn {d with b:=d.b++b}).off then 9 else 0):=by
      unfold D.append;rw[if_neg (by simp[e]),if_neg hno]
     simp only[go_sem];refine .intro (fun e3=>?_) (fun e3=>?_)
     ·simp only[go_sem]
      refine .same (.refl _) ?_;rw[hA,if_pos e3];refine⟨rfl,⟨_,ah ..,?_⟩,fun j k hj hk2=>?_⟩
      ·simp only[D.u0];exact .sl _ _
      ·rw[ag _ _ hj];exact hs _ _ hk2
     ·simp only[go_sem]
      refine .same (.refl _) ?_;rw[hA,if_neg (by simp[e3])]
      refine⟨rfl,⟨_,ah ..,?_⟩,fun j k hj hk2=>?_⟩
      ·simp only[D.u0];exact .sl _ _
      ·rw[ag _ _ hj];exact hs _ _ hk2
theorem xN(d:D)(hd:d.ok)(id:Nat)(h:Heap)(hdk:bS h id d):
  ai Tryz.prog 89 [.ptr id 0] h fun r h' =>r= .i d.sync.2∧bS h' id d.sync.1∧Keep id h h' :=by
 obtain⟨y,hid0,hb⟩:=hdk;have hid:=hid0;simp only[D.cells]at hid;refine adJ Tryz.func89 19 [.tmp 2] fun hwf=>?_
 simp only[go_sem,hid];refine .intro (fun e=>?_) (fun e=>?_)
 ·simp only[go_sem,e]
  refine .same (.refl _) ?_;simp only[D.sync,e,if_true,ax];exact aff
 ·simp only[go_sem,e]
  refine(o8 d hd id h y hid0).mono fun r h1 ⟨e1,e2⟩=>?_
  subst e1;subst e2
  simp only[go_sem];refine .intro (fun e3=>?_) (fun e3=>?_)
  ·simp only[go_sem]
   refine .same (.refl _) ?_;rw[show d.sync=(d.burn,9) by unfold D.sync;rw[if_neg (by simp[e]),if_pos e3]]
   exact⟨rfl,⟨_,ah ..,by rw[D.u0];exact hb.set hid⟩,Keep.upd id _⟩
  ·simp only[D.cells]
   simp only[go_sem,hb.len];refine .same (.refl _) ?_;rw[show d.sync=({d.burn with sy:=d.b.length},0) by unfold D.sync;rw[if_neg (by simp[e]),if_neg (by simp[e3])]]
   exact⟨rfl,⟨_,ah ..,by show By _ _ d.burn.b;rw[D.u0];exact hb.set hid⟩,Keep.upd id _⟩
theorem Ci(d:D)(hd:d.ok)(id:Nat)(h:Heap)(n:Int)(hdk:bS h id d):
  ai Tryz.prog 88 [.ptr id 0,.i n] h fun r h' =>r= .v (.int .i64 (d.cut n).2)∧bS h' id (d.cut n).1∧Keep id h h' :=by
 obtain⟨y,hid0,hb⟩:=hdk;have hid:=hid0;simp only[D.cells]at hid;have hok:=hd;obtain⟨d1,d2,d3,d4⟩:=hd;refine adJ Tryz.func88 41 [.tmp 4] fun hwf=>?_
 simp only[go_sem,hid];refine .intro (fun e=>?_) (fun e=>?_)
 ·simp only[go_sem]
  refine .same (.refl _) ?_;simp only[D.cut,e,if_true,ax];exact aff
 ·simp only[go_sem,hid]
  have bad:(n<0∨(d.b.length:Int)<n)→mP [.i 1] h fun r h' =>r= .v (.int .i64 (d.cut n).2)∧bS h' id (d.cut n).1∧Keep id h h' :=fun hbad=>by
   refine .same (.refl _) ?_;simp only[D.cut,e,if_pos hbad,ax];exact aff
  refine .intro (fun e2=>?_) (fun e2=>?_)
  ·have e2' :=adC e2
   simp only[go_sem,e2];exact bad (.inl e2')
  ·have e2' :=adD e2
   simp only[go_sem,e2,hid,hb.len];refine .intro (fun e3=>?_) (fun e3=>?_)
   ·have e3' :=adC e3
    simp only[go_sem];exact bad (.inr e3')
   ·have e3' :=adD e3
    have hno:¬(n<0∨(d.b.length:Int)<n):=adK;simp only[go_sem];refine(o8 d hok id h y hid0).mono fun r h1 ⟨e1,e2⟩=>?_
    subst e1;subst e2
    simp only[go_sem];refine .intro (fun e4=>?_) (fun e4=>?_)
    ·simp only[go_sem]
     refine .same (.refl _) ?_;rw[show d.cut n=(d.burn,9) by unfold D.cut;rw[if_neg (by simp[e]),if_neg hno,if_pos e4]]
     exact⟨rfl,⟨_,ah ..,by rw[D.u0];exact hb.set hid⟩,Keep.upd id _⟩
    ·have hb1:By (upd h id (some (.obj (d.burn.cells y) 87))) y d.b:=hb.set hid
     simp only[D.cells]at hb1⊢;simp only[go_sem];refine hb1.take (m:=n) (x:=.i64) n.toNat ?_ adK adK u5 fun z hz=>?_
     ·simp only[go_sem]
     ·simp only[go_sem]
      refine(qI z _ _ hz afJ).mono fun r h1 ⟨e1,e2⟩=>?_
      subst e1;subst e2
      simp only[go_sem];refine .same (.refl _) ?_;rw[show d.cut n=({d.burn with b:=d.b.take n.toNat,sy:=min d.sy n.toNat},0) by unfold D.cut;rw[if_neg (by simp[e]),if_neg hno,if_neg (by simp[e4])]]
      refine⟨rfl,⟨.sl ((d.b.take n.toNat).map aJ) .no,?_,.sl _ _⟩,Keep.upd id _⟩;simp only[ah,D.cells,D.Ox];have:(if n<(d.sy:Int)then n else(d.sy:Int))=((min d.sy n.toNat:Nat):Int):=by split<;>omega
      rw[this]
theorem D.Om{d:D}{b:List UInt8}(h1:d.off=false)(h2:d.f=0)(h3:d.b.length+b.length≤d.q):d.append b=({d with b:=d.b++b},0):=by
 rcases d with⟨q,b0,sy,f,off⟩
 subst h1;subst h2
 unfold D.append;rw[if_neg adR,if_neg adL];rfl
theorem D.V3{d:D}(h1:d.off=false)(h2:d.f=0):d.sync=({d with sy:=d.b.length},0):=by
 simp_all [D.sync,D.burn,if_neg]
theorem dthen{f:FuncId}{args:List AV}{h:Heap}{Q:AV→Heap→Prop}{X:AV}{id:Nat}{d:D}(hf:ai Tryz.prog f args h fun r h' =>r=X∧bS h' id d∧Keep id h h')(k:∀h',bS h' id d→Keep id h h'→Q X h'):ai Tryz.prog f args h Q:=
 hf.mono fun r h' ⟨e1,e2,e3⟩=>by subst e1;exact k h' e2 e3
theorem Ng(d:D)(hk:d.ok)(id:Nat)(h:Heap)(hd:bS h id d):ai Tryz.prog 86 [.ptr id 0] h fun r h' =>r= .sl (d.b.map aJ) .no∧h' =h:=by
 obtain⟨y,h1,h2⟩:=hd;exact PK d hk id h y h1 h2
theorem Pb(d:D)(id:Nat)(h:Heap)(hd:bS h id d):ai Tryz.prog 87 [.ptr id 0] h fun r h' =>r= .i d.b.length∧h' =h:=by
 obtain⟨y,h1,h2⟩:=hd;exact Sy d id h y h1 h2
theorem lq{d:D}{b:List UInt8}(h1:d.off=false)(h2:d.b.length+b.length≤d.q):d.append b=(D.burn {d with b:=d.b++b},if(D.burn {d with b:=d.b++b}).off then 9 else 0):=by
 simp_all [D.append,if_neg]
theorem D.Fy{d:D}{b:List UInt8}(h1:d.off=false)(h2:d.q<d.b.length+b.length):d.append b=(d,8):=by
 simp_all [D.append,if_neg,if_pos]
def Cg(s:BitVec 32):BitVec 32:=if s &&& 1#32=1#32 then(s>>>1) ^^^ 0xedb88320#32 else s>>>1
def Jd:Nat→BitVec 32→BitVec 32
 |0,s=>s
 |n+1,s=>Cg (Jd n s)
def rK(s:BitVec 32)(c:UInt8):BitVec 32:=Jd 8 (s ^^^ BitVec.ofNat 32 c.toNat)
def crc(l:List UInt8):BitVec 32:= ~~~ (l.foldl rK (BitVec.allOnes 32))
theorem RN(c:UInt8):IntKind.u32.wrap (c.toNat:Int)=((BitVec.ofNat 32 c.toNat).toNat:Int):=by
 rfl
theorem GF(x:BitVec 32):(((x &&& 1#32).toNat:Int)==1)=decide (x &&& 1#32=1#32):=by
 rw[Bool.eq_iff_iff,beq_iff_eq,decide_eq_true_iff];constructor
 ·intro h
  apply BitVec.eq_of_toNat_eq
  grind
 grind
theorem NF(y:AV)(l:List UInt8)(h:Heap)(hb:By h y l)(hl:l.length≤1000000000):
  ai Tryz.prog 48 [y] h fun r h' =>r= .v (.int .u32 ((crc l).toNat:Int))∧h' =h:=by
 refine adJ Tryz.func48 31 [.tmp 2] fun hwf=>?_
 simp only[go_sem,hb.len];refine .intro (fun m ρ h' =>h' =h∧∃i:Nat,i≤l.length∧m=l.length - i∧lk ρ 7=some y∧lk ρ 8=some (.i l.length)∧lk ρ 9=some (.i i)∧lk ρ 3=some (.v (.int .u32 (((l.take i).foldl rK (BitVec.allOnes 32)).toNat:Int)))) l.length ?_ ?_
 ·refine⟨rfl,0,adK,rfl,?_,?_,?_,?_⟩<;>simp only[go_sem]
  rfl
 ·rintro m ρ h' ⟨rfl,i,hi,rfl,r7,r8,r9,r3⟩
  simp only[go_sem,r7,r8,r9,r3];refine .intro (fun e=>?_) (fun e=>?_)
  ·have hlt:i<l.length:=adH e
   have w1:IntKind.i64.wrap ((i:Int)+1)=((i+1:Nat):Int):=adY;have hs:(l.take (i+1)).foldl rK (BitVec.allOnes 32)=rK ((l.take i).foldl rK (BitVec.allOnes 32)) l[i]:=by
    grind [List.take_succ_eq_append_getElem]
   generalize (l.take i).foldl rK (BitVec.allOnes 32)=s at r3 hs;simp only[go_sem,r7,r8,r9,r3];refine hb.idx i rfl hlt u5 u5a fun p hp=>?_
   simp only[go_sem,r7,r8,r9,r3,hp _,RN];refine .intro (fun m ρ h2=>h2=h'∧∃j:Nat,j≤8∧m=8 - j∧lk ρ 7=some y∧lk ρ 8=some (.i l.length)∧lk ρ 9=some (.i i)∧lk ρ 17=some (.i j)∧lk ρ 3=some (.v (.int .u32 ((Jd j (s ^^^ BitVec.ofNat 32 l[i].toNat)).toNat:Int)))) 8 ?_ ?_
   ·refine⟨rfl,0,adK,rfl,?_,?_,?_,?_,?_⟩<;>simp only[go_sem,r7,r8,r9,r3]
    rfl
   ·rintro m ρ h2 ⟨rfl,j,hj,rfl,q7,q8,q9,q17,q3⟩
    simp only[go_sem,q7,q8,q9,q17,q3];refine .intro (fun e=>?_) (fun e=>?_)
    ·have hjl:j<8:=by grind
     have w2:IntKind.i64.wrap ((j:Int)+1)=((j+1:Nat):Int):=adY;have hc:Jd (j+1) (s ^^^ BitVec.ofNat 32 l[i].toNat)=Cg (Jd j (s ^^^ BitVec.ofNat 32 l[i].toNat)):=rfl;generalize Jd j (s ^^^ BitVec.ofNat 32 l[i].toNat)=z at q3 hc;simp only[go_sem,q7,q8,q9,q17,q3,GF];refine .intro (fun e2=>?_) (fun e2=>?_)
     ·simp only[go_sem,q7,q8,q9,q17,q3,GF,w2]
      refine⟨_,?_,rfl,j+1,adK,rfl,?_,?_,?_,?_,?_⟩
      rotate_left 5
      ·simp only[go_sem,q7,q8,q9,q17,q3]
       simp_all [Cg,if_pos,adC]
      ·omega
      all_goals simp only[go_sem,q7,q8,q9,q17,q3,w2]
     ·simp only[go_sem,q7,q8,q9,q17,q3,GF,w2]
      refine⟨_,?_,rfl,j+1,adK,rfl,?_,?_,?_,?_,?_⟩
      rotate_left 5
      ·simp only[go_sem,q7,q8,q9,q17,q3]
       simp_all [Cg,if_neg,adD]
      ·omega
      all_goals simp only[go_sem,q7,q8,q9,q17,q3,w2]
    ·have hj8:j=8:=by grind
     subst hj8;simp only[go_sem,q7,q8,q9,q17,q3,w1];refine⟨_,?_,rfl,i+1,adK,rfl,?_,?_,?_,?_⟩
     rotate_left 4
     ·simp only[go_sem,q7,q8,q9,q17,q3]
      rw[hs];rfl
     ·omega
     all_goals simp only[go_sem,q7,q8,q9,q17,q3,w1]
  ·have hge:i=l.length:=by grind
   subst hge;rw[List.take_length]at r3;simp only[go_sem,r7,r8,r9,r3];exact adT
def wB(n:Nat):List UInt8:=[UInt8.ofNat n,UInt8.ofNat (n / 256),UInt8.ofNat (n / 65536),UInt8.ofNat (n / 16777216)]
def fV(l:List UInt8):Nat:=(l.getD 0 0).toNat+(l.getD 1 0).toNat*256+(l.getD 2 0).toNat*65536+(l.getD 3 0).toNat*16777216
theorem HP(n:Nat)(hn:n<4294967296)(h:Heap):ai Tryz.prog 47 [.v (.int .u32 (n:Int))] h fun r h' =>r= .sl ((wB n).map aJ) .no∧h' =h:=by
 refine adJ Tryz.func47 15 [.tmp 2] fun hwf=>?_
 have s8:=fun K=>LA (U:=U) (ty:=101) (K:=K) n 8 .u64 adO
 have s16:=fun K=>LA (U:=U) (ty:=101) (K:=K) n 16 .u64 adO
 have s24:=fun K=>LA (U:=U) (ty:=101) (K:=K) n 24 .u64 adO
 simp only[Int.cast_ofNat_Int]at s8 s16 s24;simp only[go_sem,↓s8,↓s16,↓s24,w8];exact afY
theorem DC(y:AV)(l:List UInt8)(h:Heap)(hb:By h y l)(hl:4≤l.length):ai Tryz.prog 186 [y] h fun r h' =>r= .v (.int .u32 (fV l:Nat))∧h' =h:=by
 refine adJ Tryz.func186 25 [.tmp 2] fun hwf=>?_
 have lt:∀c:UInt8,c.toNat<256:=fun c=>c.toNat_lt
 have hnum:fV l=l[0].toNat+l[1].toNat*2 ^ 8+l[2].toNat*2 ^ 16+l[3].toNat*2 ^ 24:=by
  grind [fV]
 generalize hc0:l[0]=c0 at hnum;generalize hc1:l[1]=c1 at hnum;generalize hc2:l[2]=c2 at hnum;generalize hc3:l[3]=c3 at hnum;have v:=fun c:UInt8=>w32 c.toNat adL
 have s1:=fun K=>FD (U:=U) (ty:=101) (K:=K) c1.toNat 8 .u64 adO (lt _)
 have s2:=fun K=>FD (U:=U) (ty:=101) (K:=K) c2.toNat 16 .u64 adO (lt _)
 have s3:=fun K=>FD (U:=U) (ty:=101) (K:=K) c3.toNat 24 .u64 adO (lt _)
 have o1:=fun K=>Lz (U:=U) (ty:=101) (K:=K) c0.toNat c1.toNat 8 adL adO (lt _)
 have o2:=fun K=>Lz (U:=U) (ty:=101) (K:=K) (c0.toNat+c1.toNat*2 ^ 8) c2.toNat 16 adL adO (lt _)
 have o3:=fun K=>Lz (U:=U) (ty:=101) (K:=K) (c0.toNat+c1.toNat*2 ^ 8+c2.toNat*2 ^ 16) c3.toNat 24 adL adO (lt _)
 simp only[Int.cast_ofNat_Int]at s1 s2 s3;simp only[go_sem];refine⟨.of adN,?_⟩;refine hb.idx 0 rfl adK u5 u5a fun p0 hp0=>?_
 rw[hc0]at hp0;simp only[go_sem,hp0 _,v];refine hb.idx 1 rfl adK u5 u5a fun p1 hp1=>?_
 rw[hc1]at hp1;simp only[go_sem,hp1 _,v,↓s1,↓o1];refine hb.idx 2 rfl adK u5 u5a fun p2 hp2=>?_
 rw[hc2]at hp2;simp only[go_sem,hp2 _,v,↓s2,↓o2];refine hb.idx 3 rfl adK u5 u5a fun p3 hp3=>?_
 rw[hc3]at hp3;simp only[go_sem,hp3 _,v,↓s3,↓o3];refine .same (.refl _) ⟨?_,rfl⟩;rw[hnum];rfl
theorem tT(n:Nat):(wB n).length=4:=rfl
theorem Pv(l:List UInt8):fV l<4294967296:=by
 have h:∀c:UInt8,c.toNat<256:=fun c=>c.toNat_lt
 have h0:=h (l.getD 0 0);have h1:=h (l.getD 1 0);have h2:=h (l.getD 2 0);have h3:=h (l.getD 3 0);unfold fV;omega
def frame(p:List UInt8):List UInt8:=wB p.length++wB (crc p).toNat++p
theorem mz(p:List UInt8):(frame p).length=8+p.length:=by grind [frame,tT]
def gY(l:List UInt8):Option (List UInt8):=
 if l.length<8 then none else if fV l<1∨8192<fV l∨l.length - 8<fV l then none else
  if(crc ((l.drop 8).take (fV l))).toNat=fV (l.drop 4)then some ((l.drop 8).take (fV l))else none
theorem nM{l p:List UInt8}(h:gY l=some p):8+p.length≤l.length∧1≤p.length∧p.length≤8192:=by
 unfold gY at h;split at h
 ·cases h
 ·split at h
  ·cases h
  ·split at h
   ·simp only[Option.some.injEq]at h
    subst h;rw[List.length_take,List.length_drop];omega
   ·cases h
theorem sk(l:List UInt8)(h:l.length<8):gY l=none:=by simp_all [gY,if_pos]
def scan(l:List UInt8):List (List UInt8)×Nat:=match h:gY l with
 |none=>([],0)
 |some p=>let r:=scan (l.drop (8+p.length));(p::r.1,8+p.length+r.2)
termination_by l.length
decreasing_by
 have:=nM h;rw[List.length_drop];omega
theorem rV{l:List UInt8}(h:gY l=none):scan l=([],0):=by
 grind [scan]
theorem vI{l p:List UInt8}(h:gY l=some p):scan l=(p::(scan (l.drop (8+p.length))).1,8+p.length+(scan (l.drop (8+p.length))).2):=by
 grind [scan]
def frames(ps:List (List UInt8)):List UInt8:=(ps.map frame).flatten
theorem wC(p:List UInt8)(ps:List (List UInt8)):frames (ps++ [p])=frames ps++frame p:=by simp[frames]
theorem PT(l:List UInt8):(scan l).2≤l.length:=by
 induction hn:l.length using Nat.strongRecOn generalizing l with
 |_ n ih=>
  cases hb:gY l with
  |none=>simp_all [rV,Nat.zero_le]
  |some p=>
   have hl:=nM hb;rw[vI hb];have:=ih (l.drop (8+p.length)).length adL _ rfl;rw[List.length_drop]at this;omega
theorem L5(y:AV)(l:List UInt8)(h:Heap)(hb:By h y l)(hl:l.length≤1000000):
  ai Tryz.prog 16 [y] h fun r h' =>r= .sl ((frame l).map aJ) .no∧Sub h h' :=by
 refine adJ Tryz.func16 13 [.tmp 2] fun hwf=>?_
 have w1:=w32 l.length adK;simp only[go_sem,hb.len,w1];refine(HP l.length adK h).pthen ?_;simp only[go_sem];refine(NF y l h hb adK).pthen ?_;simp only[go_sem];refine(HP (crc l).toNat (crc l).isLt h).pthen ?_;simp only[go_sem,hb.cells,hb.fit];refine(AW [.sl ((wB l.length).map aJ) .no,.sl ((wB (crc l).toNat).map aJ) .no,y] [wB l.length,wB (crc l).toNat,l] .full h (.cons (.sl _ _) (.cons (.sl _ _) (.cons hb .nil))) ?_ adR).sthen fun h' hs=>?_
 ·grind [tT]
 simp only[go_sem];refine .same (.refl _) ⟨?_,hs⟩;simp[frame,ax]
theorem Co(y:AV)(l:List UInt8)(h:Heap)(hb:By h y l)(hl:l.length≤2000000):
  ai Tryz.prog 139 [y] h fun r h' =>(∃P p b,r= .tup [P,.b b]∧By h P p∧gY l=if b=true then some p else none)∧h' =h:=by
 refine adJ Tryz.func139 36 [.tmp 2,.tmp 3] fun hwf=>?_
 rcases Nat.lt_or_ge l.length 8 with h8|h8
 ·have t1:decide ((l.length:Int)<8)=true:=decide_eq_true adK
  simp only[go_sem,hb.len,t1];exact .same (.refl _) ⟨⟨_,[],false,rfl,.nil _,sk l h8⟩,rfl⟩
 ·have t1:decide ((l.length:Int)<8)=false:=decide_eq_false adK
  simp only[go_sem,hb.len,t1];refine(DC y l h hb adK).pthen ?_;have hn:=Pv l;have w1:IntKind.i64.wrap ((fV l:Nat):Int)=((fV l:Nat):Int):=bh _ adK;have w2:IntKind.i64.wrap ((l.length:Int) - 8)=((l.length - 8:Nat):Int):=aeg
  by_cases hbad:fV l<1∨8192<fV l∨l.length - 8<fV l
  ·have hnone:gY l=none:=by unfold gY;rw[if_neg adK,if_pos hbad]
   have fin:∀Z:Prop,Z→Z:=fun _ z=>z
   by_cases c1:fV l<1
   ·have t2:decide (((fV l:Nat):Int)<1)=true:=decide_eq_true adK
    simp only[go_sem,hb.len,w1,w2,t2];exact afd
   ·have t2:decide (((fV l:Nat):Int)<1)=false:=decide_eq_false adK
    by_cases c2:8192<fV l
    ·have t3:decide ((8192:Int)<((fV l:Nat):Int))=true:=decide_eq_true adK
     simp only[go_sem,hb.len,w1,w2,t2,t3];exact afd
    ·have t3:decide ((8192:Int)<((fV l:Nat):Int))=false:=decide_eq_false adK
     have t4:decide (((l.length - 8:Nat):Int)<((fV l:Nat):Int))=true:=decide_eq_true adK;simp only[go_sem,hb.len,w1,w2,t2,t3,t4];exact afd
  ·have t2:decide (((fV l:Nat):Int)<1)=false:=decide_eq_false adK
   have t3:decide ((8192:Int)<((fV l:Nat):Int))=false:=decide_eq_false adK;have t4:decide (((l.length - 8:Nat):Int)<((fV l:Nat):Int))=false:=decide_eq_false adK;have w3:IntKind.i64.wrap ((8:Int)+((fV l:Nat):Int))=((8+fV l:Nat):Int):=aeg;simp only[go_sem,hb.len,w1,w2,t2,t3,t4,w3];refine hb.cut (m:=8) (m2:=(8+fV l:Nat)) (x:=.i64) (x2:=.i64) 8 (8+fV l) ?_ rfl ?_ rfl adK adK u5 fun z hz=>?_
   ·simp only[go_sem]
   ·simp only[go_sem]
   rw[Nat.add_sub_cancel_left]at hz;have hzl:((l.drop 8).take (fV l)).length≤1000000:=by rw[List.length_take,List.length_drop];omega
   simp only[go_sem];refine .quiet adN ?_;simp only[go_sem];refine⟨_,NF z _ h hz adK,?_⟩;simp only[go_sem];refine hb.from (m:=4) (x:=.i64) 4 ?_ rfl adK u5 fun z4 hz4=>?_
   ·simp only[go_sem]
   simp only[go_sem];refine⟨_,DC z4 _ h hz4 afh,?_⟩;simp only[go_sem];refine .same (.refl _) ⟨⟨z,_,_,rfl,hz,?_⟩,rfl⟩;unfold gY;rw[if_neg adK,if_neg hbad]
   by_cases hc:(crc ((l.drop 8).take (fV l))).toNat=fV (l.drop 4)
   ·rw[if_pos hc,hc];simp
   ·rw[if_neg hc,if_neg]
    simp only[beq_iff_eq];omega
theorem Qd:(U 37).bytes=24:=adV
def mB(p:List UInt8):AV:=.sl (p.map aJ) .no
theorem ID(ps:List (List UInt8))(h:Heap):Ab.Rows 5 h (ps.map mB) ps:=⟨adR,fun i h1 h2=>by simp only[adB];exact .sl _ _⟩
theorem zG(ps:List (List UInt8)):Sized 1 (ps.map mB):=(ID ps cH).sized
def ie(h:Heap)(y:AV)(xs:List AV)(sp:List Nat):Prop:=(y= .sl xs .full∧sp= [])∨∃k,y= .sl xs (.own k)∧h k=some (.spare xs.length 1)∧sp= [k]
theorem Kw{l:List UInt8}{at_:Nat}{ps:List (List UInt8)}{p:List UInt8}(h:scan l=(ps++(scan (l.drop at_)).1,at_+(scan (l.drop at_)).2))(hp:gY (l.drop at_)=some p):
  scan l=((ps++ [p])++(scan (l.drop (at_+(8+p.length)))).1,(at_+(8+p.length))+(scan (l.drop (at_+(8+p.length)))).2):=by
 simp_all [vI,List.drop_drop,Nat.add_assoc]
theorem PU(y:AV)(l:List UInt8)(h:Heap)(hb:By h y l)(hl:l.length≤2000000):
  ai Tryz.prog 85 [y] h fun r h' =>∃z sp,r= .tup [z,.i ((scan l).2:Nat)]∧ie h' z ((scan l).1.map mB) sp∧Sub h h'∧∀i∈sp,h i=none:=by
 refine adJ Tryz.func85 29 [.tmp 2,.tmp 3] fun hwf=>?_
 simp only[go_sem];refine .intro (fun m ρ h' =>∃(i:Nat) (ps:List (List UInt8)) (z:AV),Acc U 37 h h' z (ps.map mB)∧fO h h'∧ps.length≤i∧i≤l.length∧m=l.length - i∧scan l=(ps++(scan (l.drop i)).1,i+(scan (l.drop i)).2)∧
  lk ρ 0=some y∧lk ρ 4=some z∧lk ρ 5=some (.i (i:Nat))) l.length ?_ ?_
 ·refine⟨0,[],_,.full (.refl h),.refl h,adR,adK,rfl,adR,?_,?_,?_⟩<;>simp only[go_sem]
 ·rintro m ρ h' ⟨i,ps,z,ha,hk,hpi,hi,rfl,hsc,r0,r4,r5⟩
  have hb' :=hb.gh hk;simp only[go_sem,r0,r4,r5];refine hb'.from (m:=i) (x:=.i64) i ?_ rfl hi u5 fun y2 hy2=>?_
  ·rfl
  simp only[go_sem,r0,r4,r5];refine(Co y2 (l.drop i) h' hy2 adL).mono fun r h2 ⟨⟨P,p,b,e1,hP,hbg⟩,e2⟩=>?_
  subst e1;subst e2
  cases b with
  |false=>
   rw[if_neg adR]at hbg;rw[rV hbg]at hsc;simp only[go_sem,r0,r4,r5];have hs:=ha.1;rw[hsc];rcases ha.2 with rfl|⟨k,k1,rfl,k2⟩
   ·exact .same (.refl _) ⟨_,[],rfl,.inl ⟨adR,rfl⟩,hs,adR⟩
   ·rw[u27]at k2
    exact .same (.refl _) ⟨_,[k],rfl,.inr ⟨k,adR,adL,rfl⟩,hs,adL⟩
  |true=>
   rw[if_pos rfl]at hbg;have hpl:=nM hbg;rw[List.length_drop]at hpl;have hsc' :=Kw hsc hbg;have w1:IntKind.i64.wrap ((8:Int)+(p.length:Int))=((8+p.length:Nat):Int):=adY;have w2:IntKind.i64.wrap ((i:Int)+((8+p.length:Nat):Int))=((i+(8+p.length):Nat):Int):=adY;simp only[go_sem,r0,r4,r5];refine(qI P p h2 hP adK).pthen' ?_;simp only[go_sem,r0,r4,r5];refine ha.app (zs:=[mB p]) adO adO (fun k hk=>hk) (by grind [u27,zG]) (by grind [u27,Sized,mB,AV.cells]) (by grind [Qd]) fun z' h3 ha' hk' =>?_
   rw[show ps.map mB++ [mB p]=(ps++ [p]).map mB by simp]at ha'
   have hP3:=hP.gh hk';simp only[go_sem,r0,r4,r5,hP3.len,w1,w2];refine⟨_,?_,i+(8+p.length),ps++ [p],z',ha',hk.trans hk',adL,adK,rfl,hsc',?_,?_,?_⟩
   ·omega
   all_goals simp only[go_sem,r0,r4,r5,hP3.len,w1,w2]
theorem PV(l:List UInt8):(scan l).1.length≤l.length∧∀p∈(scan l).1,p.length≤8192:=by
 induction hn:l.length using Nat.strongRecOn generalizing l with
 |_ n ih=>
  cases hb:gY l with
  |none=>simp_all [rV,Nat.zero_le]
  |some p=>
   have hl:=nM hb;rw[vI hb]
   grind
theorem ie.row{h:Heap}{y:AV}{xs:List AV}{sp:List Nat}(hg:ie h y xs sp):∃q,y= .sl xs q:=by
 rcases hg with⟨rfl,_⟩|⟨k,rfl,_⟩<;>exact⟨_,rfl⟩
def Touch(S:List Nat)(h h' :Heap):Prop:=∀j k,j∉S→h j=some k→h' j=some k
theorem Touch.refl(S:List Nat)(h:Heap):Touch S h h:=fun _ _ _ e=>e
theorem Touch.trans{S T:List Nat}{a b c:Heap}(x:Touch S a b)(y:Touch T b c):Touch (S++T) a c:=fun j k e hj=>y j k adL (x j k adL hj)
theorem Touch.of{S:List Nat}{h h' :Heap}(hs:Ab.Sub h h'):Touch S h h' :=fun _ _ _ e=>hs _ _ e
theorem Touch.keep{i:Nat}{h h' :Heap}(hs:Keep i h h'):Touch [i] h h' :=fun j k e hj=>hs j k adL hj
theorem Touch.upd{h:Heap}{i:Nat}{k:Option Blk}:Touch [i] h (upd h i k):=Touch.keep (Keep.upd i k)
theorem Touch.mono{S T:List Nat}{h h' :Heap}(ht:Touch S h h')(hs:∀i∈S,i∈T∨h i=none):Touch T h h' :=fun j k e hj=>ht j k adL hj
theorem ie.touch{h h' :Heap}{y:AV}{xs:List AV}{sp S:List Nat}(hg:ie h y xs sp)(ht:Touch S h h')(hn:∀i∈sp,i∉S):ie h' y xs sp:=by
 rcases hg with⟨rfl,rfl⟩|⟨k,rfl,k1,rfl⟩
 ·exact .inl ⟨rfl,rfl⟩
 ·exact .inr ⟨k,rfl,ht _ _ (hn k adR) k1,rfl⟩
theorem ie.has{h:Heap}{y:AV}{xs:List AV}{sp:List Nat}(hg:ie h y xs sp):∀i∈sp,∃n,h i=some (.spare n 1):=by
 rcases hg with⟨rfl,rfl⟩|⟨k,rfl,k1,rfl⟩
 ·simp
 grind
theorem ie.app{h:Heap}{y v:AV}{xs zs:List AV}{sp:List Nat}{Q:AV→Heap→Prop}(hg:ie h y xs sp)(hsrc:∀k:List AV→Prop,k zs→iL U 37 h v k)(s1:Sized 1 xs)(s2:Sized 1 zs)
  (hlen:xs.length+zs.length≤1000000000000) (hk:∀y' h' sp',ie h' y' (xs++zs) sp'→Touch sp h h'→(∀i∈sp',i∈sp∨h i=none)→Q y' h'):apK U h y v Q (.slice 37):=by
 rcases hg with⟨rfl,rfl⟩|⟨k,rfl,k1,rfl⟩
 ·refine(qA ..).mpr ⟨adO,adO,hsrc _ ⟨by grind [u27],by grind [u27],by grind [Qd],fun hn=>?_,fun hn=> .own fun id hid=>?_⟩⟩
  ·subst hn
   exact hk _ _ [] (.inl ⟨adR,rfl⟩) (.refl _ _) adR
  ·rw[u27]
   exact hk _ _ [id] (.inr ⟨id,rfl,by rw[ah,adE],rfl⟩) (.of ((Ab.Sub.refl h).new hid _)) adL
 ·refine(Cb ..).mpr ⟨adO,adO,hsrc _ ⟨by grind [u27],by grind [u27],by grind [Qd],by grind [u27],?_⟩⟩
  rw[u27];exact hk _ _ [k] (.inr ⟨k,rfl,by rw[ah,adE],rfl⟩) .upd adR
def JAt(h:Heap)(t jid did:Nat)(ps:List (List UInt8))(down:Bool)(sp:List Nat):Prop:=
 ∃y xs,h jid=some (.obj [.ptr did 0,y,.b down] t)∧ie h y xs sp∧∀g,Ab.Rows 5 g xs ps
theorem JAt.touch{h h' :Heap}{t jid did:Nat}{ps:List (List UInt8)}{down:Bool}{sp S:List Nat}(hj:JAt h t jid did ps down sp)(ht:Touch S h h')(h1:jid∉S)(hn:∀i∈sp,i∉S):JAt h' t jid did ps down sp:=by
 obtain⟨y,xs,a,b,c⟩:=hj;exact⟨y,xs,ht _ _ h1 a,b.touch ht hn,c⟩
theorem JAt.sub{h h' :Heap}{t jid did:Nat}{ps:List (List UInt8)}{down:Bool}{sp:List Nat}(hj:JAt h t jid did ps down sp)(ht:Ab.Sub h h'):JAt h' t jid did ps down sp:=
 hj.touch (S:=[]) (.of ht) adR adR
theorem Kt{h:Heap}{xs:List AV}{ps:List (List UInt8)}{x:AV}{p:List UInt8}(hr:Ab.Rows 5 h xs ps)(hx:By h x p):Ab.Rows 5 h (xs++ [x]) (ps++ [p]):=⟨by simp[hr.1],fun i h1 h2=>by
 have hl:=hr.1
 by_cases hi:i<xs.length
 ·rw[List.getElem_append_left hi,List.getElem_append_left adK]
  exact hr.2 i hi adK
 ·have e:i=xs.length:=by grind
  subst e;simpa[hl]using hx⟩
theorem xB(jid did:Nat)(ps:List (List UInt8))(down:Bool)(sp:List Nat)(h:Heap)(hj:JAt h 160 jid did ps down sp):ai Tryz.prog 39 [.ptr jid 0] h fun r h' =>r= .b down∧h' =h:=by
 obtain⟨y,xs,a,_,_⟩:=hj;refine adJ Tryz.func39 7 [.tmp 2] fun hwf=>?_
 simp only[go_sem,a];exact adT
theorem zD(jid did:Nat)(ps:List (List UInt8))(down:Bool)(sp:List Nat)(h:Heap)(hj:JAt h 160 jid did ps down sp)(hl:ps.length≤1000000)(hp:∀p∈ps,p.length≤1000000):
  ai Tryz.prog 36 [.ptr jid 0] h fun r h' =>∃q,r= .sl (ps.map mB) q∧Ab.Sub h h' :=by
 obtain⟨y,xs,a,b,c⟩:=hj;refine adJ Tryz.func36 22 [.tmp 2] fun hwf=>?_
 obtain⟨qy,rfl⟩:=b.row;have hlen:=(c h).1;simp only[go_sem,a];refine .intro (fun m ρ g=>∃(i:Nat) (z:AV),Acc U 37 h g z ((ps.take i).map mB)∧i≤ps.length∧m=ps.length - i∧lk ρ 3=some z∧lk ρ 9=some (.sl xs qy)∧lk ρ 10=some (.i xs.length)∧lk ρ 11=some (.i i)) (ps.length - 0) ?_ ?_
 ·refine⟨0,_,.full (.refl h),adK,rfl,?_,?_,?_,?_⟩<;>simp only[go_sem]
 ·rintro m ρ g ⟨i,z,ha,hi,rfl,r3,r9,r10,r11⟩
  by_cases hc:i<ps.length
  ·have d1:decide ((i:Int)<(xs.length:Int))=true:=decide_eq_true adK
   have w1:IntKind.i64.wrap ((i:Int)+1)=((i+1:Nat):Int):=adY;have hx:=(c g).2 i adK hc;simp only[go_sem,r3,r9,r10,r11,d1];refine .at i adK (by rw[hx.cells];rfl) ?_
   simp only[go_sem,r3,r9,r10,r11,hx.cells,hx.MI,and_self];refine(qI xs[i] ps[i] g hx adL).pthen' ?_;simp only[go_sem,r3,r9,r10,r11];refine ha.app (v:=.sl [mB ps[i]] .full) (zs:=[mB ps[i]]) adO adO (fun k hk=>hk) (by grind [u27,zG]) (by grind [u27,Sized,mB,AV.cells]) (by grind [Qd]) fun z' g2 ha' hk' =>?_
   simp only[go_sem,r3,r9,r10,r11,w1];refine⟨_,?_,i+1,z',?_,adK,rfl,?_,?_,?_,?_⟩
   ·omega
   ·grind [List.take_succ_eq_append_getElem]
   all_goals simp only[go_sem,r3,r9,r10,r11,w1]
  ·obtain rfl:i=ps.length:=by omega
   have d1:decide ((ps.length:Int)<(xs.length:Int))=false:=decide_eq_false adK;simp only[go_sem,r3,r9,r10,r11,d1];rw[List.take_length]at ha;obtain⟨q,rfl⟩:=ha.row;exact .same (.refl _) ⟨q,rfl,ha.1⟩
def D.cc(d:D):D×Nat:=
 let c:=if(scan d.b).2<d.b.length then d.cut ((scan d.b).2:Nat)else(d,0)
 if c.2=0 then c.1.sync else c
theorem D.MR{d:D}(hd:d.ok):d.cc.1.ok:=by
 grind [scan,Nat,ok,D.Ci,D.cc,sync,D.xN]
theorem Ml(d:D)(hd:d.ok)(id:Nat)(h:Heap)(hdk:bS h id d):
  ai Tryz.prog 35 [.ptr id 0] h fun r h' =>∃J,r= .tup [J,.i (d.cc.2:Nat)]∧bS h' id d.cc.1∧Keep id h h'∧
   if d.cc.2=0 then∃jid sp,J= .ptr jid 0∧h jid=none∧JAt h' 160 jid id (scan d.b).1 false sp∧∀i∈sp,h i=none∧i≠jid else J= .v (.pointer none):=by
 refine ai.of_wp hU Tryz.func35 rfl adV 35 rfl [.tmp 2,.tmp 3] rfl (adz rfl) ?_;refine .one hU hm ?_;simp only[go_sem]
 show WP _ _ _ _ _ _
 refine .one hU hm ?_;simp only[go_sem]
 show WP _ _ _ _ _ _
 have hlen:d.b.length≤2000000:=by have:=hd.1;have:=hd.2.1;omega
 obtain⟨at_,hat⟩:∃n,(scan d.b).2=n:=⟨_,rfl⟩;have hatl:=PT d.b;rw[hat]at hatl;refine .cut (fun ρ g=>∃z sp,ie g z ((scan d.b).1.map mB) sp∧Ab.Sub h g∧(∀i∈sp,h i=none)∧lk ρ 0=some (.ptr id 0)∧lk ρ 4=some z∧lk ρ 5=some (.i at_)) (.vc hU hm ?_) ?_
 ·simp only[go_sem]
  refine(Ng d hd id h hdk).pthen ?_;simp only[go_sem];refine(PU _ d.b h (.sl _ _) hlen).mono fun r g ⟨z,sp,e1,hg,hs,hsp⟩=>?_
  subst e1;rw[hat];simp only[go_sem];refine⟨z,sp,hg,hs,hsp,?_,?_,?_⟩<;>simp only[go_sem]
 rintro ρ g ⟨z,sp,hg,hs,hsp,r0,r4,r5⟩
 have hdk1:=hdk.keep hs.gh;have hob:∀i∈sp,i≠id:=fun i hi e=>by
  obtain⟨y,hy,_⟩:=hdk
  grind
 refine .cut (fun ρ g=>∃d1,d.cc=d1.sync∧d1.ok∧bS g id d1∧ie g z ((scan d.b).1.map mB) sp∧Keep id h g∧lk ρ 0=some (.ptr id 0)∧lk ρ 4=some z) (.vc hU hm ?_) ?_
 ·simp only[go_sem,r0,r4,r5]
  refine(Pb d id g hdk1).pthen ?_;simp only[go_sem,r0,r4,r5];refine .intro (fun e=>?_) (fun e=>?_)
  ·have e:=adC e
   have e' :at_<d.b.length:=adK;simp only[go_sem,r0,r4,r5];refine dthen (Ci d hd id g at_ hdk1) fun g1 hd1 kp=>?_
   have hO:d.cc=if(d.cut (at_:Nat)).2=0 then(d.cut (at_:Nat)).1.sync else d.cut (at_:Nat):=by
    simp_all [D.cc,if_pos]
   have ok1:=D.Ci hd at_;generalize d.cut (at_:Nat)=D0 at hO hd1 ok1⊢;obtain⟨D1,c1⟩:=D0;simp only at hO hd1 ok1⊢;simp only[go_sem,r0,r4,r5]
   by_cases hc:c1=0
   ·subst hc
    rw[if_pos rfl]at hO;simp only[go_sem,r0,r4,r5];refine⟨D1,hO,ok1,hd1,hg.touch (Touch.keep kp) adL,(hs.keep id).trans kp,?_,?_⟩<;>simp only[go_sem,r0,r4]
   ·rw[if_neg hc]at hO
    have t1:(((c1:Nat):Int) !=0)=true:=adL;simp only[go_sem,r0,r4,r5,t1];refine .same (.refl _) ⟨_,by rw[hO];rfl,adL,(hs.keep id).trans kp,?_⟩
    grind
  ·have e:=adD e
   have e' :¬at_<d.b.length:=adK;have hO:d.cc=d.sync:=by
    simp_all [D.cc,if_neg]
   simp only[go_sem,r0,r4,r5];refine⟨d,hO,hd,hdk1,hg,hs.keep id,?_,?_⟩<;>simp only[go_sem,r0,r4]
 rintro ρ g1 ⟨d1,hO,ok1,hd1,hg1,kp1,r0,r4⟩
 refine .vc hU hm ?_;simp only[go_sem,r0,r4];refine dthen (xN d1 ok1 id g1 hd1) fun g2 hd2 kp2=>?_
 rw[hO];generalize d1.sync=D0 at hd2⊢;obtain⟨D2,c2⟩:=D0;simp only at hd2⊢;have kp:=kp1.trans kp2;have hg2:=hg1.touch (Touch.keep kp2) adL;simp only[go_sem,r0,r4]
 by_cases hc:c2=0
 ·subst hc
  obtain⟨qz,rfl⟩:=hg2.row;simp only[go_sem,r0,r4];intro jid hjid;simp only[go_sem,r0,r4];have hne:jid≠id:=fun e=>by
   obtain⟨y,hy,_⟩:=hd2
   grind
  have hjh:h jid=none:=by
   cases hh:h jid with
   |none=>rfl
   |some k=>rw[kp _ _ hne hh]at hjid;omega
  have hsj:∀i∈sp,i≠jid:=fun i hi e=>by
   obtain⟨n,hn⟩:=hg2.has i hi
   grind
  refine .same (.refl _) ⟨_,rfl,hd2.keep (.new hjid),fun j k e hj=>?_,jid,sp,rfl,hjh,⟨_,_,ah ..,hg2.touch .upd adL,fun g=>ID _ g⟩,fun i hi=>⟨hsp i hi,hsj i hi⟩⟩
  have h2:=kp j k e hj;rw[ag _ _ adL];exact ahR
 ·have t1:(((c2:Nat):Int) !=0)=true:=by grind
  simp only[go_sem,r0,r4,t1];exact .same (.refl _) ⟨_,rfl,hd2,kp,adL⟩
def jadd(d:D)(ps:List (List UInt8))(down:Bool)(p:List UInt8):(D×List (List UInt8)×Bool)×Nat:=
 if down=true then((d,ps,true),9)else if p.length=0∨8192<p.length then((d,ps,false),1)else
  if(d.append (frame p)).2=8 then(((d.append (frame p)).1,ps,false),8)else
   if(if(d.append (frame p)).2=0 then(d.append (frame p)).1.sync else d.append (frame p)).2=0 then
    (((if(d.append (frame p)).2=0 then(d.append (frame p)).1.sync else d.append (frame p)).1,ps++ [p],false),0)
   else(((if(d.append (frame p)).2=0 then(d.append (frame p)).1.sync else d.append (frame p)).1,ps,true),9)
theorem D.C6(d:D)(b:List UInt8):(d.append b).2=0∨(d.append b).2=8∨(d.append b).2=9:=by
 grind [D.append]
theorem D.KH(d:D):d.sync.2=0∨d.sync.2=9:=by
 grind [D.sync]
theorem H7(d:D)(hd:d.ok)(id jid:Nat)(ps:List (List UInt8))(down:Bool)(sp:List Nat)(h:Heap)(x:AV)(p:List UInt8)(hdk:bS h id d)(hj:JAt h 160 jid id ps down sp)(hx:By h x p)(hp:p.length≤1000000)(hps:ps.length≤1000000):
  ai Tryz.prog 41 [.ptr jid 0,x] h fun r h' =>r= .i ((jadd d ps down p).2:Nat)∧∃sp',bS h' id (jadd d ps down p).1.1∧JAt h' 160 jid id (jadd d ps down p).1.2.1 (jadd d ps down p).1.2.2 sp'∧
   Touch (id::jid::sp) h h'∧∀i∈sp',i∈sp∨h i=none:=by
 obtain⟨y,xs,hjid,hg,hrs⟩:=hj;have hne:jid≠id:=fun e=>by
  obtain⟨z,hz,_⟩:=hdk;rw[←e,hjid]at hz;simp only[Option.some.injEq,Blk.obj.injEq]at hz;exact absurd hz.2 adO
 refine ai.of_wp hU Tryz.func41 rfl adN 51 rfl [.tmp 4] rfl (adz rfl) ?_;refine .one hU hm ?_;simp only[go_sem]
 show WP _ _ _ _ _ _
 refine .one hU hm ?_;cases down with
 |true=>
  have hJ:jadd d ps true p=((d,ps,true),9):=by simp[jadd]
  simp only[go_sem,hjid];refine .same (.refl _) ?_;rw[hJ];exact⟨rfl,sp,hdk,⟨y,xs,hjid,hg,hrs⟩,.refl _ _,fun i hi=> .inl hi⟩
 |false=>
  simp only[go_sem,hjid]
  show WP _ _ _ _ _ _
  refine .one hU hm ?_;have bad:(p.length=0∨8192<p.length)→mP [.i 1] h fun r h' =>r= .i ((jadd d ps false p).2:Nat)∧∃sp',bS h' id (jadd d ps false p).1.1∧JAt h' 160 jid id (jadd d ps false p).1.2.1 (jadd d ps false p).1.2.2 sp'∧
    Touch (id::jid::sp) h h'∧∀i∈sp',i∈sp∨h i=none:=fun hb=>by
   have hJ:jadd d ps false p=((d,ps,false),1):=by unfold jadd;rw[if_neg adR,if_pos hb]
   refine .same (.refl _) ?_;rw[hJ];exact⟨rfl,sp,hdk,⟨y,xs,hjid,hg,hrs⟩,.refl _ _,fun i hi=> .inl hi⟩
  by_cases h0:p.length=0
  ·have t0:(((p.length:Nat):Int)==0)=true:=by simp[h0]
   simp only[go_sem,hx.len,t0];exact bad (.inl h0)
  ·have t0:(((p.length:Nat):Int)==0)=false:=beq_eq_false_iff_ne.mpr adK
   by_cases h1:8192<p.length
   ·have t1:decide ((8192:Int)<(p.length:Int))=true:=decide_eq_true adK
    simp only[go_sem,hx.len,t0,t1];exact bad (.inr h1)
   ·have t1:decide ((8192:Int)<(p.length:Int))=false:=decide_eq_false adK
    have hJ:jadd d ps false p=if(d.append (frame p)).2=8 then(((d.append (frame p)).1,ps,false),8)else
      if(if(d.append (frame p)).2=0 then(d.append (frame p)).1.sync else d.append (frame p)).2=0 then
       (((if(d.append (frame p)).2=0 then(d.append (frame p)).1.sync else d.append (frame p)).1,ps++ [p],false),0)
      else(((if(d.append (frame p)).2=0 then(d.append (frame p)).1.sync else d.append (frame p)).1,ps,true),9):=by
     have hno:¬(p.length=0∨8192<p.length):=adK;unfold jadd;rw[if_neg adR,if_neg hno]
    have hcode:=D.C6 d (frame p);simp only[go_sem,hx.len,t0,t1]
    show WP _ _ _ _ _ _
    refine .one hU hm ?_;simp only[go_sem];refine .calls (hm1 jid _) [0,1,2,3,4,5,6,7] (.hm1 hjid) adN rfl ?_;simp only[go_sem,hjid];refine(L5 x p h hx hp).sthen fun g1 hs1=>?_
    refine⟨.hm1 (hs1 _ _ hjid),?_⟩;simp only[go_sem];refine dthen (uY d hd id g1 _ (frame p) (hdk.keep hs1.gh) (.sl _ _) (by rw[mz];omega)) fun g2 hd2 kp=>?_
    have hj2:g2 jid=some (.obj [.ptr id 0,y,.b false] 160):=kp _ _ hne (hs1 _ _ hjid);refine⟨.hm1 hj2,?_⟩;have ok2:=D.uY hd (frame p);have hkp:Keep id h g2:=(hs1.keep id).trans kp;have hgid:∀i∈sp,i≠id:=fun i hi e=>by
     obtain⟨n,hn⟩:=hg.has i hi;obtain⟨z,hz,_⟩:=hdk;rw[e,hz]at hn;cases hn
    have hg2:ie g2 y xs sp:=hg.touch (Touch.keep hkp) (fun i hi=>by simp[hgid i hi])
    have hx2:By g2 x p:=by
     obtain⟨z,hz,_⟩:=hdk;exact(hx.keep hkp hz adO)
    have hT2:Touch (id::jid::sp) h g2:=(Touch.keep hkp).mono (fun i hi=> .inl (by simp at hi;simp[hi]))
    generalize d.append (frame p)=A at hJ hcode hd2 ok2⊢;obtain⟨d2,c2⟩:=A;simp only at hJ hcode hd2 ok2⊢;simp only[go_sem]
    show WP _ _ _ _ _ _
    refine .one hU hm ?_;have downed:∀(g:Heap) (e:D) (ρ:Env),bS g id e→g jid=some (.obj [.ptr id 0,y,.b false] 160)→ie g y xs sp→Touch (id::jid::sp) h g→jadd d ps false p=((e,ps,true),9)→
      (mP [.i 9] (upd g jid (some (.obj [.ptr id 0,y,.b true] 160))) fun r h' =>r= .i ((jadd d ps false p).2:Nat)∧∃sp',bS h' id (jadd d ps false p).1.1∧JAt h' 160 jid id (jadd d ps false p).1.2.1 (jadd d ps false p).1.2.2 sp'∧
       Touch (id::jid::sp) h h'∧∀i∈sp',i∈sp∨h i=none):=fun g e ρ a1 a2 a3 a4 hJ=>by
     rw[hJ];have hsj:∀i∈sp,i≠jid:=fun i hi e=>by
      obtain⟨n,hn⟩:=hg.has i hi;rw[e,hjid]at hn;cases hn
     have ht:Touch [jid] g (upd g jid (some (.obj [.ptr id 0,y,.b true] 160))):=.upd;refine .same (.refl _) ⟨rfl,sp,?_,⟨y,xs,ah ..,a3.touch ht (fun i hi=>by simp[hsj i hi]),hrs⟩,(a4.trans ht).mono (fun i hi=> .inl (by simp at hi⊢;rcases hi with h|h|h|h<;>simp[h])),fun i hi=> .inl hi⟩
     obtain⟨z,z1,z2⟩:=a1;exact⟨z,ht _ _ (by simp;exact fun e=>hne e.symm) z1,z2.keep (Keep.upd jid _) a2 adO⟩
    have hc0:=hcode;rcases hcode with rfl|rfl|rfl
    ·
     simp only[go_sem];refine .one hU hm ?_;simp only[go_sem,hj2];refine dthen (xN d2 ok2 id g2 hd2) fun g3 hd3 kp3=>?_
     have hj3:g3 jid=some (.obj [.ptr id 0,y,.b false] 160):=kp3 _ _ hne hj2;have hg3:ie g3 y xs sp:=hg2.touch (Touch.keep kp3) (fun i hi=>by simp[hgid i hi])
     have hx3:By g3 x p:=by
      obtain⟨z,hz,_⟩:=hd2;exact(hx2.keep kp3 hz adO)
     have hT3:Touch (id::jid::sp) h g3:=(hT2.trans (Touch.keep kp3)).mono (fun i hi=> .inl (by simp at hi⊢;rcases hi with h|h|h|h<;>simp[h]))
     have hcs:=D.KH d2;rw[if_neg adO,if_pos rfl]at hJ;generalize d2.sync=A at hJ hcs hd3⊢;obtain⟨d3,c3⟩:=A;simp only at hJ hcs hd3⊢;rcases hcs with rfl|rfl
     ·simp only[go_sem]
      refine .one hU hm ?_;simp only[go_sem];refine .one hU hm ?_;simp only[go_sem];refine .last (hm1 jid _) [0,1,2,3,4,5,6,7,8,9,10] (.hm1 hj3) adN rfl adN rfl ?_;simp only[go_sem,hj3];refine(qI x p g3 hx3 adK).pthen' ?_;obtain⟨qy,rfl⟩:=hg3.row;refine⟨.hm1 hj3,?_⟩;simp only[go_sem,hj3];refine hg3.app (v:=.sl [mB p] .full) (zs:=[mB p]) (fun k hk=>hk) (hrs h).sized (by simp[Sized,mB,AV.cells]) (by have:=(hrs h).1;simp;omega) fun z g4 sp' hg4 ht4 hsp' =>?_
      have hsj:∀i∈sp,i≠jid:=fun i hi e=>by
       obtain⟨n,hn⟩:=hg.has i hi;rw[e,hjid]at hn;cases hn
      have hj4:g4 jid=some (.obj [.ptr id 0,.sl xs qy,.b false] 160):=ht4 _ _ (fun hi=>hsj _ hi rfl) hj3
      refine⟨.hm1 hj4,?_⟩;obtain⟨qz,rfl⟩:=hg4.row;simp only[go_sem,hj4];refine .vc hU hm ?_;simp only[go_sem];have ht5:Touch [jid] g4 (upd g4 jid (some (.obj [.ptr id 0,.sl (xs++ [mB p]) qz,.b false] 160))):=.upd;have hsj' :∀i∈sp',i≠jid:=fun i hi e=>by
       obtain⟨n,hn⟩:=hg4.has i hi;rw[e,hj4]at hn;cases hn
      rw[if_pos rfl]at hJ;refine .same (.refl _) ?_;rw[hJ];refine⟨rfl,sp',?_,⟨_,_,ah ..,hg4.touch ht5 (fun i hi=>by simp[hsj' i hi]),fun g=>Kt (hrs g) (.sl _ _)⟩,?_,fun i hi=>?_⟩
      ·obtain⟨z,z1,z2⟩:=hd3
       have hid4:g4 id=some (.obj (d3.cells z) 87):=ht4 _ _ (fun hi=>hgid _ hi rfl) z1
       have z4:By g4 z d3.b:=by
        rcases z2 with z2|⟨i,off,cs,rfl,a1,a2,a3⟩
        ·exact .inl z2
        ·exact .oa (ht4 _ _ (fun hi=>by obtain⟨n,hn⟩:=hg3.has i hi;rw[a1]at hn;cases hn) a1) a2 a3
       exact⟨z,ht5 _ _ (by simp;exact fun e=>hne e.symm) hid4,z4.keep (Keep.upd jid _) hj4 adO⟩
      ·exact((hT3.trans ht4).trans ht5).mono (fun i hi=> .inl (by simp at hi⊢;grind))
      ·rcases hsp' i hi with h1|h1
       ·exact .inl h1
       ·cases hh:h i with
        |none=>exact .inr rfl
        |some k=>
         by_cases hin:i∈id::jid::sp
         ·simp only[List.mem_cons]at hin
          rcases hin with e|e|e
          ·subst e;rw[hd3.choose_spec.1]at h1;cases h1
          ·subst e;rw[hj3]at h1;cases h1
          ·exact .inl e
         ·rw[hT3 i k hin hh]at h1;cases h1
     ·simp only[go_sem]
      refine .one hU hm ?_;simp only[go_sem,hj3];exact downed g3 d3 [] hd3 hj3 hg3 hT3 hJ
    ·
     simp only[go_sem];refine .same (.refl _) ?_;rw[hJ];exact⟨rfl,sp,hd2,⟨y,xs,hj2,hg2,hrs⟩,hT2,fun i hi=> .inl hi⟩
    ·simp only[go_sem]
     refine .one hU hm ?_;simp only[go_sem,hj2];refine .one hU hm ?_;simp only[go_sem,hj2];exact downed g2 d2 [] hd2 hj2 hg2 hT2 hJ
theorem VC{d:D}{ps:List (List UInt8)}{p:List UInt8}(h1:d.off=false)(h2:d.f=0)(hp1:1≤p.length)(hp2:p.length≤8192)(hf:d.b.length+(frame p).length≤d.q):
  jadd d ps false p=(({d with b:=d.b++frame p,sy:=(d.b++frame p).length},ps++ [p],false),0):=by
 have hno:¬(p.length=0∨8192<p.length):=adK;have hs:({d with b:=d.b++frame p}:D).sync=({d with b:=d.b++frame p,sy:=(d.b++frame p).length},0):=D.V3 h1 h2
 unfold jadd;rw[if_neg adR,if_neg hno,D.Om h1 h2 hf,if_neg adK,if_pos rfl,hs,if_pos rfl]
theorem Mk{d:D}{ps:List (List UInt8)}{p:List UInt8}(h1:d.off=false)(hp1:1≤p.length)(hp2:p.length≤8192)(hf:d.q<d.b.length+(frame p).length):
  jadd d ps false p=((d,ps,false),8):=by
 have hno:¬(p.length=0∨8192<p.length):=adK;unfold jadd;rw[if_neg adR,if_neg hno,D.Fy h1 hf,if_pos rfl]
theorem Nt:scan []=([],0):=by grind [rV,sk]
end Go.Proofs.YtfdgemhnlennbaaGreatDoor
namespace Go.Bf
open Go Go.Ab Go.Proofs.YtfdgemhnlennbaaGreatDoor
def fnv(h:BitVec 64)(n:Nat):BitVec 64:=(h ^^^ BitVec.ofNat 64 n)*1099511628211#64
def OO(g:BitVec 64→Nat→BitVec 64):Nat→BitVec 64→BitVec 64→BitVec 64
 |0,_,h=>h
 |n+1,p,h=>OO g n (p>>>8) (g h (p &&& 255#64).toNat)
def JA(n:Nat)(p h:BitVec 64):BitVec 64:=OO fnv n p h
theorem JD(g:BitVec 64→Nat→BitVec 64)(n:Nat)(p h:BitVec 64):OO g (n+1) p h=OO g n (p>>>8) (g h (p &&& 255#64).toNat):=rfl
theorem JC(p h:BitVec 64):JA 0 p h=h:=rfl
theorem JB(n:Nat)(p h:BitVec 64):JA (n+1) p h=JA n (p>>>8) (fnv h (p &&& 255#64).toNat):=JD fnv n p h
def u6(prev:BitVec 64)(l:Txt):BitVec 64:=l.foldl (fun h c=>fnv h c.toNat) (JA 8 prev 14695981039346656037#64)
def qM:Nat→BitVec 64→Txt
 |0,_=>[]
 |n+1,h=>UInt8.ofNat h.toNat::qM n (h>>>8)
def dY(h:BitVec 64)(o:OpD):Txt:=qM 8 h++jQ o
theorem iP:∀(n:Nat) (h:BitVec 64),(qM n h).length=n
 |0,_=>rfl
 |n+1,h=>by simp[qM,iP n]
structure dV where
 s:aq
 log:List qv
 ch:BitVec 64
 ps:List Txt
 down:Bool
def jO(e:dV)(p:Txt):Option OpD:=if p.length<8 then none else match oL (p.drop 8)with
 |some o=>if dY e.ch o=p then some o else none
 |none=>none
def nQ(e:dV)(g:aq×ig×qv×Int)(p:Txt):dV:={e with s:=g.1,log:=e.log++ [g.2.2.1],ch:=u6 e.ch p}
def ny(e:dV)(p:Txt):Option dV:=match jO e p with
 |some o=>if(aT e.s o).2.2.2=0 then some (nQ e (aT e.s o) p)else none
 |none=>none
def mU:dV→List Txt→Option dV
 |e,[]=>some e
 |e,p::r=>match ny e p with
  |some e' =>mU e' r
  |none=>none
def iZ(ps:List Txt):dV:=⟨zf,[],0,ps,false⟩
def vK(ps:List Txt):Option dV:=mU (iZ ps) ps
def Du(n:Int):ig:=⟨n,naM,false,an,false,0⟩
def doE(e:dV)(d:D)(o:OpD):dV×D×ig:=
 if e.down then(e,d,Du 9)else
 let g:=aT e.s o
 if g.2.2.2≠0 then(e,d,g.2.1)else
 let p:=dY e.ch o
 let a:=jadd d e.ps e.down p
 if a.2=0 then({nQ e g p with ps:=a.1.2.1,down:=a.1.2.2},a.1.1,g.2.1)else({e with ps:=a.1.2.1,down:=a.1.2.2},a.1.1,Du (a.2:Int))
theorem sH:∀(l:List Txt) (e:dV) (p:Txt),mU e (l++ [p])=(mU e l).bind fun e' =>ny e' p
 | [],e,p=>by
  grind [mU,ny]
 |q::l,e,p=>by
  simp only[List.cons_append,mU];cases ny e q with
  |none=>rfl
  |some e' =>exact sH l e' p
theorem P7{e e' :dV}{p:Txt}(h:ny e p=some e')(ps:List Txt):ny {e with ps:=ps} p=some {e' with ps:=ps}:=by
 unfold ny at h⊢;have hr:jO {e with ps:=ps} p=jO e p:=rfl
 rw[hr];cases hq:jO e p with
 |none=>rw[hq]at h;cases h
 |some o=>
  rw[hq]at h;simp only at h⊢;split at h
  ·rename_i hg
   rw[if_pos hg];cases h;rfl
  ·cases h
theorem HO:∀(l:List Txt) {e e' :dV},mU e l=some e'→∀ps,mU {e with ps:=ps} l=some {e' with ps:=ps}
 | [],e,e',h,ps=>by cases h;rfl
 |p::l,e,e',h,ps=>by
  simp only[mU]at h⊢;cases hs:ny e p with
  |none=>grind
  |some e1=>
   rw[hs]at h;rw[P7 hs ps];exact HO l h ps
def Hr(e:dV):Prop:=vK e.ps=some {e with down:=false}
theorem Nh{e:dV}{o:OpD}(hf:cB o=true)(h64:mO o):jO e (dY e.ch o)=some o:=by
 unfold jO;rw[if_neg (by simp[dY,iP])]
 grind [dY,jQ,List.drop_left',iP,OR]
theorem jy{s:aq}{o:OpD}(h:(aT s o).2.2.2=0):cB o=true:=by
 have hp:(kj s o).1=0:=by
  unfold aT at h
  grind
 exact(uv hp).2.1
theorem Se{e:dV}{o:OpD}(he:Hr e)(hg:(aT e.s o).2.2.2=0)(h64:mO o):Hr {nQ e (aT e.s o) (dY e.ch o)with ps:=e.ps++ [dY e.ch o],down:=false}:=by
 unfold Hr vK at he⊢;have h1:=HO _ he (e.ps++ [dY e.ch o]);rw[sH,show iZ (e.ps++ [dY e.ch o])= {iZ e.ps with ps:=e.ps++ [dY e.ch o]} from rfl,h1]
 simp only[Option.bind_some];unfold ny;have hr:jO {({e with down:=false}:dV)with ps:=e.ps++ [dY e.ch o]} (dY e.ch o)=some o:=by
  have:=Nh (e:={({e with down:=false}:dV)with ps:=e.ps++ [dY e.ch o]}) (jy hg) h64
  exact aer
 rw[hr];simp only;generalize dY e.ch o=p;rw[if_pos hg];rfl
theorem IS:∀(f v:Nat),(oX f v).length≤f
 |0,_=>by simp[oX]
 |f+1,v=>by
  unfold oX;split
  ·simp
  ·simp only[List.length_cons]
   have:=IS f (v / 128);omega
theorem j3(n:Int):(iS n).length≤10:=IS 10 _
theorem Pw(n:Int):1≤(iS n).length:=List.length_pos_iff.2 (IQ 10 _ adO)
theorem fT(s:Txt):(dw s).length≤10+s.length:=by
 grind [dw,adE,j3]
theorem IN{v:bt}(h:v=an∨br v=true):(oE v).length≤84:=by
 have hs:v.kind=3∨v.kind=5→v.s.length≤64:=fun e=>by
  rcases h with rfl|h
  ·decide
  simp_all [vS]
 unfold oE;rw[adE];have h1:=j3 v.kind;split
 ·rename_i e
  have:=fT v.s;omega
 ·have:=j3 v.n
  omega
theorem CH{o:OpD}(hf:OpF o):1≤(jQ o).length∧(jQ o).length≤5000:=by
 unfold jQ;simp only[adE];have h1:=j3 o.kind;have h0:=Pw o.kind;have h2:=fT o.subj;have h3:=fT o.case;have h4:=fT o.field;have h5:=fT o.to;have h6:=IN hf.val;have h7:=j3 o.review;have h8:=fT o.text;have h9:=fT o.reason;have h10:=IN (v:=dN o.glass) (.inr (E7 _));have:=hf.subj;have:=hf.case;have:=hf.field;have:=hf.to;have:=hf.text;have:=hf.reason;omega
theorem uA{h:BitVec 64}{o:OpD}(hf:OpF o):9≤(dY h o).length∧(dY h o).length≤5008:=by
 grind [CH,dY,adE,iP]
end Go.Bf
namespace Go.Ab
open Go
theorem Qk(n:Nat)(hn:n<18446744073709551616):IntKind.u64.wrap (n:Int)=n:=Rf .u64 n rfl aht
theorem Wo(n:Int):IntKind.u64.wrap n=((n % 18446744073709551616).toNat:Int):=by
 grind [Int.emod_nonneg,Int,IntKind.wrap,IntKind.signed,IntKind.bits]
theorem Rg(n:Nat):IntKind.u64.wrap (n:Int)=((n % 18446744073709551616:Nat):Int):=by
 rfl
theorem FC(a b:Nat)(f:BitVec 64→BitVec 64→BitVec 64):IntKind.u64.wrap (((f (BitVec.ofInt IntKind.u64.bits (a:Int)) (BitVec.ofInt IntKind.u64.bits (b:Int))).toNat:Nat):Int)=((f (BitVec.ofNat 64 a) (BitVec.ofNat 64 b)).toNat:Int):=by
 exact Qk _ (f _ _).isLt
theorem PB(a b k:Nat)(ha:a<2 ^ k)(hlt:a+b*2 ^ k<18446744073709551616):(BitVec.ofNat 64 a|||BitVec.ofNat 64 (b*2 ^ k)).toNat=a+b*2 ^ k:=by
 exact aiF
theorem Pu(n:Nat)(hn:n<18446744073709551616):(BitVec.ofNat 64 18446744073709551615 ^^^ BitVec.ofNat 64 n).toNat=18446744073709551615 - n:=by
 have e:BitVec.ofNat 64 18446744073709551615 ^^^ BitVec.ofNat 64 n= ~~~ BitVec.ofNat 64 n:=by
  rfl
 rw[e,BitVec.toNat_not,BitVec.toNat_ofNat,Nat.mod_eq_of_lt adK]
section
variable {U : TypeId → TI} {ty : TypeId} {K : AV → Prop}
@[go_sem high] theorem XG(n:Nat)(hn:n<18446744073709551616):unA .xor (.v (.int .u64 (n:Int))) K=K (.v (.int .u64 ((18446744073709551615 - n:Nat):Int))):=by
 have h:=(FC 18446744073709551615 n (· ^^^ ·)).trans (congrArg (fun z:Nat=>(z:Int)) (Pu n hn))
 exact(CR ..).trans (congrArg (fun z=>K (.v (.int .u64 z))) h)
@[go_sem high] theorem Xf(n:Int)(h1: -9223372036854775808≤n)(h2:n≤9223372036854775807):unA .xor (.i n) K=K (.i (-n - 1)):=by
 have e:(BitVec.ofInt 64 (-1) ^^^ BitVec.ofInt 64 n)= ~~~ BitVec.ofInt 64 n:=by
  rfl
 have e2:(((BitVec.ofInt 64 (-1) ^^^ BitVec.ofInt 64 n).toNat:Nat):Int)=(-n - 1) % 18446744073709551616:=by
  grind [BitVec.toNat_not,BitVec.ofInt,BitVec.toNat_ofInt]
 have h:IntKind.i64.wrap (((BitVec.ofInt 64 (-1) ^^^ BitVec.ofInt 64 n).toNat:Nat):Int)= -n - 1:=by
  grind [IntKind.wrap,IntKind.signed,IntKind.bits]
 exact(CR ..).trans (congrArg (fun z=>K (.i z)) h)
theorem u64_and(n k:Nat)(hn:n<18446744073709551616)(hk:k≤63):cq U .and ty (.v (.int .u64 (n:Int))) (.v (.int .u64 ((2 ^ k - 1:Nat):Int))) K=K (.v (.int .u64 ((n % 2 ^ k:Nat):Int))):=by
 have h63:2 ^ k≤2 ^ 63:=Nat.pow_le_pow_right adO hk;have e:(BitVec.ofNat 64 n &&& BitVec.ofNat 64 (2 ^ k - 1)).toNat=n % 2 ^ k:=by
  grind [BitVec.toNat_and,BitVec.toNat_ofNat,Nat.mod_eq_of_lt,Nat.and_two_pow_sub_one_eq_mod]
 have h:=(FC n (2 ^ k - 1) (· &&& ·)).trans (congrArg (fun z:Nat=>(z:Int)) e)
 exact(Ls ..).trans (congrArg (fun z=>K (.v (.int .u64 z))) h)
@[go_sem high] theorem u64_or(a b k:Nat)(ha:a<2 ^ k)(hlt:a+b*2 ^ k<18446744073709551616):cq U .or ty (.v (.int .u64 (a:Int))) (.v (.int .u64 ((b*2 ^ k:Nat):Int))) K=K (.v (.int .u64 ((a+b*2 ^ k:Nat):Int))):=by
 have h:=(FC a (b*2 ^ k) (· ||| ·)).trans (congrArg (fun z:Nat=>(z:Int)) (PB a b k ha hlt))
 exact(UN ..).trans (congrArg (fun z=>K (.v (.int .u64 z))) h)
theorem CP(n k:Nat)(kk:IntKind)(hk:k≤63):cq U .shr ty (.v (.int .u64 (n:Int))) (.v (.int kk (k:Int))) K=K (.v (.int .u64 ((n / 2 ^ k:Nat):Int))):=by
 grind [Lt,min,Int,IntKind.bits,Int.fdiv_eq_ediv_of_nonneg,Int.le_of_lt,Int.pow_pos]
@[go_sem high] theorem Qe(n k:Nat)(kk:IntKind)(hk:k≤63):cq U .shl ty (.v (.int .u64 (n:Int))) (.v (.int kk (k:Int))) K=K (.v (.int .u64 ((n*2 ^ k % 18446744073709551616:Nat):Int))):=by
 rw[QA];have:min (k:Int).toNat IntKind.u64.bits=k:=aht;rw[this,show((n:Int)*2 ^ k)=((n*2 ^ k:Nat):Int) by simp,Rg]
 exact propext ⟨fun h=>h.2,fun h=>⟨Int.natCast_nonneg k,h⟩⟩
@[go_sem high] theorem V7(m:Nat):cq U .shl ty (.v (.int .u64 (m:Int))) (.v (.int .u64 1)) K=K (.v (.int .u64 ((m*2 % 18446744073709551616:Nat):Int))):=Qe m 1 .u64 adO
@[go_sem high] theorem V8(m:Nat):cq U .shr ty (.v (.int .u64 (m:Int))) (.v (.int .u64 1)) K=K (.v (.int .u64 ((m / 2:Nat):Int))):=CP m 1 .u64 adO
@[go_sem high] theorem V9(m:Nat):cq U .shr ty (.v (.int .u64 (m:Int))) (.v (.int .u64 7)) K=K (.v (.int .u64 ((m / 128:Nat):Int))):=CP m 7 .u64 adO
@[go_sem high] theorem Wa(m:Nat):cq U .shr ty (.v (.int .u64 (m:Int))) (.v (.int .u64 8)) K=K (.v (.int .u64 ((m / 256:Nat):Int))):=CP m 8 .u64 adO
@[go_sem high] theorem V6(m:Nat)(hm:m<18446744073709551616):cq U .and ty (.v (.int .u64 (m:Int))) (.v (.int .u64 1)) K=K (.v (.int .u64 ((m % 2:Nat):Int))):=u64_and m 1 hm adO
@[go_sem high] theorem Td(m:Nat)(hm:m<18446744073709551616):cq U .and ty (.v (.int .u64 (m:Int))) (.v (.int .u64 127)) K=K (.v (.int .u64 ((m % 128:Nat):Int))):=u64_and m 7 hm adO
@[go_sem high] theorem Te(m:Nat)(hm:m<18446744073709551616):cq U .and ty (.v (.int .u64 (m:Int))) (.v (.int .u64 255)) K=K (.v (.int .u64 ((m % 256:Nat):Int))):=u64_and m 8 hm adO
@[go_sem high] theorem KN(m:Nat)(hm:m<128):cq U .or ty (.v (.int .u64 (m:Int))) (.v (.int .u64 128)) K=K (.v (.int .u64 ((m+128:Nat):Int))):=u64_or m 1 7 hm adK
theorem wu8(n:Nat):IntKind.u8.wrap (n:Int)=((UInt8.ofNat n).toNat:Int):=by
 rfl
@[go_sem high] theorem Uv(c:UInt8):cq U .and ty (.v (.int .u8 (c.toNat:Int))) (.v (.int .u8 127)) K=K (.v (.int .u8 ((c.toNat % 128:Nat):Int))):=by
 have hc:=c.toNat_lt;have e:(BitVec.ofNat 8 c.toNat &&& BitVec.ofNat 8 127).toNat=c.toNat % 128:=by
  rw[BitVec.toNat_and,BitVec.toNat_ofNat,BitVec.toNat_ofNat,Nat.mod_eq_of_lt adK,Nat.mod_eq_of_lt adK];exact Nat.and_two_pow_sub_one_eq_mod c.toNat 7
 have h:IntKind.u8.wrap (((BitVec.ofInt IntKind.u8.bits (c.toNat:Int) &&& BitVec.ofInt IntKind.u8.bits 127).toNat:Nat):Int)=((c.toNat % 128:Nat):Int):=by
  grind [IntKind.wrap,IntKind.signed,IntKind.bits]
 exact(Ls ..).trans (congrArg (fun z=>K (.v (.int .u8 z))) h)
end
end Go.Ab
namespace Go.Proofs.YtfdgemhnlennbaaGreatDoor
open Go Go.Ab Go.Bf
abbrev lf(h h' :Heap)(y:AV)(l:Txt):Prop:=Acc U 5 h h' y (l.map aJ)
theorem u5n:(U 5).sz≠0:=adO
theorem YG:(U 5).bytes≠0:=adO
theorem lf.frz{g h:Heap}{y:AV}{l:Txt}(ha:lf g h y l):Frz g h y (.sl (l.map aJ) .no):=by
 obtain⟨q,rfl⟩:=Acc.row ha;refine .sl _ _ _ rfl adK fun i h1 h2 j h3 h4=> .keep _ ?_
 simp only[adB,aJ,AV.cells,List.getElem_singleton];exact afx
theorem lf.pure{f:FuncId}{args:List AV}{h:Heap}{l:Txt}(hf:∀g,Ab.Sub h g→ai Tryz.prog f args g fun r h' =>lf g h' r l):ai Tryz.prog f args h fun r h' =>r= .sl (l.map aJ) .no∧h' =h:=
 ai.freeze fun g hg _=>(hf g hg).mono fun r h' hr=>⟨hr.1,_,lf.frz hr,rfl⟩
theorem lf.app{g h:Heap}{y v:AV}{l m:Txt}{Q:AV→Heap→Prop}(ha:lf g h y l)(hsrc:∀k:List AV→Prop,k (m.map aJ)→iL U 5 h v k)(hlen:l.length+m.length≤140737488355328)
  (hk:∀y' h',lf g h' y' (l++m)→Q y' h'):apK U h y v Q (.slice 5):=
 Acc.app ha u5n YG hsrc (by grind [u5,jJ]) (by grind [u5,jJ]) (by grind [Tc]) fun y' h' hy _=>hk y' h' adL
theorem AT(y:AV)(l:Txt)(h:Heap)(hb:By h y l)(hl:l.length≤140737488355328):
  ai Tryz.prog 65 [y] h fun r h' =>lf h h' r l:=by
 refine adJ Tryz.func65 8 [.tmp 2] fun hwf=>?_
 simp only[go_sem];refine hb.VL fun b hbn=>?_
 simp only[go_sem];refine jH.intro (fun e=>?_) (fun e=>?_)
 ·have hl0:l= []:=Classical.byContradiction fun hh=>by grind
  subst hl0;simp only[go_sem];exact .same (.refl _) (Acc.full (.refl _))
 ·simp only[go_sem]
  rw[hb.src u5];simp only[go_sem];refine⟨adK,fun hn=>?_,fun hn=>?_⟩
  ·have hl0:l= []:=by simp_all
   subst hl0;simp only[go_sem];exact .same (.refl _) (Acc.full (.refl _))
  ·refine .own fun id hid=>?_
   simp only[go_sem];exact .same (.refl _) ⟨(Ab.Sub.refl h).new hid _,.inr ⟨id,hid,rfl,by rw[ah,u5,adA]⟩⟩
theorem Tl(n:Int)(hn:i64 n):∃m:Nat,IntKind.u64.wrap n=(m:Int)∧m<18446744073709551616∧(0≤n→m*2 % 18446744073709551616=zig n)∧(n<0→18446744073709551615 - m*2 % 18446744073709551616=zig n):=by
 unfold i64 at hn;refine⟨(n % 18446744073709551616).toNat,Wo n,adK,fun h=>?_,fun h=>?_⟩<;>unfold zig
 ·grind
 grind
theorem Ik(y:AV)(l:Txt)(n:Int)(h:Heap)(hb:By h y l)(hl:l.length≤1000000)(hn:i64 n):
  ai Tryz.prog 147 [y,.i n] h fun r h' =>lf h h' r (l++iS n):=by
 obtain⟨m,hm0,hm2,hm3,hm4⟩:=Tl n hn;have hz:=N3 hn;have hz64:=Fp hn;refine ai.of_wp hU Tryz.func147 rfl adV 32 rfl [.tmp 4] rfl (adz rfl) ?_;refine .cut (fun ρ g=>g=h∧lk ρ 0=some y∧lk ρ 1=some (.i n)) (.vc hU hm ?_) ?_
 ·simp only[go_sem]
  refine⟨rfl,?_,?_⟩<;>simp only[go_sem]
 rintro ρ g ⟨rfl,r0,r1⟩
 refine .cut (fun ρ g' =>g' =g∧lk ρ 0=some y∧lk ρ 1=some (.i n)∧lk ρ 5=some (.v (.int .u64 ((m*2 % 18446744073709551616:Nat):Int)))) (.vc hU hm ?_) ?_
 ·simp only[go_sem,r0,r1,hm0]
  refine⟨rfl,?_,?_,?_⟩<;>simp only[go_sem,r0,r1]
 clear r0 r1
 rintro ρ g' ⟨rfl,r0,r1,r5⟩
 refine .cut (fun ρ g=>g=g'∧lk ρ 0=some y∧lk ρ 5=some (.v (.int .u64 ((zig n:Nat):Int)))) (.vc hU hm ?_) ?_
 ·cases d1:decide (n<0)
  ·have h0:=adD d1
   simp only[go_sem,r0,r1,r5,d1,hm3 adK];rw[←hm3 adK]at*;refine⟨rfl,?_,?_⟩<;>simp only[go_sem,r0,r5]
  ·have h0:=adC d1
   simp only[go_sem,r0,r1,r5,d1,hm4 h0,show m*2 % 18446744073709551616<18446744073709551616 from adK]
   refine⟨rfl,?_,?_⟩<;>simp only[go_sem,r0]
 clear r0 r1 r5 hm3 hm4
 rintro ρ g ⟨rfl,r0,r5⟩
 refine .vc hU hm ?_;simp only[go_sem,r0,r5];refine(AT y l g hb adK).mono fun r h1 ha=>?_
 simp only[go_sem,r0,r5];refine .intro (fun k ρ h' =>∃(v:Nat) (o:Txt) (z:AV),lf g h' z (l++o)∧o++oX k v=iS n∧v<128 ^ k∧v<18446744073709551616∧0<k∧o.length≤10∧lk ρ 5=some (.v (.int .u64 (v:Int)))∧lk ρ 6=some z) 10 ?_ ?_
 ·refine⟨zig n,[],r,adL,rfl,hz,hz64,adO,adR,?_,?_⟩<;>simp only[go_sem,r5]
 clear r0 r5
 rintro k ρ h' ⟨v,o,z,ha,ho,hv,hv64,hk,hol,r5,r6⟩
 obtain⟨k,rfl⟩:∃j,k=j+1:=⟨k - 1,adK⟩;have hlo:=congrArg List.length ho;rw[adE]at hlo;have hnl:=j3 n;cases d1:decide ((128:Int)≤(v:Int))
 ·have h0:=adD d1
  have e:oX (k+1) v= [UInt8.ofNat v]:=by unfold oX;grind
  simp only[go_sem,r5,r6,d1,wu8];refine lf.app ha (m:=[UInt8.ofNat v]) (fun _ hk=>hk) adL fun z' h2 ha' =>?_
  simp only[go_sem];refine .same (.refl _) ?_;rw[←ho,e,←List.append_assoc];exact ha'
 ·have h0:=adC d1
  have e:oX (k+1) v=UInt8.ofNat (v % 128+128)::oX k (v / 128):=by conv=>lhs;unfold oX;rw[if_neg adK]
  rw[e]at hlo ho;simp only[List.length_cons]at hlo;have hk1:0<k:=by
   grind
  simp only[go_sem,r5,r6,d1,hv64,KN _ (Nat.mod_lt v (show 128>0 by decide)),wu8]
  refine lf.app ha (m:=[UInt8.ofNat (v % 128+128)]) (fun _ hk=>hk) adL fun z' h2 ha' =>?_
  simp only[go_sem,r5];refine⟨k,adK,v / 128,o++ [UInt8.ofNat (v % 128+128)],z',?_,?_,?_,adK,hk1,?_,?_,?_⟩
  ·grind
  ·grind
  ·omega
  ·grind
  ·rfl
  rfl
theorem CC(y:AV)(l:Txt)(n:Int)(h:Heap)(hb:By h y l)(hl:l.length≤1000000)(hn:i64 n):
  ai Tryz.prog 147 [y,.i n] h fun r h' =>r= .sl ((l++iS n).map aJ) .no∧h' =h:=
 lf.pure fun g hg=>Ik y l n g (hb.sub hg) hl hn
theorem NH(y:AV)(l s:Txt)(h:Heap)(hb:By h y l)(hl:l.length≤1000000)(hs:s.length≤1000000):
  ai Tryz.prog 148 [y,.s s] h fun r h' =>lf h h' r (l++dw s):=by
 have hn:i64 (s.length:Int):=⟨adK,adK⟩;refine adJ Tryz.func148 11 [.tmp 4] fun hwf=>?_
 simp only[go_sem];refine(Ik y l s.length h hb hl hn).mono fun r h' ha=>?_
 simp only[go_sem];have hnl:=j3 s.length;refine lf.app ha (m:=s) (fun _ hk=>(S2 ..).mpr ⟨adV,u5,hk⟩) adL fun z' h2 ha' =>?_
 simp only[go_sem];refine .same (.refl _) ?_;unfold dw;rw[←List.append_assoc];exact ha'
theorem xO(y:AV)(l s:Txt)(h:Heap)(hb:By h y l)(hl:l.length≤1000000)(hs:s.length≤1000000):
  ai Tryz.prog 148 [y,.s s] h fun r h' =>r= .sl ((l++dw s).map aJ) .no∧h' =h:=
 lf.pure fun g hg=>NH y l s g (hb.sub hg) hl hs
theorem Iu(y:AV)(l:Txt)(v:bt)(h:Heap)(hb:By h y l)(hl:l.length≤900000)(hk:i64 v.kind)(hn:i64 v.n)(hs:v.s.length≤1000000):
  ai Tryz.prog 149 [y,aP v] h fun r h' =>r= .sl ((l++oE v).map aJ) .no∧h' =h:=by
 have hnl:=j3 v.kind;have hl2:(l++iS v.kind).length≤1000000:=adL;refine adJ Tryz.func149 20 [.tmp 4] fun hwf=>?_
 simp only[go_sem,aP];intro id hid;simp only[go_sem];refine(CC y l v.kind _ (hb.new hid) adK hk).pthen ?_;simp only[go_sem];refine(zT v.kind _).pthen ?_;simp only[go_sem];cases d1:(v.kind==3||v.kind==5)
 ·have e:¬(v.kind=3∨v.kind=5):=by grind
  simp only[go_sem];refine(CC (.sl ((l++iS v.kind).map aJ) .no) (l++iS v.kind) v.n _ (.sl _ _) hl2 hn).pthen ?_;simp only[go_sem];refine .mk _ (.refl _) (.aj hid) ⟨?_,rfl⟩;unfold oE;rw[if_neg e,List.append_assoc];rfl
 ·have e:v.kind=3∨v.kind=5:=by grind
  simp only[go_sem];refine(xO (.sl ((l++iS v.kind).map aJ) .no) (l++iS v.kind) v.s _ (.sl _ _) hl2 hs).pthen ?_;simp only[go_sem];refine .mk _ (.refl _) (.aj hid) ⟨?_,rfl⟩;unfold oE;rw[if_pos e,List.append_assoc];rfl
theorem E8(b:Bool)(h:Heap):ai Tryz.prog 145 [.b b] h fun r h' =>r=aP (dN b)∧h' =h:=by
 refine adJ Tryz.func145 8 [.cell 2 33] fun hwf=>?_
 simp only[go_sem];intro i1 h1;simp only[go_sem];intro i2 h2;have hne:=aH h2;have n2:=aB h2;cases b
 ·exact aji
 ·exact aji
def RO(s:RS):Blk:=.obj [.sl (s.b.map aJ) .no,.i (s.at_:Int),.b s.bad] 273
def WfR(s:RS):Prop:=s.at_≤s.b.length∧s.b.length≤1000000
def RC(f:FuncId)(args:List AV)(s:RS)(R:AV)(s' :RS):Prop:=∀(h:Heap) (id:Nat),h id=some (RO s)→ai Tryz.prog f (.ptr id 0::args) h fun r h' =>r=R∧h' =upd h id (some (RO s'))
theorem RC.go{f:FuncId}{args:List AV}{s s' :RS}{R:AV}(hc:RC f args s R s'){h:Heap}{id:Nat}{Q:AV→Heap→Prop}(hid:h id=some (RO s))(k:Q R (upd h id (some (RO s')))):ai Tryz.prog f (.ptr id 0::args) h Q:=
 (hc h id hid).mono fun r h' ⟨e1,e2⟩=>agl
theorem zx{s:RS}{a:Nat}(h:WfR s):WfR (mh s a):=by
 unfold mh;split
 ·rename_i hc
  exact⟨by have:=h.1;show a≤s.b.length;omega,h.2⟩
 omega
theorem zy:∀(f i u:Nat) (l:Txt),(rj f i u l).2≤i+l.length∧((rj f i u l).2=0∨i<(rj f i u l).2)
 |0,_,_,_=>⟨Nat.zero_le _,.inl rfl⟩
 |_+1,_,_,[]=>⟨Nat.zero_le _,.inl rfl⟩
 |f+1,i,u,c::r=>by
  unfold rj;split
  ·omega
  ·split
   ·simp
   ·obtain⟨h1,h2⟩:=zy f (i+1) (u+c.toNat % 128*128 ^ i) r
    grind
theorem l9{s:RS}{lo hi:Int}(h:WfR s):WfR (rIn s lo hi).2:=by
 unfold rIn;split
 ·exact h
 ·simp only
  split
  ·exact zx h
  ·have:=(zy 10 0 0 (s.b.drop s.at_)).1
   exact⟨adL,h.2⟩
theorem pg(s:RS)(a:Nat):RC 188 [.i (a:Int)] s (.tup []) (mh s a):=fun h id hid=>by
 refine adJ Tryz.func188 28 [] fun hwf=>?_
 have g:=hid;have d0:decide ((0:Int)≤(a:Int))=true:=decide_eq_true adK;unfold RO at g;cases d1:s.bad
 ·rw[d1]at g
  cases d2:decide ((a:Int)≤(s.at_:Int))
  ·have h2:=adD d2
   simp only[go_sem,g,d0,d2];exact .mk _ (.refl _) (.refl _) ⟨rfl,by simp_all [mh,if_neg,bG]⟩
  ·have h2:=adC d2
   simp only[go_sem,g,d0,d2];exact .mk _ (.refl _) (.refl _) ⟨rfl,by rw[mh,if_pos ⟨d1,adK⟩];rfl⟩
 ·rw[d1]at g
  simp only[go_sem,g];exact .mk _ (.refl _) (.refl _) ⟨rfl,by simp_all [mh,if_neg,bG]⟩
theorem Lo(s:RS):RC 189 [] s (.i (s.at_:Int)) s:=fun h id hid=>by
 refine adJ Tryz.func189 7 [.tmp 2] fun hwf=>?_
 have g:=hid;unfold RO at g;simp only[go_sem,g];exact ags
theorem Ac(s:RS):RC 191 [] s (.i (if s.bad then 7 else 0)) s:=fun h id hid=>by
 refine adJ Tryz.func191 7 [.tmp 2] fun hwf=>?_
 have g:=hid;unfold RO at g;cases d1:s.bad<;>rw[d1]at g<;>simp only[go_sem,g]<;>exact .mk _ (.refl _) (.refl _) ⟨rfl,(bG hid).symm⟩
theorem Sd(s:RS):RC 146 [] s (.i (if Kr s then 0 else 7)) s:=fun h id hid=>by
 refine adJ Tryz.func146 15 [.tmp 2] fun hwf=>?_
 have g:=hid;unfold RO at g;cases d1:decide ((s.at_:Int)<(s.b.length:Int))
 ·have h1:=adD d1
  simp only[go_sem,g,adA,d1];refine⟨.of adN,?_⟩;refine(Ac s).go hid ?_;rw[bG hid];simp only[go_sem];refine .mk _ (.refl _) (.refl _) ⟨?_,rfl⟩;unfold Kr;rw[decide_eq_true (show s.b.length≤s.at_ by omega)]
  cases s.bad<;>rfl
 ·have h1:=adC d1
  simp only[go_sem,g,adA,d1];refine⟨.of adN,?_⟩;refine .mk _ (.refl _) (.refl _) ⟨?_,(bG hid).symm⟩;unfold Kr;rw[decide_eq_false (show¬s.b.length≤s.at_ by omega)]
  rfl
theorem PL(y:AV)(l:Txt)(h:Heap)(hb:By h y l)(hl:l.length≤1000000):
  ai Tryz.prog 140 [y] h fun r h' =>∃id,h id=none∧r= .ptr id 0∧h' =upd h id (some (RO ⟨l,0,false⟩)):=by
 refine adJ Tryz.func140 7 [.tmp 2] fun hwf=>?_
 simp only[go_sem];refine(lf.pure fun g hg=>AT y l g (hb.sub hg) adK).pthen ?_
 simp only[go_sem];intro id hid;simp only[go_sem];exact .mk _ (.refl _) (.refl _) ⟨id,hid,rfl,rfl⟩
theorem Kf(s:RS)(hw:WfR s)(h:Heap)(id:Nat)(hid:h id=some (RO s)):
  ai Tryz.prog 229 [.ptr id 0] h fun r h' =>r= .tup [.v (.int .i64 (rj 10 0 0 (s.b.drop s.at_)).1),.i ((rj 10 0 0 (s.b.drop s.at_)).2:Nat)]∧h' =h:=by
 refine adJ Tryz.func229 74 [.tmp 2,.tmp 3] fun hwf=>?_
 have hw1:=hw.1;have hw2:=hw.2;have g:=hid;unfold RO at g;simp only[go_sem];generalize hx:rj 10 0 0 (s.b.drop s.at_)=x;refine .intro (fun k ρ h' =>h' =h∧∃(i u:Nat),k+i=10∧rj k i u (s.b.drop (s.at_+i))=x∧u<128 ^ i∧lk ρ 0=some (.ptr id 0)∧lk ρ 4=some (.v (.int .u64 (u:Int)))∧lk ρ 5=some (.i (i:Int))) 10 ?_ ?_
 ·refine⟨rfl,0,0,rfl,hx,adO,?_,?_,?_⟩<;>simp only[go_sem]
  all_goals rfl
 rintro k ρ h' ⟨rfl,i,u,hki,hr,hu,r0,r4,r5⟩
 rcases k with _|k
 ·have d1:decide ((i:Int)<10)=false:=decide_eq_false adK
  simp only[go_sem,r0,r4,r5,d1];exact⟨.of adN,.mk _ (.refl _) (.refl _) ⟨afR,rfl⟩⟩
 have d1:decide ((i:Int)<10)=true:=decide_eq_true adK;have w1:IntKind.i64.wrap ((s.at_:Int)+(i:Int))=((s.at_+i:Nat):Int):=aeg;have w2:=adG i adK
 by_cases hc:s.at_+i<s.b.length
 case neg=>
  have d2:decide (((s.at_+i:Nat):Int)<(s.b.length:Int))=false:=decide_eq_false adK;simp only[go_sem,r0,r4,r5,d1,g,w1,adA,d2];rw[List.drop_eq_nil_of_le adK]at hr;exact⟨.of adN,.mk _ (.refl _) (.refl _) ⟨afR,rfl⟩⟩
 have d2:decide (((s.at_+i:Nat):Int)<(s.b.length:Int))=true:=decide_eq_true adK;rw[List.drop_eq_getElem_cons hc]at hr;generalize hcc:s.b[s.at_+i]=c at hr;simp only[go_sem,r0,r4,r5,d1,g,w1,adA,d2];refine⟨.of adN,.of adN,?_⟩;refine .at (s.at_+i) (by simpa using hc) ad0 ?_
 simp only[go_sem,r0,r4,r5,adB,hcc,aJ];have hclt:=c.toNat_lt;have pw:(2:Nat) ^ (7*i)=128 ^ i:=by rw[Nat.pow_mul]
 have p9:(128:Nat) ^ 9=9223372036854775808:=adO;unfold rj at hr
 by_cases hb:(i=9∧1<c.toNat)∨(0<i∧c.toNat=0)
 ·rw[if_pos hb]at hr
  by_cases h9:i=9∧1<c.toNat
  ·have d3:((i:Int)==9)=true:=by simp;omega
   have d4:decide ((1:Int)<(c.toNat:Int))=true:=decide_eq_true adK;simp only[go_sem,r0,r4,r5,d3,d4];exact .mk _ (.refl _) (.refl _) ⟨afR,rfl⟩
  ·have hb:0<i∧c.toNat=0:=by omega
   have d4:decide ((1:Int)<(c.toNat:Int))=false:=decide_eq_false adK;have d5:decide ((0:Int)<(i:Int))=true:=decide_eq_true adK;have d6:((c.toNat:Int)==0)=true:=aep;cases d3:((i:Int)==9)<;>simp only[go_sem,r0,r4,r5,d3,d4,d5,d6]<;>exact .mk _ (.refl _) (.refl _) ⟨afR,rfl⟩
 rw[if_neg hb]at hr;have hi9:i≤9:=adK;have hle:c.toNat % 128*128 ^ i+u<18446744073709551616:=by
  by_cases e9:i=9
  ·subst e9
   rw[p9]at hu⊢;omega
  ·have h1:(128:Nat) ^ i≤128 ^ 8:=Nat.pow_le_pow_right adO adK
   have h2:(128:Nat) ^ 8=72057594037927936:=adO;exact ajI
 have w3:IntKind.u64.wrap ((c.toNat % 128:Nat):Int)=((c.toNat % 128:Nat):Int):=Qk _ adK;have w4:IntKind.i64.wrap ((7:Int)*(i:Int))=((7*i:Nat):Int):=aeg;have w5:IntKind.u64.wrap ((7*i:Nat):Int)=((7*i:Nat):Int):=Qk _ adK;have h63:7*i≤63:=adK;have hu' :u<2 ^ (7*i):=by rw[pw];exact hu
 have hor:u+c.toNat % 128*2 ^ (7*i)<18446744073709551616:=by rw[pw];omega
 have wS:c.toNat % 128*2 ^ (7*i) % 18446744073709551616=c.toNat % 128*2 ^ (7*i):=Nat.mod_eq_of_lt adK;have three:(i=9∧c.toNat≤1∧c.toNat≠0)∨(i<9∧0<i∧c.toNat≠0)∨i=0:=adK;cases d7:decide ((c.toNat:Int)<128)
 ·have h7:=adD d7
  rw[if_neg adK]at hr;have hnew:u+c.toNat % 128*2 ^ (7*i)<128 ^ (i+1):=by
   rw[pw,Nat.pow_succ];exact ajI
  rw[←pw,Nat.add_assoc]at hr;generalize hU' :u+c.toNat % 128*2 ^ (7*i)=u' at hr hnew hor;rcases three with⟨t1,t2,t3⟩|⟨t1,t2,t3⟩|t1
  ·have d3:((i:Int)==9)=true:=by simp;omega
   have d4:decide ((1:Int)<(c.toNat:Int))=false:=decide_eq_false adK;have d5:decide ((0:Int)<(i:Int))=true:=decide_eq_true adK;have d6:((c.toNat:Int)==0)=false:=aep;simp only[go_sem,r0,r4,r5,d3,d4,d5,d6,w3,w4,w5,h63,wS,hu',hU',hor,d7,w2];refine⟨k,adK,rfl,i+1,u',adK,hr,hnew,?_,?_,?_⟩<;>simp only[go_sem,r0]
  ·have d3:((i:Int)==9)=false:=by simp;omega
   have d5:decide ((0:Int)<(i:Int))=true:=decide_eq_true adK;have d6:((c.toNat:Int)==0)=false:=aep;simp only[go_sem,r0,r4,r5,d3,d5,d6,w3,w4,w5,h63,wS,hu',hU',hor,d7,w2];refine⟨k,adK,rfl,i+1,u',adK,hr,hnew,?_,?_,?_⟩<;>simp only[go_sem,r0]
  ·have d3:((i:Int)==9)=false:=by simp;omega
   have d5:decide ((0:Int)<(i:Int))=false:=decide_eq_false adK;simp only[go_sem,r0,r4,r5,d3,d5,w3,w4,w5,h63,wS,hu',hU',hor,d7,w2];refine⟨k,adK,rfl,i+1,u',adK,hr,hnew,?_,?_,?_⟩<;>simp only[go_sem,r0]
 ·have h7:=adC d7
  rw[if_pos adK]at hr;have ec:c.toNat % 128=c.toNat:=adK;rw[←pw]at hr;have hU0:u+c.toNat*2 ^ (7*i)=u+c.toNat % 128*2 ^ (7*i):=by rw[ec]
  rw[hU0]at hr;generalize hU' :u+c.toNat % 128*2 ^ (7*i)=u' at hr hor;have w6:IntKind.i64.wrap ((u' / 2:Nat):Int)=((u' / 2:Nat):Int):=bh _ adK;have b1:(-9223372036854775808:Int)≤((u' / 2:Nat):Int):=adK;have b2:((u' / 2:Nat):Int)≤9223372036854775807:=adK;have un:unzig u' =if u' % 2=1 then -((u' / 2:Nat):Int) - 1 else((u' / 2:Nat):Int):=rfl
  cases d8:(((u' % 2:Nat):Int)==1)
  ·have h8:¬u' % 2=1:=by intro hh;rw[hh]at d8;cases d8
   rw[if_neg h8]at un;rw[un]at hr;rcases three with⟨t1,t2,t3⟩|⟨t1,t2,t3⟩|t1
   ·have d3:((i:Int)==9)=true:=by simp;omega
    have d4:decide ((1:Int)<(c.toNat:Int))=false:=decide_eq_false adK;have d5:decide ((0:Int)<(i:Int))=true:=decide_eq_true adK;have d6:((c.toNat:Int)==0)=false:=aep;simp only[go_sem,r0,r4,r5,d3,d4,d5,d6,w3,w4,w5,h63,wS,hu',hU',hor,d7,w6,d8,w2];exact .mk _ (.refl _) (.refl _) ⟨afR,rfl⟩
   ·have d3:((i:Int)==9)=false:=by simp;omega
    have d5:decide ((0:Int)<(i:Int))=true:=decide_eq_true adK;have d6:((c.toNat:Int)==0)=false:=aep;simp only[go_sem,r0,r4,r5,d3,d5,d6,w3,w4,w5,h63,wS,hu',hU',hor,d7,w6,d8,w2];exact .mk _ (.refl _) (.refl _) ⟨afR,rfl⟩
   ·have d3:((i:Int)==9)=false:=by simp;omega
    have d5:decide ((0:Int)<(i:Int))=false:=decide_eq_false adK;simp only[go_sem,r0,r4,r5,d3,d5,w3,w4,w5,h63,wS,hu',hU',hor,d7,w6,d8,w2];exact .mk _ (.refl _) (.refl _) ⟨afR,rfl⟩
  ·have h8:u' % 2=1:=by have:=eq_of_beq d8;omega
   rw[if_pos h8]at un;rw[un]at hr;rcases three with⟨t1,t2,t3⟩|⟨t1,t2,t3⟩|t1
   ·have d3:((i:Int)==9)=true:=by simp;omega
    have d4:decide ((1:Int)<(c.toNat:Int))=false:=decide_eq_false adK;have d5:decide ((0:Int)<(i:Int))=true:=decide_eq_true adK;have d6:((c.toNat:Int)==0)=false:=aep;simp only[go_sem,r0,r4,r5,d3,d4,d5,d6,w3,w4,w5,h63,wS,hu',hU',hor,d7,w6,d8,b1,b2,w2];exact .mk _ (.refl _) (.refl _) ⟨afR,rfl⟩
   ·have d3:((i:Int)==9)=false:=by simp;omega
    have d5:decide ((0:Int)<(i:Int))=true:=decide_eq_true adK;have d6:((c.toNat:Int)==0)=false:=aep;simp only[go_sem,r0,r4,r5,d3,d5,d6,w3,w4,w5,h63,wS,hu',hU',hor,d7,w6,d8,b1,b2,w2];exact .mk _ (.refl _) (.refl _) ⟨afR,rfl⟩
   ·have d3:((i:Int)==9)=false:=by simp;omega
    have d5:decide ((0:Int)<(i:Int))=false:=decide_eq_false adK;simp only[go_sem,r0,r4,r5,d3,d5,w3,w4,w5,h63,wS,hu',hU',hor,d7,w6,d8,b1,b2,w2];exact .mk _ (.refl _) (.refl _) ⟨afR,rfl⟩
theorem RC.step{f:FuncId}{args:List AV}{s s' :RS}{R:AV}(hc:RC f args s R s'){h:Heap}{id:Nat}{Q:AV→Heap→Prop}(hid:h id=some (RO s))
  (k:∀h2,h2=upd h id (some (RO s'))→h2 id=some (RO s')→(∀b,upd h2 id b=upd h id b)→Q R h2):ai Tryz.prog f (.ptr id 0::args) h Q:=
 hc.go hid (k _ rfl (ah ..) fun b=>by
  grind [ah,ag])
theorem DP(s:RS)(hw:WfR s)(lo hi:Int):RC 187 [.i lo,.i hi] s (.v (.int .i64 (rIn s lo hi).1)) (rIn s lo hi).2:=fun h id hid=>by
 have hw1:=hw.1;have hw2:=hw.2;refine adJ Tryz.func187 45 [.tmp 6] fun hwf=>?_
 have g:=hid;unfold RO at g;cases d1:s.bad
 case true=>
  rw[d1]at g;simp only[go_sem,g];exact .mk _ (.refl _) (.refl _) ⟨by rw[rIn,if_pos d1];rfl,by rw[rIn,if_pos d1,bG hid]⟩
 have e:rIn s lo hi=(let x:=rj 10 0 0 (s.b.drop s.at_);if x.2=0∨x.1<lo∨hi<x.1 then(0,mh s s.at_)else(x.1,{s with at_:=s.at_+x.2})):=by
  simp_all [rIn,if_neg]
 rw[d1]at g;simp only[go_sem,g];refine(Kf s hw h id hid).pthen ?_;have hlen:=(zy 10 0 0 (s.b.drop s.at_)).1;rw[List.length_drop]at hlen;generalize rj 10 0 0 (s.b.drop s.at_)=x at e hlen⊢;obtain⟨n,z⟩:=x;simp only at e hlen⊢
 by_cases hb:z=0∨n<lo∨hi<n
 ·rw[if_pos hb]at e
  rw[e];have fin:∀P:Prop,P→P:=fun _ p=>p
  rcases Decidable.em (z=0)with c1|c1
  ·have d2:((z:Int)==0)=true:=by grind
   simp only[go_sem,g,d2];refine(pg s s.at_).go hid ?_;exact ait
  have d2:((z:Int)==0)=false:=adL;rcases Decidable.em (n<lo)with c2|c2
  ·simp only[go_sem,g,d2,decide_eq_true c2]
   refine(pg s s.at_).go hid ?_;exact ait
  ·simp only[go_sem,g,d2,decide_eq_false c2,decide_eq_true (show hi<n by omega)]
   refine(pg s s.at_).go hid ?_;exact ait
 ·rw[if_neg hb]at e
  rw[e];have d2:((z:Int)==0)=false:=adL;have w1:IntKind.i64.wrap ((s.at_:Int)+(z:Int))=((s.at_+z:Nat):Int):=adY;simp only[go_sem,g,d2,decide_eq_false (show¬n<lo by omega),decide_eq_false (show¬hi<n by omega),w1]
  exact .mk _ (.refl _) (.refl _) ⟨rfl,by grind [RO]⟩
theorem Ge(s:RS)(hw:WfR s):RC 141 [] s (.v (.int .i64 (gu s).1)) (gu s).2:=fun h id hid=>by
 refine adJ Tryz.func141 5 [.tmp 2] fun hwf=>?_
 simp only[go_sem];refine(DP s hw _ _).go hid ?_;exact ait
theorem CI{s:RS}{lo hi:Int}(hw:WfR s)(h0:lo≤0)(h1:0≤hi):lo≤(rIn s lo hi).1∧(rIn s lo hi).1≤hi:=by
 grind [rIn]
theorem gI{s:RS}{most:Int}(hw:WfR s)(hm:0≤most):WfR (bT s most).2:=by
 have h1:=l9 (lo:=0) (hi:=most) hw;have h2:=CI (lo:=0) (hi:=most) hw (Int.le_refl 0) hm;unfold bT;simp only;split
 ·exact zx h1
 ·exact⟨adL,h1.2⟩
theorem qc(s:RS)(hw:WfR s)(most:Int)(hmo:0≤most):RC 142 [.i most] s (.s (bT s most).1) (bT s most).2:=fun h id hid=>by
 have hx:=l9 (lo:=0) (hi:=most) hw;have hx2:=CI (lo:=0) (hi:=most) hw (Int.le_refl 0) hmo;refine adJ Tryz.func142 59 [.tmp 4] fun hwf=>?_
 have g:=hid;unfold RO at g;simp only[go_sem,g];refine(DP s hw 0 most).step hid ?_;have e:bT s most=(let x:=rIn s 0 most;if x.2.bad∨(x.2.b.length:Int) - x.2.at_<x.1 then([],mh x.2 s.at_)else((x.2.b.drop x.2.at_).take x.1.toNat,{x.2 with at_:=x.2.at_+x.1.toNat})):=rfl
 generalize rIn s 0 most=x at e hx hx2⊢;obtain⟨n,t⟩:=x;simp only at e hx hx2⊢;obtain⟨m,rfl⟩:=Int.eq_ofNat_of_zero_le hx2.1;have ht1:=hx.1;have ht2:=hx.2;intro h2 eh2 hid2 hup;have g2:=hid2;unfold RO at g2;have w1:IntKind.i64.wrap ((t.b.length:Int) - (t.at_:Int))=(t.b.length:Int) - (t.at_:Int):=bh _ adK;clear eh2 hid g
 by_cases hb:t.bad=true∨(t.b.length:Int) - t.at_<((m:Nat):Int)
 ·rw[if_pos hb]at e
  rw[e];cases d1:t.bad<;>rw[d1]at g2
  ·have hb:(t.b.length:Int) - t.at_<((m:Nat):Int):=by
    grind
   simp only[go_sem,g2,w1,adA,decide_eq_true hb];exact aiV
  ·simp only[go_sem,g2]
   exact aiV
 ·rw[if_neg hb]at e
  rw[e];have d1:t.bad=false:=by
   grind
  rw[d1]at g2;have hle:t.at_+m≤t.b.length:=adK;have w2:IntKind.i64.wrap ((t.at_:Int)+(m:Int))=((t.at_+m:Nat):Int):=adY;have w3:IntKind.i64.wrap (((t.at_+m:Nat):Int) - (m:Int))=(t.at_:Int):=adY;simp only[go_sem,g2,w1,adA,decide_eq_false (show¬(t.b.length:Int) - t.at_<((m:Nat):Int) by omega)]
  refine⟨.of adN,?_⟩;simp only[go_sem,g2,w2,w3,adA];exact⟨.of adN,adK,adK,adK,.mk _ (.refl _) (.refl _) ⟨by rw[show t.at_+m - t.at_=m by omega];rfl,by grind [RO]⟩⟩
structure RAt (h0:Heap) (id:Nat) (h:Heap) (s:RS):Prop where
 here:h id=some (RO s)
 sub:∀j b,j≠id→h0 j=some b→h j=some b
theorem RAt.start{h:Heap}{id:Nat}{s:RS}(hid:h id=some (RO s)):RAt h id h s:=⟨hid,fun _ _ _ e=>e⟩
theorem RAt.fin{h0 h:Heap}{id:Nat}{s:RS}(hr:RAt h0 id h s):Ab.Sub (upd h0 id (some (RO s))) h:=fun j b e=>by
 by_cases hj:j=id
 ·subst hj;rw[ah]at e;rw[hr.here,e]
 ·rw[ag _ _ hj]at e;exact hr.sub j b hj e
theorem RAt.ne{h0 h:Heap}{id i:Nat}{s:RS}(hr:RAt h0 id h s)(hi:h i=none):i≠id:=fun e=>by rw[e,hr.here]at hi;grind
theorem RAt.none{h0 h:Heap}{id i:Nat}{s:RS}(hr:RAt h0 id h s)(hi:h i=Option.none):h0 i=Option.none:=by
 cases e:h0 i with
 |none=>rfl
 |some b=>rw[hr.sub i b (hr.ne hi) e]at hi;omega
theorem RAt.put{h0 h:Heap}{id i:Nat}{s:RS}{b:Option Blk}(hr:RAt h0 id h s)(hi:h0 i=Option.none)(hn:i≠id):RAt h0 id (upd h i b) s:=
 ⟨by rw[ag _ _ (Ne.symm hn)];exact hr.here,fun j c hj e=>by
  rw[ag _ _ fun e2=>adL]
  exact hr.sub j c hj e⟩
theorem RAt.step{f:FuncId}{args:List AV}{s s' :RS}{R:AV}{h0 h:Heap}{id:Nat}{Q:AV→Heap→Prop}(hr:RAt h0 id h s)(hc:RC f args s R s')(k:∀h2,RAt h0 id h2 s'→(∀j,j≠id→h2 j=h j)→Q R h2):ai Tryz.prog f (.ptr id 0::args) h Q:=
 hc.go hr.here (k _ ⟨ah ..,fun j b hj e=>by rw[ag _ _ hj];exact hr.sub j b hj e⟩ fun j hj=>ag _ _ hj)
theorem Ix{s:RS}(hw:WfR s):WfR (qt s).2:=by
 have h1:=l9 (lo:=1) (hi:=5) hw;unfold qt;simp only;generalize rIn s 1 5=x at h1⊢;have h2:WfR (if oN x.1=true then((⟨x.1,0,(bT x.2 64).1⟩,(bT x.2 64).2):bt×RS)else(⟨x.1,(gu x.2).1,[]⟩,(gu x.2).2)).2:=by
  split
  ·grind [gI]
  ·exact l9 h1
 generalize (if oN x.1=true then((⟨x.1,0,(bT x.2 64).1⟩,(bT x.2 64).2):bt×RS)else(⟨x.1,(gu x.2).1,[]⟩,(gu x.2).2))=y at h2⊢
 split
 ·exact ahR
 ·split
  ·exact zx h2
  ·exact ahR
theorem Hi(s:RS)(hw:WfR s):RC 144 [] s (aP (qt s).1) (qt s).2:=fun h id hid=>by
 have hw1:=l9 (lo:=1) (hi:=5) hw;refine adJ Tryz.func144 31 [.cell 2 33] fun hwf=>?_
 simp only[go_sem];intro i1 h1;have a0:=RAt.start hid;have n1:=a0.ne h1;have m1:=a0.none h1;have a1:=a0.put (b:=some (.obj [.i 0,.i 0,.s []] 33)) m1 n1;simp only[go_sem];refine a1.step (Lo s) fun g1 b1 k1=>?_
 have c1:=k1 i1 n1;rw[ah]at c1;clear a0 a1 k1;simp only[go_sem];refine b1.step (DP s hw 1 5) fun g2 b2 k2=>?_
 have c2:=(k2 i1 n1).trans c1;clear b1 c1 k2;simp only[go_sem];intro i2 h2;have n2:=b2.ne h2;have m2:=b2.none h2;have n21:i2≠i1:=fun e=>by rw[e,c2]at h2;cases h2
 have e:qt s=(let x:=rIn s 1 5;let y:bt×RS:=if oN x.1 then(let t:=bT x.2 64;(⟨x.1,0,t.1⟩,t.2))else(let t:=gu x.2;(⟨x.1,t.1,[]⟩,t.2));if y.2.bad then(an,y.2)else if br y.1=false then(an,mh y.2 s.at_)else y):=rfl
 generalize rIn s 1 5=x at e hw1 b2⊢;obtain⟨kd,t⟩:=x;simp only at e hw1 b2⊢;have b3:=b2.put (b:=some (.obj [.i kd,.i 0,.s []] 33)) m2 n2;have c3:upd g2 i2 (some (.obj [.i kd,.i 0,.s []] 33)) i1=_:=(ag _ _ (Ne.symm n21)).trans c2;have d3:upd g2 i2 (some (.obj [.i kd,.i 0,.s []] 33)) i2=_:=ah ..;clear b2 c2 h2;simp only[go_sem,ah];generalize upd g2 i2 (some (.obj [.i kd,.i 0,.s []] 33))=g3 at b3 c3 d3⊢;refine(zT kd _).pthen ?_;simp only[go_sem];cases dt:(kd==3||kd==5)
 ·have et:oN kd=false:=dt
  rw[et]at e;simp only[Bool.false_eq_true,if_false]at e;simp only[go_sem];refine b3.step (Ge t hw1) fun g4 b4 k4=>?_
  have c4:=(k4 i1 n1).trans c3;have d4:=(k4 i2 n2).trans d3;have e5:qt s=(if(gu t).2.bad then(an,(gu t).2)else if br (⟨kd,(gu t).1,[]⟩:bt)=false then(an,mh (gu t).2 s.at_)else((⟨kd,(gu t).1,[]⟩:bt),(gu t).2)):=e
  have wT:WfR (gu t).2:=l9 hw1;have b5:=b4.put (b:=(some (.obj [.i kd,.v (.int .i64 (gu t).1),.s []] 33))) m2 n2;have c5:upd g4 i2 (some (.obj [.i kd,.v (.int .i64 (gu t).1),.s []] 33)) i1=_:=(ag _ _ (Ne.symm n21)).trans c4;have d5:upd g4 i2 (some (.obj [.i kd,.v (.int .i64 (gu t).1),.s []] 33)) i2=_:=ah ..;simp only[go_sem,d4];generalize upd g4 i2 (some (.obj [.i kd,.v (.int .i64 (gu t).1),.s []] 33))=g5 at b5 c5 d5⊢;clear b4 c4 d4 k4 e;refine b5.step (Ac _) fun g6 b6 k6=>?_
  have c6:=(k6 i1 n1).trans c5;have d6:=(k6 i2 n2).trans d5;clear b5 c5 d5 k6;cases db:(gu t).2.bad
  ·rw[db,if_neg adO]at e5
   simp only[go_sem,db,d6];refine(fU (⟨kd,(gu t).1,[]⟩:bt) g6).pthen ?_;cases dv:br (⟨kd,(gu t).1,[]⟩:bt)
   ·exact aiE
   ·exact ajw
  ·exact ajx
 ·have et:oN kd=true:=dt
  rw[et]at e;simp only[if_true]at e;simp only[go_sem];refine b3.step (qc t hw1 64 adO) fun g4 b4 k4=>?_
  have c4:=(k4 i1 n1).trans c3;have d4:=(k4 i2 n2).trans d3;have e5:qt s=(if(bT t 64).2.bad then(an,(bT t 64).2)else if br (⟨kd,0,(bT t 64).1⟩:bt)=false then(an,mh (bT t 64).2 s.at_)else((⟨kd,0,(bT t 64).1⟩:bt),(bT t 64).2)):=e
  have wT:WfR (bT t 64).2:=gI hw1 adO;have b5:=b4.put (b:=(some (.obj [.i kd,.i 0,.s (bT t 64).1] 33))) m2 n2;have c5:upd g4 i2 (some (.obj [.i kd,.i 0,.s (bT t 64).1] 33)) i1=_:=(ag _ _ (Ne.symm n21)).trans c4;have d5:upd g4 i2 (some (.obj [.i kd,.i 0,.s (bT t 64).1] 33)) i2=_:=ah ..;simp only[go_sem,d4];generalize upd g4 i2 (some (.obj [.i kd,.i 0,.s (bT t 64).1] 33))=g5 at b5 c5 d5⊢;clear b4 c4 d4 k4 e;refine b5.step (Ac _) fun g6 b6 k6=>?_
  have c6:=(k6 i1 n1).trans c5;have d6:=(k6 i2 n2).trans d5;clear b5 c5 d5 k6;cases db:(bT t 64).2.bad
  ·rw[db,if_neg adO]at e5
   simp only[go_sem,db,d6];refine(fU (⟨kd,0,(bT t 64).1⟩:bt) g6).pthen ?_;cases dv:br (⟨kd,0,(bT t 64).1⟩:bt)
   ·exact aiE
   ·exact ajw
  ·exact ajx
theorem Iw{s:RS}(hw:WfR s):WfR (pV s).2:=by
 grind [pV,l9,Ix]
theorem SD(s:RS)(hw:WfR s)(q:Perm):RC 143 [.sl (s.b.map aJ) q] s (aP (pV s).1) (pV s).2:=fun h id hid=>by
 have hw1:=hw.1;have hw2:=hw.2;refine adJ Tryz.func143 25 [.cell 4 33] fun hwf=>?_
 simp only[go_sem];intro i1 h1;have a0:=RAt.start hid;have n1:=a0.ne h1;have m1:=a0.none h1;have a1:=a0.put (b:=some (.obj [.i 0,.i 0,.s []] 33)) m1 n1;simp only[go_sem];refine a1.step (Lo s) fun g1 b1 k1=>?_
 have c1:=k1 i1 n1;rw[ah]at c1;clear a0 a1 k1
 by_cases hlt:s.at_<s.b.length
 ·have d1:decide ((s.at_:Int)<(s.b.length:Int))=true:=decide_eq_true adK
  simp only[go_sem,adA,d1];refine b1.step (Lo s) fun g2 b2 k2=>?_
  have c2:=(k2 i1 n1).trans c1;clear b1 c1 k2;simp only[go_sem];refine .at s.at_ adL ad0 ?_;have hg:s.b.getD s.at_ 0=s.b[s.at_]:=adL;generalize hcc:s.b[s.at_]=c at hg;cases d2:((c.toNat:Int)==0)
  ·have hne:c≠0:=fun e=>by simp_all
   have e:pV s=qt s:=by simp_all [pV,if_neg]
   rw[e];simp only[go_sem,adB,hcc,aJ,d2];refine b2.step (Hi s hw) fun g3 b3 k3=>?_
   have c3:=(k3 i1 n1).trans c2;simp only[go_sem,c3,ah,aP];exact agv
  ·have he:c=0:=by
    have:=eq_of_beq d2;exact UInt8.toNat_inj.1 adL
   have e:pV s=(an,(rIn (rIn s 0 0).2 0 0).2):=by simp_all [pV,if_pos]
   rw[e];simp only[go_sem,adB,hcc,aJ,d2];refine b2.step (DP s hw 0 0) fun g3 b3 k3=>?_
   have c3:=(k3 i1 n1).trans c2;simp only[go_sem];refine b3.step (DP _ (l9 hw) 0 0) fun g4 b4 k4=>?_
   have c4:=(k4 i1 n1).trans c3;simp only[go_sem,c4,ah];exact .mk _ (.refl _) (b4.put m1 n1).fin ⟨rfl,rfl⟩
 ·have d1:decide ((s.at_:Int)<(s.b.length:Int))=false:=decide_eq_false adK
  have e:pV s=qt s:=by simp_all [pV,if_neg]
  rw[e];simp only[go_sem,adA,d1];refine b1.step (Hi s hw) fun g3 b3 k3=>?_
  have c3:=(k3 i1 n1).trans c1;simp only[go_sem,c3,ah,aP];exact agv
theorem Da(a b:Txt)(p q:Perm)(h:Heap):ai Tryz.prog 91 [.sl (a.map aJ) p,.sl (b.map aJ) q] h fun r h' =>r= .b (decide (a=b))∧h' =h:=by
 refine adJ Tryz.func91 10 [.tmp 4] fun hwf=>?_
 simp only[go_sem];exact .same (.refl _) ⟨by
  grind [ax],rfl⟩
structure OpL (o:OpD):Prop where
 subj:o.subj.length≤100000
 case:o.case.length≤100000
 field:o.field.length≤100000
 to:o.to.length≤100000
 val:o.val.s.length≤100000
 text:o.text.length≤100000
 reason:o.reason.length≤100000
def opT(o:OpD):List Txt:=[o.subj,o.case,o.field,o.to]
theorem Na(o:OpD)(h64:mO o)(hl:OpL o)(h:Heap):ai Tryz.prog 92 [opA o] h fun r h' =>r= .sl ((jQ o).map aJ) .no∧h' =h:=by
 obtain⟨k1,k2,k3,k4⟩:=h64;have hnk:=j3 o.kind;obtain⟨l1,l2,l3,l4,l5,l6,l7⟩:=hl;have t1:=fT o.subj;have t2:=fT o.case;have t3:=fT o.field;have t4:=fT o.to;refine adJ Tryz.func92 46 [.tmp 2] fun hwf=>?_
 simp only[go_sem,opA,opC];intro id hid;simp only[go_sem];refine(CC (.sl [] .full) [] o.kind _ (.nil _) adR k1).pthen ?_;simp only[go_sem];generalize hH:upd h id _=H;have hHid:H id=some (.obj (opC o) 39):=by rw[←hH];exact ah ..
 have hsub:Ab.Sub h H:=by rw[←hH];exact(Sub.refl h).new hid _
 unfold opC at hHid;clear hH;refine .intro (fun m ρ h' =>h' =H∧∃i:Nat,i≤4∧m=4 - i∧lk ρ 1=some (.ptr id 0)∧lk ρ 3=some (.sl ((iS o.kind++(((opT o).map dw).take i).flatten).map aJ) .no)∧(∃q,lk ρ 17=some (.sl ((opT o).map .s) q))∧lk ρ 18=some (.i 4)∧lk ρ 19=some (.i i)) 4 ?_ ?_
 ·refine⟨rfl,0,adK,rfl,?_,?_,?_,?_,?_⟩
  ·rfl
  ·simp only[go_sem]
   simp
  ·refine⟨?_,?_⟩
   rotate_left
   ·simp only[go_sem]
    rfl
  ·rfl
  rfl
 rintro m ρ h' ⟨rfl,i,hi,rfl,r1,r3,⟨q,r17⟩,r18,r19⟩
 have hLl:((opT o).map dw).length=4:=rfl;have hOl:(opT o).length=4:=rfl;have hF:((opT o).map dw).flatten.length≤400040:=by grind [opT]
 have hf:=pq ((opT o).map dw) i;have hall:∀t∈opT o,t.length≤100000:=by simp_all [opT]
 by_cases hc:i<4
 ·have d1:decide ((i:Int)<4)=true:=decide_eq_true adK
  have w1:IntKind.i64.wrap ((i:Int)+1)=((i+1:Nat):Int):=adY;have hs:=ou ((opT o).map dw) i adK;rw[adB]at hs;have ht:=hall _ (adF (show i<(opT o).length by omega))
  simp only[go_sem,r1,r3,r17,r18,r19,d1];refine .at i adL ad0 ?_;simp only[go_sem,r1,r3,r17,r18,r19,adB];refine(xO _ (iS o.kind++(((opT o).map dw).take i).flatten) (opT o)[i] _ (.sl _ _) adL adK).pthen ?_;simp only[go_sem,r1,r3,r17,r18,r19,w1];refine⟨3 - i,adK,rfl,i+1,adK,adK,?_,?_,⟨q,?_⟩,?_,?_⟩
  ·simp only[go_sem,r1]
  ·simp only[go_sem,hs,List.append_assoc]
   rfl
  ·simp only[go_sem,r17]
  ·simp only[go_sem,r18]
  ·simp only[go_sem]
 ·have e:i=4:=by omega
  subst e;have e4:(((opT o).map dw).take 4).flatten=dw o.subj++(dw o.case++(dw o.field++dw o.to)):=by simp[opT]
  rw[e4]at r3 hf;have d1:decide ((4:Int)<4)=false:=rfl;generalize hP:iS o.kind++(dw o.subj++(dw o.case++(dw o.field++dw o.to)))=P1 at r3;have hP1:P1.length≤400050:=adL;simp only[go_sem,r1,r3,r17,r18,r19,hHid,d1];refine .quiet adN ?_;simp only[go_sem,r1,r3,r17,r18,r19,hHid,d1];refine⟨_,Iu _ P1 o.val _ (.sl _ _) adK k2 k3 adK,?_⟩;have e2:(oE o.val).length≤100020:=by
   grind [oE,adE,j3,fT]
  simp only[go_sem,r1,hHid];refine⟨_,CC _ (P1++oE o.val) o.review _ (.sl _ _) adL k4,?_⟩;generalize hP2:P1++oE o.val++iS o.review=P2;have hP2l:P2.length≤500080:=by
   grind [j3,adE]
  simp only[go_sem,r1,hHid];refine .quiet adN ?_;simp only[go_sem,r1,hHid];refine⟨_,xO _ P2 o.text _ (.sl _ _) adK adK,?_⟩;have e3:=fT o.text;simp only[go_sem,r1,hHid];refine⟨_,xO _ (P2++dw o.text) o.reason _ (.sl _ _) adL adK,?_⟩;generalize hP3:P2++dw o.text++dw o.reason=P3;have e4:=fT o.reason;have hP3l:P3.length≤800000:=adL;simp only[go_sem,r1,hHid];refine(E8 o.glass _).pthen ?_;simp only[go_sem];refine(Iu _ P3 (dN o.glass) _ (.sl _ _) adK ?_ ?_ ?_).pthen ?_
  ·cases o.glass<;>exact⟨adO,adO⟩
  ·cases o.glass<;>exact⟨adO,adO⟩
  ·cases o.glass<;>decide
  simp only[go_sem];refine .mk _ (.refl _) hsub ⟨?_,rfl⟩
  grind [jQ,List.append_assoc,ax]
theorem lf.base{h H g:Heap}{y:AV}{l:Txt}(hs:Ab.Sub h H)(ha:lf H g y l):lf h g y l:=by
 obtain⟨h1,h2|⟨id,i1,h2,h3⟩⟩:=ha
 ·exact⟨hs.trans h1,.inl h2⟩
 ·exact⟨hs.trans h1,.inr ⟨id,hs.none i1,h2,h3⟩⟩
theorem PM(ch:BitVec 64)(o:OpD)(h64:mO o)(hl:OpL o)(hp:(jQ o).length≤1000000)(h:Heap):ai Tryz.prog 40 [.v (.int .u64 (ch.toNat:Int)),opA o] h fun r h' =>lf h h' r (dY ch o):=by
 refine adJ Tryz.func40 20 [.tmp 4] fun hwf=>?_
 simp only[go_sem,opA,opC];intro id hid;generalize hH:upd h id _=H;have hHid:H id=some (.obj (opC o) 39):=by rw[←hH];exact ah ..
 have hsub:Ab.Sub h H:=by rw[←hH];exact(Sub.refl h).new hid _
 clear hH;simp only[go_sem];refine .intro (fun k ρ g=>∃(i:Nat) (v:BitVec 64) (l:Txt) (z:AV),lf H g z l∧i+k=8∧l++qM k v=qM 8 ch∧lk ρ 0=some (.v (.int .u64 (v.toNat:Int)))∧lk ρ 3=some (.ptr id 0)∧lk ρ 5=some z∧lk ρ 6=some (.i (i:Int))) 8 ?_ ?_
 ·refine⟨0,ch,[],_,Acc.full (.refl _),rfl,rfl,?_,?_,?_,?_⟩<;>simp only[go_sem]
  all_goals rfl
 rintro k ρ g ⟨i,v,l,z,ha,hk,hv,r0,r3,r5,r6⟩
 have hll:=congrArg List.length hv;rw[adE,iP,iP]at hll;rcases k with _|k
 ·have d1:decide ((i:Int)<8)=false:=decide_eq_false adK
  have hg:=ha.1 _ _ hHid;unfold opC at hg;rw[show qM 0 v= []from rfl,List.append_nil]at hv
  subst hv;simp only[go_sem,r0,r3,r5,r6,d1,hg];refine(Na o h64 hl g).pthen ?_;simp only[go_sem];refine lf.app ha (m:=jQ o) (fun _ hk=>hk) adK fun z' h2 ha' =>?_
  simp only[go_sem];exact .same (.refl _) (ha'.base hsub)
 ·have d1:decide ((i:Int)<8)=true:=decide_eq_true adK
  have w1:IntKind.i64.wrap ((i:Int)+1)=((i+1:Nat):Int):=adY;simp only[go_sem,r0,r3,r5,r6,d1,wu8];refine lf.app ha (m:=[UInt8.ofNat v.toNat]) (fun _ hk=>hk) adL fun z' h2 ha' =>?_
  have e8:v.toNat / 256=(v>>>8).toNat:=af8;simp only[go_sem,r0,r3,r5,r6,w1,e8];refine⟨k,adK,i+1,v>>>8,l++ [UInt8.ofNat v.toNat],z',ha',adK,?_,?_,?_,?_,?_⟩
  ·grind [qM]
  all_goals simp only[go_sem,r3]
theorem GK(ch:BitVec 64)(o:OpD)(h64:mO o)(hl:OpL o)(hp:(jQ o).length≤1000000)(h:Heap):ai Tryz.prog 40 [.v (.int .u64 (ch.toNat:Int)),opA o] h fun r h' =>r= .sl ((dY ch o).map aJ) .no∧h' =h:=
 lf.pure fun g _=>PM ch o h64 hl hp g
theorem uy{s:RS}(hw:WfR s):i64 (gu s).1:=CI hw adO adO
theorem IV:i64 an.kind∧i64 an.n:=⟨⟨adO,adO⟩,⟨adO,adO⟩⟩
theorem Iv{s:RS}{a:Nat}:(mh s a).b=s.b:=by grind [mh]
theorem Q3{s:RS}{lo hi:Int}:(rIn s lo hi).2.b=s.b:=by
 grind [rIn,Iv]
theorem xI{s:RS}{m:Int}:(bT s m).2.b=s.b:=by
 grind [bT,Iv,Q3]
theorem PG{s:RS}(hw:WfR s):i64 (qt s).1.kind∧i64 (qt s).1.n:=by
 have hz:=IV;have h1:=l9 (lo:=1) (hi:=5) hw;have h2: -1≤(rIn s 1 5).1∧(rIn s 1 5).1≤5:=by
  grind [rIn]
 unfold qt;simp only;generalize rIn s 1 5=x at h1 h2⊢;have h3:i64 (if oN x.1=true then((⟨x.1,0,(bT x.2 64).1⟩,(bT x.2 64).2):bt×RS)else(⟨x.1,(gu x.2).1,[]⟩,(gu x.2).2)).1.kind∧i64 (if oN x.1=true then((⟨x.1,0,(bT x.2 64).1⟩,(bT x.2 64).2):bt×RS)else(⟨x.1,(gu x.2).1,[]⟩,(gu x.2).2)).1.n:=by
  split
  ·exact⟨⟨adL,adL⟩,⟨adR,adR⟩⟩
  ·exact⟨⟨adL,adL⟩,uy h1⟩
 generalize (if oN x.1=true then((⟨x.1,0,(bT x.2 64).1⟩,(bT x.2 64).2):bt×RS)else(⟨x.1,(gu x.2).1,[]⟩,(gu x.2).2))=y at h3⊢
 split
 ·exact hz
 ·split
  ·exact hz
  ·exact h3
theorem CJ{s:RS}(hw:WfR s):i64 (pV s).1.kind∧i64 (pV s).1.n:=by
 grind [pV,IV,PG]
def oS:OpD:=⟨0,[],[],[],[],an,0,[],[],false⟩
def JH(l:Txt):AV:=.tup [opA ((oL l).getD oS),.v (.bool (oL l).isSome)]
theorem SV(l:Txt):rOp l=(let k:=gu ⟨l,0,false⟩;let s1:=bT k.2 16;let s2:=bT s1.2 16;let s3:=bT s2.2 16;let s4:=bT s3.2 16;let v:=pV s4.2;let r:=gu v.2;let t:=bT r.2 4096;let w:=bT t.2 64;let g:=qt w.2
 (⟨k.1,s1.1,s2.1,s3.1,s4.1,v.1,r.1,t.1,w.1,eqV g.1 (dN true)⟩,g.2)):=rfl
theorem f_l{o:OpD}(h:OpF o):OpL o:=by
 obtain⟨a,b,c,d,e,f,g⟩:=h;refine⟨adK,adK,adK,adK,?_,adK,adK⟩;rcases e with e|e
 ·rw[e];decide
 ·by_cases hk:o.val.kind=3∨o.val.kind=5
  ·have:=(vS e hk).2;omega
  grind [BS]
theorem RAt.base{h g:Heap}{id:Nat}{s:RS}(hr:RAt h id g s)(hn:h id=Option.none):Ab.Sub h g:=fun j b e=>hr.sub j b adL e
set_option maxHeartbeats 1000000 in
theorem L9(l:Txt)(q:Perm)(hl:l.length≤1000000)(h:Heap):ai Tryz.prog 90 [.sl (l.map aJ) q] h fun r h' =>r=JH l∧h' =h:=by
 refine adJ Tryz.func90 58 [.cell 2 39,.tmp 3] fun hwf=>?_
 simp only[go_sem];intro i1 h1;simp only[go_sem];refine(PL _ l _ (.sl _ _) hl).mono fun r g ⟨id,hid,er,eg⟩=>?_
 subst er;have n1:i1≠id:=fun e=>ahO
 have m0:h id=none:=by simp_all [ag,Ne.symm]
 have w0:WfR ⟨l,0,false⟩:=⟨Nat.zero_le _,hl⟩;have b0:RAt h id g ⟨l,0,false⟩:=⟨by simp_all [ah],fun j b hj e=>by
  rw[eg,ag _ _ hj,ag _ _ fun e2=>adL]
  exact e⟩
 have c0:g i1=some (.obj (opC oS) 39):=by rw[eg,ag _ _ n1];exact ah ..
 clear eg hid;simp only[go_sem];intro i2 h2;have n2:=b0.ne h2;have m1:=h1;have m2:=b0.none h2;have n21:i2≠i1:=fun e=>adL
 clear h2;have e:=SV l;simp only at e;have g0e:g=g:=rfl;generalize g=g0 at b0 c0⊢;clear g0e;simp only[go_sem];have b0' :=b0.put (b:=(some (.obj [.i 0,.s [],.s [],.s [],.s [],.i 0,.i 0,.s [],.i 0,.s [],.s [],.b false] 39))) m2 n2;have c0' :upd g0 i2 (some (.obj [.i 0,.s [],.s [],.s [],.s [],.i 0,.i 0,.s [],.i 0,.s [],.s [],.b false] 39)) i1=_:=(ag _ _ (Ne.symm n21)).trans c0;have d0' :upd g0 i2 (some (.obj [.i 0,.s [],.s [],.s [],.s [],.i 0,.i 0,.s [],.i 0,.s [],.s [],.b false] 39)) i2=_:=ah ..;clear b0 c0;generalize upd g0 i2 (some (.obj [.i 0,.s [],.s [],.s [],.s [],.i 0,.i 0,.s [],.i 0,.s [],.s [],.b false] 39))=g1 at b0' c0' d0'⊢;have b1:=b0';have c1:=c0';have d1:=d0';clear b0' c0' d0';refine b1.step (Ge _ w0) fun g2 b2 k2=>?_
 have c2:=(k2 i1 n1).trans c1;have d2:=(k2 i2 n2).trans d1;clear b1 c1 d1 k2;have w1:=l9 (lo:= -9223372036854775808) (hi:=9223372036854775807) w0;have q1:=uy w0
 change WfR (gu _).2 at w1
 have hb1:(gu ⟨l,0,false⟩).2.b=l:=Q3;generalize gu ⟨l,0,false⟩=x1 at e w1 q1 hb1 b2⊢;obtain⟨v1,s1⟩:=x1;simp only at e w1 q1 hb1 b2⊢;simp only[go_sem,d2,ah];have b2' :=b2.put (b:=(some (.obj [.i v1,.s [],.s [],.s [],.s [],.i 0,.i 0,.s [],.i 0,.s [],.s [],.b false] 39))) m2 n2;have c2' :upd g2 i2 (some (.obj [.i v1,.s [],.s [],.s [],.s [],.i 0,.i 0,.s [],.i 0,.s [],.s [],.b false] 39)) i1=_:=(ag _ _ (Ne.symm n21)).trans c2;have d2' :upd g2 i2 (some (.obj [.i v1,.s [],.s [],.s [],.s [],.i 0,.i 0,.s [],.i 0,.s [],.s [],.b false] 39)) i2=_:=ah ..;clear b2 c2 d2;generalize upd g2 i2 (some (.obj [.i v1,.s [],.s [],.s [],.s [],.i 0,.i 0,.s [],.i 0,.s [],.s [],.b false] 39))=g3 at b2' c2' d2'⊢;have b3:=b2';have c3:=c2';have d3:=d2';clear b2' c2' d2';refine b3.step (qc _ w1 16 adO) fun g4 b4 k4=>?_
 have c4:=(k4 i1 n1).trans c3;have d4:=(k4 i2 n2).trans d3;clear b3 c3 d3 k4;have w2:=gI (most:=16) w1 adO;have hb2:(bT s1 16).2.b=l:=xI.trans hb1;generalize bT s1 16=x2 at e w2 hb2 b4⊢;obtain⟨v2,s2⟩:=x2;simp only at e w2 hb2 b4⊢;simp only[go_sem];refine b4.step (qc _ w2 16 adO) fun g5 b5 k5=>?_
 have c5:=(k5 i1 n1).trans c4;have d5:=(k5 i2 n2).trans d4;clear b4 c4 d4 k5;have w3:=gI (most:=16) w2 adO;have hb3:(bT s2 16).2.b=l:=xI.trans hb2;generalize bT s2 16=x3 at e w3 hb3 b5⊢;obtain⟨v3,s3⟩:=x3;simp only at e w3 hb3 b5⊢;simp only[go_sem];refine b5.step (qc _ w3 16 adO) fun g6 b6 k6=>?_
 have c6:=(k6 i1 n1).trans c5;have d6:=(k6 i2 n2).trans d5;clear b5 c5 d5 k6;have w4:=gI (most:=16) w3 adO;have hb4:(bT s3 16).2.b=l:=xI.trans hb3;generalize bT s3 16=x4 at e w4 hb4 b6⊢;obtain⟨v4,s4⟩:=x4;simp only at e w4 hb4 b6⊢;simp only[go_sem];refine b6.step (qc _ w4 16 adO) fun g7 b7 k7=>?_
 have c7:=(k7 i1 n1).trans c6;have d7:=(k7 i2 n2).trans d6;clear b6 c6 d6 k7;have w5:=gI (most:=16) w4 adO;have hb5:(bT s4 16).2.b=l:=xI.trans hb4;generalize bT s4 16=x5 at e w5 hb5 b7⊢;obtain⟨v5,s5⟩:=x5;simp only at e w5 hb5 b7⊢;simp only[go_sem,d7,ah];have b7' :=b7.put (b:=(some (.obj [.i v1,.s v2,.s v3,.s v4,.s v5,.i 0,.i 0,.s [],.i 0,.s [],.s [],.b false] 39))) m2 n2;have c7' :upd g7 i2 (some (.obj [.i v1,.s v2,.s v3,.s v4,.s v5,.i 0,.i 0,.s [],.i 0,.s [],.s [],.b false] 39)) i1=_:=(ag _ _ (Ne.symm n21)).trans c7;have d7' :upd g7 i2 (some (.obj [.i v1,.s v2,.s v3,.s v4,.s v5,.i 0,.i 0,.s [],.i 0,.s [],.s [],.b false] 39)) i2=_:=ah ..;clear b7 c7 d7;generalize upd g7 i2 (some (.obj [.i v1,.s v2,.s v3,.s v4,.s v5,.i 0,.i 0,.s [],.i 0,.s [],.s [],.b false] 39))=g8 at b7' c7' d7'⊢;have b8:=b7';have c8:=c7';have d8:=d7';clear b7' c7' d7';rw[show l.map aJ=s5.b.map aJ by grind]
 refine b8.step (SD _ w5 _) fun g9 b9 k9=>?_
 have c9:=(k9 i1 n1).trans c8;have d9:=(k9 i2 n2).trans d8;clear b8 c8 d8 k9;have w6:=Iw w5;have q6:=CJ w5;generalize pV s5=x6 at e w6 q6 b9⊢;obtain⟨v6,s6⟩:=x6;simp only at e w6 q6 b9⊢;simp only[go_sem,d9,ah,aP];have b9' :=b9.put (b:=(some (.obj [.i v1,.s v2,.s v3,.s v4,.s v5,.i v6.kind,.i v6.n,.s v6.s,.i 0,.s [],.s [],.b false] 39))) m2 n2;have c9' :upd g9 i2 (some (.obj [.i v1,.s v2,.s v3,.s v4,.s v5,.i v6.kind,.i v6.n,.s v6.s,.i 0,.s [],.s [],.b false] 39)) i1=_:=(ag _ _ (Ne.symm n21)).trans c9;have d9' :upd g9 i2 (some (.obj [.i v1,.s v2,.s v3,.s v4,.s v5,.i v6.kind,.i v6.n,.s v6.s,.i 0,.s [],.s [],.b false] 39)) i2=_:=ah ..;clear b9 c9 d9;generalize upd g9 i2 (some (.obj [.i v1,.s v2,.s v3,.s v4,.s v5,.i v6.kind,.i v6.n,.s v6.s,.i 0,.s [],.s [],.b false] 39))=g10 at b9' c9' d9'⊢;have b10:=b9';have c10:=c9';have d10:=d9';clear b9' c9' d9';refine b10.step (Ge _ w6) fun g11 b11 k11=>?_
 have c11:=(k11 i1 n1).trans c10;have d11:=(k11 i2 n2).trans d10;clear b10 c10 d10 k11;have w7:=l9 (lo:= -9223372036854775808) (hi:=9223372036854775807) w6;have q7:=uy w6
 change WfR (gu _).2 at w7
 generalize gu s6=x7 at e w7 q7 b11⊢;obtain⟨v7,s7⟩:=x7;simp only at e w7 q7 b11⊢;simp only[go_sem,d11,ah];have b11' :=b11.put (b:=(some (.obj [.i v1,.s v2,.s v3,.s v4,.s v5,.i v6.kind,.i v6.n,.s v6.s,.i v7,.s [],.s [],.b false] 39))) m2 n2;have c11' :upd g11 i2 (some (.obj [.i v1,.s v2,.s v3,.s v4,.s v5,.i v6.kind,.i v6.n,.s v6.s,.i v7,.s [],.s [],.b false] 39)) i1=_:=(ag _ _ (Ne.symm n21)).trans c11;have d11' :upd g11 i2 (some (.obj [.i v1,.s v2,.s v3,.s v4,.s v5,.i v6.kind,.i v6.n,.s v6.s,.i v7,.s [],.s [],.b false] 39)) i2=_:=ah ..;clear b11 c11 d11;generalize upd g11 i2 (some (.obj [.i v1,.s v2,.s v3,.s v4,.s v5,.i v6.kind,.i v6.n,.s v6.s,.i v7,.s [],.s [],.b false] 39))=g12 at b11' c11' d11'⊢;have b12:=b11';have c12:=c11';have d12:=d11';clear b11' c11' d11';refine b12.step (qc _ w7 4096 adO) fun g13 b13 k13=>?_
 have c13:=(k13 i1 n1).trans c12;have d13:=(k13 i2 n2).trans d12;clear b12 c12 d12 k13;have w8:=gI (most:=4096) w7 adO;generalize bT s7 4096=x8 at e w8 b13⊢;obtain⟨v8,s8⟩:=x8;simp only at e w8 b13⊢;simp only[go_sem];refine b13.step (qc _ w8 64 adO) fun g14 b14 k14=>?_
 have c14:=(k14 i1 n1).trans c13;have d14:=(k14 i2 n2).trans d13;clear b13 c13 d13 k14;have w9:=gI (most:=64) w8 adO;generalize bT s8 64=x9 at e w9 b14⊢;obtain⟨v9,s9⟩:=x9;simp only at e w9 b14⊢;simp only[go_sem,d14,ah];have b14' :=b14.put (b:=(some (.obj [.i v1,.s v2,.s v3,.s v4,.s v5,.i v6.kind,.i v6.n,.s v6.s,.i v7,.s v8,.s v9,.b false] 39))) m2 n2;have c14' :upd g14 i2 (some (.obj [.i v1,.s v2,.s v3,.s v4,.s v5,.i v6.kind,.i v6.n,.s v6.s,.i v7,.s v8,.s v9,.b false] 39)) i1=_:=(ag _ _ (Ne.symm n21)).trans c14;have d14' :upd g14 i2 (some (.obj [.i v1,.s v2,.s v3,.s v4,.s v5,.i v6.kind,.i v6.n,.s v6.s,.i v7,.s v8,.s v9,.b false] 39)) i2=_:=ah ..;clear b14 c14 d14;generalize upd g14 i2 (some (.obj [.i v1,.s v2,.s v3,.s v4,.s v5,.i v6.kind,.i v6.n,.s v6.s,.i v7,.s v8,.s v9,.b false] 39))=g15 at b14' c14' d14'⊢;have b15:=b14';have c15:=c14';have d15:=d14';clear b14' c14' d14';refine b15.step (Hi _ w9) fun g16 b16 k16=>?_
 have c16:=(k16 i1 n1).trans c15;have d16:=(k16 i2 n2).trans d15;clear b15 c15 d15 k16;have w10:=Ix w9;generalize qt s9=x10 at e w10 b16⊢;obtain⟨v10,s10⟩:=x10;simp only at e w10 b16⊢;simp only[go_sem];refine(E8 true _).pthen ?_;simp only[go_sem,d16,ah,aP,dN];generalize hgl:(v10.kind==1 && (v10.n==1 && v10.s== []))=gl;have egl:eqV v10 (dN true)=gl:=hgl;rw[egl]at e;clear egl hgl;have b16' :=b16.put (b:=(some (.obj [.i v1,.s v2,.s v3,.s v4,.s v5,.i v6.kind,.i v6.n,.s v6.s,.i v7,.s v8,.s v9,.b gl] 39))) m2 n2;have c16' :upd g16 i2 (some (.obj [.i v1,.s v2,.s v3,.s v4,.s v5,.i v6.kind,.i v6.n,.s v6.s,.i v7,.s v8,.s v9,.b gl] 39)) i1=_:=(ag _ _ (Ne.symm n21)).trans c16;have d16' :upd g16 i2 (some (.obj [.i v1,.s v2,.s v3,.s v4,.s v5,.i v6.kind,.i v6.n,.s v6.s,.i v7,.s v8,.s v9,.b gl] 39)) i2=_:=ah ..;clear b16 c16 d16;generalize upd g16 i2 (some (.obj [.i v1,.s v2,.s v3,.s v4,.s v5,.i v6.kind,.i v6.n,.s v6.s,.i v7,.s v8,.s v9,.b gl] 39))=g17 at b16' c16' d16'⊢;have b17:=b16';have c17:=c16';have d17:=d16';clear b16' c16' d16';refine b17.step (Sd _) fun g18 b18 k18=>?_
 have c18:=(k18 i1 n1).trans c17;have d18:=(k18 i2 n2).trans d17;clear b17 c17 d17 k18;generalize ho:(⟨v1,v2,v3,v4,v5,v6,v7,v8,v9,gl⟩:OpD)=o at e;have hd:g18 i2=some (.obj (opC o) 39):=by rw[d18,←ho];rfl
 have h64:mO o:=by rw[←ho];exact⟨q1,q6.1,q6.2,q7⟩
 have hc:g18 i1=some (.obj (opC oS) 39):=c18;clear d18 c18 ho;have hnone:∀(g:Heap),RAt h id g s10→oL l=none→mP [opA oS,.b false] g fun r h' =>r=JH l∧h' =h:=fun g hg en=>
  .mk _ (.refl _) (hg.base m0) ⟨by unfold JH;rw[en];rfl,rfl⟩
 unfold opC oS an at hc;unfold opC at hd;cases de:Kr s10
 ·have en:oL l=none:=by grind [oL]
  simp only[go_sem,de,hc,ah];exact agL
 simp only[go_sem,de,hd];refine(tQ o _).pthen ?_;cases df:cB o
 ·exact ajC
 have hF:=mW df;simp only[go_sem,hd];refine(Na o h64 (f_l hF) _).pthen ?_;simp only[go_sem];rw[hb5];refine(Da (jQ o) l _ _ _).pthen ?_;cases dp:decide (jQ o=l)
 ·exact ajC
 ·have en:oL l=some o:=by grind [oL]
  simp only[go_sem,hc,hd,ah];exact .mk _ (.refl _) ((b18.put m1 n1).base m0) ⟨by unfold JH;rw[en];rfl,rfl⟩
theorem QM(s q:BitVec 64):IntKind.u64.wrap (IntKind.u64.wrap (((BitVec.ofInt 64 (s.toNat:Int) ^^^ BitVec.ofInt 64 (q.toNat:Int)).toNat:Nat):Int)*1099511628211)=(((s ^^^ q)*1099511628211#64).toNat:Int):=by
 rw[BitVec.ofInt_natCast,BitVec.ofInt_natCast,BitVec.ofNat_toNat,BitVec.ofNat_toNat,BitVec.setWidth_eq,BitVec.setWidth_eq];generalize s ^^^ q=x;rw[Qk _ x.isLt];have e:(x.toNat:Int)*1099511628211=((x.toNat*1099511628211:Nat):Int):=adK;rw[e,Rg,BitVec.toNat_mul,BitVec.toNat_ofNat]
theorem RG(p:BitVec 64):p.toNat % 256=(p &&& 255#64).toNat:=by
 exact(Nat.and_two_pow_sub_one_eq_mod p.toNat 8).symm
theorem LG(prev:BitVec 64)(y:AV)(l:Txt)(h:Heap)(hb:By h y l)(hl:l.length≤1000000):
  ai Tryz.prog 43 [.v (.int .u64 (prev.toNat:Int)),y] h fun r h' =>r= .v (.int .u64 ((u6 prev l).toNat:Int))∧h' =h:=by
 refine adJ Tryz.func43 31 [.tmp 4] fun hwf=>?_
 simp only[go_sem];refine .intro (fun k ρ g=>g=h∧∃(i:Nat) (p s:BitVec 64),i+k=8∧JA k p s=JA 8 prev 14695981039346656037#64∧lk ρ 0=some (.v (.int .u64 (p.toNat:Int)))∧lk ρ 1=some y∧lk ρ 5=some (.v (.int .u64 (s.toNat:Int)))∧lk ρ 8=some (.i (i:Int))) 8 ?_ ?_
 ·refine⟨rfl,0,prev,14695981039346656037#64,rfl,rfl,?_,?_,?_,?_⟩<;>simp only[go_sem]
  rfl
 rintro k ρ g ⟨rfl,i,p,s,hk,hv,r0,r1,r5,r8⟩
 rcases k with _|k
 ·have d1:decide ((i:Int)<8)=false:=decide_eq_false adK
  simp only[go_sem,r0,r1,r5,r8,d1,hb.len];refine .intro (fun k ρ g' =>g' =g∧∃(i:Nat) (s:BitVec 64),i+k=l.length∧(l.drop i).foldl (fun h c=>fnv h c.toNat) s=u6 prev l∧lk ρ 5=some (.v (.int .u64 (s.toNat:Int)))∧lk ρ 18=some y∧lk ρ 19=some (.i (l.length:Int))∧lk ρ 20=some (.i (i:Int))) l.length ?_ ?_
  ·refine⟨rfl,0,s,adK,by grind [JC,u6],?_,?_,?_,?_⟩<;>simp only[go_sem,r5,r1]
   all_goals rfl
  clear r0 r1 r5 r8 hv
  rintro k ρ g' ⟨rfl,i,s,hk,hv,r5,r18,r19,r20⟩
  rcases k with _|k
  ·have d1:decide ((i:Int)<(l.length:Int))=false:=decide_eq_false adK
   simp only[go_sem,r5,r18,r19,r20,d1];rw[List.drop_eq_nil_of_le adK]at hv;exact .same (.refl _) ⟨by rw[←hv];rfl,rfl⟩
  ·have hlt:i<l.length:=by omega
   have d1:decide ((i:Int)<(l.length:Int))=true:=decide_eq_true adK;have w1:IntKind.i64.wrap ((i:Int)+1)=((i+1:Nat):Int):=adY;rw[List.drop_eq_getElem_cons hlt]at hv;simp only[go_sem,r5,r18,r19,r20,d1];refine hb.idx i rfl hlt u5 u5a fun q hq=>?_
   generalize l[i]=c at hq hv;have hcl:=c.toNat_lt;have w2:IntKind.u64.wrap (c.toNat:Int)=((BitVec.ofNat 64 c.toNat).toNat:Int):=adV;have hx:=hq (fun v=>v=aJ c)
   simp only[go_sem,r5,r18,r19,r20,hq _,aJ,w2,w1];refine⟨k,adK,rfl,i+1,fnv s c.toNat,adK,adL,?_,?_,?_,?_⟩<;>simp only[go_sem,r18,r19,fnv]
   exact congrArg (fun z=>some (AV.v (Value.int IntKind.u64 z))) (QM s _)
 ·have d1:decide ((i:Int)<8)=true:=decide_eq_true adK
  have w1:IntKind.i64.wrap ((i:Int)+1)=((i+1:Nat):Int):=adY;have e8:p.toNat / 256=(p>>>8).toNat:=af8;have hp:=p.isLt;simp only[go_sem,r0,r1,r5,r8,d1,w1,show p.toNat<18446744073709551616 from hp,RG,e8]
  refine⟨k,adK,rfl,i+1,p>>>8,fnv s (p &&& 255#64).toNat,adK,by grind [JB],?_,?_,?_,?_⟩<;>simp only[go_sem,r1,fnv,BitVec.ofNat_toNat,BitVec.setWidth_eq]
  exact congrArg (fun z=>some (AV.v (Value.int IntKind.u64 z))) (QM s _)
def jE(s:aq):List AV:=[.i s.tick,gm s.cases,kE s.reviews,lH s.notices,dZ s.roles]++gb s.policy++ [.i s.version]
def mo(jid:Nat)(e:dV)(yl:AV):Blk:=.obj ([.ptr jid 0]++jE e.s++ [yl,.v (.int .u64 (e.ch.toNat:Int))]) 92
theorem cQ(s:aq):∃a1 a2 a3 a4 a5 a6 a7,jE s= [.i s.tick,gm s.cases,kE s.reviews,lH s.notices,dZ s.roles,a1,a2,a3,a4,a5,a6,a7,.i s.version]:=by
 obtain⟨tick,cases,reviews,notices,roles,policy,version⟩:=s;obtain⟨id,set,alg,tgt,rules,kids,obls⟩:=policy;exact⟨_,_,_,_,_,_,_,rfl⟩
def BF(e:dV)(l:Txt):AV:=.tup [opA ((jO e l).getD oS),.v (.bool (jO e l).isSome)]
theorem HS{l:Txt}{o:OpD}(hl:l.length≤1000000)(h:oL l=some o):mO o:=by
 unfold oL at h;split at h
 ·cases h
  have w0:WfR ⟨l,0,false⟩:=⟨Nat.zero_le _,hl⟩;have w1:WfR (gu ⟨l,0,false⟩).2:=l9 w0;have w2:=gI (most:=16) w1 adO;have w3:=gI (most:=16) w2 adO;have w4:=gI (most:=16) w3 adO;have w5:=gI (most:=16) w4 adO;exact⟨uy w0,(CJ w5).1,(CJ w5).2,uy (Iw w5)⟩
 grind
theorem LX(l:Txt)(q:Perm)(e:dV)(yl:AV)(jid x:Nat)(h:Heap)(hl:l.length≤900000)(hx:h x=some (mo jid e yl)):ai Tryz.prog 37 [.ptr x 0,.sl (l.map aJ) q] h fun r h' =>r=BF e l∧h' =h:=by
 obtain⟨a1,a2,a3,a4,a5,a6,a7,es⟩:=cQ e.s;have g:=hx;unfold mo at g;rw[es]at g;simp only[List.cons_append,List.nil_append]at g;refine adJ Tryz.func37 33 [.cell 4 39,.tmp 5] fun hwf=>?_
 simp only[go_sem];intro i1 h1;have n1:i1≠x:=fun e=>adL
 by_cases hs:l.length<8
 ·have d1:decide ((l.length:Int)<8)=true:=decide_eq_true adK
  have er:jO e l=none:=by simp_all [jO,if_pos]
  simp only[go_sem,adA,d1,ah];exact .mk _ (.refl _) ((Sub.refl h).new h1 _) ⟨ag6,rfl⟩
 have d1:decide ((l.length:Int)<8)=false:=decide_eq_false adK;simp only[go_sem,adA,d1];refine⟨adK,adK,?_⟩;refine(L9 (l.drop 8) _ adL _).pthen ?_;have er0:jO e l=(match oL (l.drop 8)with|some o=>if dY e.ch o=l then some o else none|none=>none):=by unfold jO;grind
 cases hg:oL (l.drop 8)with
 |none=>
  have er:jO e l=none:=adL;simp only[go_sem,JH,hg,opA,opC,oS,an,Option.getD,Option.isSome];intro i2 h2;have n2:=aB h2;have n21:=aH h2;simp only[go_sem,ak,n21,n21.symm,n1,n1.symm];generalize hH:upd (upd h i1 _) i2 _=H;have k1:H i1=some (.obj (opC oS) 39):=ae0;have k2:H i2=some (.obj (opC oS) 39):=afG;have kx:H x=some (mo jid e yl):=by
   rw[←hH,ag _ _ (fun e2=>adL),ag _ _ (Ne.symm n1)];omega
  have hsub:Ab.Sub h H:=aen;clear hH g;unfold mo at kx;rw[es]at kx;simp only[List.cons_append,List.nil_append]at kx;unfold opC oS an at k1;refine .quiet adN ?_;simp only[go_sem];simp only[go_sem,k1,ah];exact ajn
 |some o=>
  obtain⟨hf,hp⟩:=get_some hg;have h64:=HS adL hg;have er1:jO e l=if dY e.ch o=l then some o else none:=adL
  simp only[go_sem,JH,hg,opA,opC,Option.getD,Option.isSome];intro i2 h2;have n2:=aB h2;have n21:=aH h2;simp only[go_sem,ak,n21,n21.symm,n1,n1.symm];generalize hH:upd (upd h i1 _) i2 _=H;have k1:H i1=some (.obj (opC oS) 39):=ae0;have k2:H i2=some (.obj (opC o) 39):=afG;have kx:H x=some (mo jid e yl):=by
   rw[←hH,ag _ _ (fun e2=>adL),ag _ _ (Ne.symm n1)];omega
  have hsub:Ab.Sub h H:=aen;clear hH g;unfold mo at kx;rw[es]at kx;simp only[List.cons_append,List.nil_append]at kx;unfold opC oS an at k1;unfold opC at k2;refine .quiet adN ?_;simp only[go_sem,kx,k2];refine⟨_,GK e.ch o h64 (f_l (mW hf)) adL _,?_⟩;simp only[go_sem];refine⟨_,Da (dY e.ch o) l _ _ _,?_⟩;cases dp:decide (dY e.ch o=l)
  ·have er:jO e l=none:=by grind
   simp only[go_sem,k1,ah];exact ajn
  ·have er:jO e l=some o:=by grind
   simp only[go_sem,k1,k2,ah];exact ajn
end Go.Proofs.YtfdgemhnlennbaaGreatDoor
namespace Go.Bf
open Go Go.Ab Go.Proofs.YtfdgemhnlennbaaGreatDoor
def opL(k:Int)(subj reason:Txt)(g:Bool)(s:Txt):OpD×Bool:=
 if k=1 then(⟨k,subj,s,[],[],an,0,[],reason,g⟩,true)
 else if k=2∨k=6 then(⟨k,subj,(cG s).1,(cG s).2,[],an,0,[],reason,g⟩,true)
 else if k=3 then(⟨k,subj,(cG s).1,(cG (cG s).2).1,[],(fB (cG (cG s).2).2).1,0,[],reason,g⟩,(fB (cG (cG s).2).2).2)
 else if k=4 then(⟨k,subj,(cG s).1,[],(cG s).2,an,0,[],reason,g⟩,true)
 else if k=5∨k=8 then(⟨k,subj,[],[],[],an,fV s,[],reason,g⟩,true)
 else if k=7 then(⟨k,subj,[],[],[],an,0,s,reason,g⟩,true)
 else(⟨k,subj,[],[],[],an,0,[],reason,g⟩,true)
def pF(s:Txt):Bool×Txt×Txt:=if s.take 1== [33]then(true,(cG (s.drop 1)).1,(cG (s.drop 1)).2)else(false,[],s)
def zz(s:Txt):OpD×Bool:=
 let g:=pF (cG s).2
 opL (tZ (cG g.2.2).1) (cG s).1 g.2.1 g.1 (cG g.2.2).2
def jq(s:Txt):Option OpD:=if(zz s).2 && cB (zz s).1 then some (zz s).1 else none
theorem mM(s:Txt):(cG s).1.length≤s.length∧(cG s).2.length≤s.length:=by
 grind [List.takeWhile_prefix,List.dropWhile_suffix,cG,List.length_drop]
theorem wN(w:Txt):∀f k:Nat,0≤wM f k w∧wM f k w≤(f:Int)+k - 1∨wM f k w=0
 |0,k=> .inr rfl
 |f+1,k=>by
  unfold wM;have:=wN w f (k+1);split<;>omega
theorem DY(w:Txt):0≤tZ w∧tZ w≤8:=by
 have:=wN w 8 1;unfold tZ;omega
end Go.Bf
namespace Go.Proofs.YtfdgemhnlennbaaGreatDoor
open Go Go.Ab Go.Bf
theorem jH.join{P:Program}{U:TypeId→TI}{n:Nat}{a b:Code}{K:Exit→Env→Heap→Prop}{ρ:Env}{h:Heap}{y:AV}(I:Env→Heap→Prop)(hK:∀ρ' H',I ρ' H'→K .normal ρ' H')(hc:∀K' :Exit→Env→Heap→Prop,(∀ρ' H',I ρ' H'→K' .normal ρ' H')→jH P U n a b ρ h K' y):jH P U n a b ρ h K y:=hc K hK
def uc(s:Txt):AV:=.tup [opA ((jq s).getD oS),.v (.bool (jq s).isSome)]
def Fm:List AV:=[.i 0,.s [],.s [],.s [],.s [],.i 0,.i 0,.s [],.i 0,.s [],.s [],.b false]
theorem ni(s:Txt)(hs:s.length≤900000)(h:Heap)(he:ja h):ai Tryz.prog 31 [.s s] h fun r h' =>r=uc s∧h' =h:=by
 obtain⟨l1,l2⟩:=mM s;obtain⟨⟨subj,s1⟩,e0⟩:∃x,cG s=x:=⟨_,rfl⟩;rw[e0]at l1 l2;simp only at l1 l2;refine adJ Tryz.func31 95 [.cell 2 39,.tmp 3] fun hwf=>?_
 simp only[go_sem];intro i2 h2;simp only[go_sem];intro i4 h4;have n42:=aH h4;have k4:=aB h4;simp only[go_sem];refine(lO s adK _).pthen ?_;rw[e0];simp only[go_sem,ah,cI];refine(SS s1 _).pthen ?_;simp only[go_sem];obtain⟨⟨g,rs,s2⟩,eg⟩:∃x,pF s1=x:=⟨_,rfl⟩;have hraw:zz s=opL (tZ (cG s2).1) subj rs g (cG s2).2:=by simp only[zz,e0,eg]
 have l3:s2.length≤900000:=by
  have h3:=mM (s1.drop 1);rw[List.length_drop]at h3;unfold pF at eg;split at eg<;>(injection eg with _ eg;injection eg with _ eg;subst eg;omega)
 refine jH.join (fun ρ H=>lk ρ 0=some (.s s2)∧lk ρ 2=some (.ptr i2 0)∧lk ρ 4=some (.ptr i4 0)∧lk ρ 6=some (.b true)∧H i4=some (.obj [.i 0,.s subj,.s [],.s [],.s [],.i 0,.i 0,.s [],.i 0,.s [],.s rs,.b g] 39)∧H i2=some (.obj Fm 39)∧Ab.Sub h H) ?_ fun K1 hK1=>?_
 rotate_left
 ·cases eh:(s1.take 1== [33])
  ·have eg2:pF s1=(false,[],s1):=by unfold pF;rw[if_neg (by simp[eh])]
   rw[eg2]at eg;injection eg with eg1 eg
   injection eg with eg3 eg
   subst eg1 eg3 eg;simp only[go_sem,eh];exact ajf
  ·have eg2:pF s1=(true,(cG (s1.drop 1)).1,(cG (s1.drop 1)).2):=by unfold pF;rw[if_pos eh]
   rw[eg2]at eg;injection eg with eg1 eg
   injection eg with eg3 eg
   have hne:1≤s1.length:=by
    rcases s1 with _|⟨c,r⟩
    ·cases eh
    ·simp
   simp only[go_sem,eh,ah,cI];refine⟨adK,adK,adK,?_⟩;rw[show nF s1 1 (s1.length:Int) (some (Operand.const (Value.int .i64 1))).isSome none.isSome=s1.drop 1 from by simp[nF]]
   refine(lO (s1.drop 1) afh _).pthen ?_;simp only[go_sem,ah,cI];subst eg1 eg3 eg;exact ajf
 rintro ρ H ⟨r0,r2,r4,r6,f4,f2,hsH⟩
 simp only[go_sem,r0];refine(lO s2 adK _).pthen ?_;obtain⟨⟨w,s3⟩,e3⟩:∃x,cG s2=x:=⟨_,rfl⟩;rw[e3]at hraw;simp only at hraw;rw[e3];simp only[go_sem];refine(O4 w _).pthen ?_;obtain⟨k,ek⟩:∃x,tZ w=x:=⟨_,rfl⟩;rw[ek]at hraw;simp only[go_sem,ek,r4,f4];have hk:=ek▸DY w;obtain⟨o,ok,eo⟩:∃o ok,opL k subj rs g s3=(o,ok):=⟨_,_,rfl⟩;rw[eo]at hraw;have n24:i2≠i4:=n42.symm;have hf2:∀c,Ab.Sub h (upd H i4 c):=fun c=>hsH.put k4 c
 have l4:=mM s2;rw[e3]at l4;have l5:=mM s3;have l6:=mM (cG s3).2;simp only at l4;refine jH.join (fun ρ H=>lk ρ 2=some (.ptr i2 0)∧lk ρ 4=some (.ptr i4 0)∧lk ρ 6=some (.b ok)∧H i4=some (.obj [.i o.kind,.s o.subj,.s o.case,.s o.field,.s o.to,.i o.val.kind,.i o.val.n,.s o.val.s,.i o.review,.s o.text,.s o.reason,.b o.glass] 39)∧H i2=some (.obj Fm 39)∧Ab.Sub h H) ?_ fun K2 hK2=>?_
 rotate_left
 ·have hc:k=0∨k=1∨k=2∨k=3∨k=4∨k=5∨k=6∨k=7∨k=8:=by omega
  rcases hc with rfl|rfl|rfl|rfl|rfl|rfl|rfl|rfl|rfl
  ·exact ain
  ·exact ain
  ·exact ah7
  ·simp[opL]at eo
   obtain⟨eo,rfl⟩:=eo;subst eo;simp only[go_sem,r0,r4];refine(lO s3 adK _).pthen ?_;simp only[go_sem,r0,r4,ah,cI];refine(lO (cG s3).2 adK _).pthen ?_;simp only[go_sem,r0,r4,ah,cI];refine(Gr (cG (cG s3).2).2 _ (he.sub (hf2 _))).pthen ?_;simp only[go_sem,aP,r0,r4,ah,cI];exact hK2 _ _ ⟨aec,aea,aeh,by rw[ah],aeN,hf2 _⟩
  ·exact ah7
  ·simp[opL]at eo
   obtain⟨eo,rfl⟩:=eo;subst eo;simp only[go_sem,r0,r4];refine(zh s3 adK _).pthen ?_;exact aib
  ·exact ah7
  ·exact ain
  ·simp[opL]at eo
   obtain⟨eo,rfl⟩:=eo;subst eo;simp only[go_sem,r0,r4];refine(zh s3 adK _).pthen ?_;exact aib
 rintro ρ3 H3 ⟨q2,q4,q6,g4,g2,hsH3⟩
 have bad:jq s=none→uc s= .tup [opA oS,.b false]:=fun e=>by
  unfold uc;rw[e];rfl
 cases ok
 ·simp only[go_sem,q2,q4,q6,g4,g2,Fm]
  exact .mk _ (.refl _) (hsH3.put h2 _) ⟨(bad (by unfold jq;rw[hraw];rfl)).symm,rfl⟩
 simp only[go_sem,q2,q4,q6,g4];have hfo:=tQ o H3;rw[opA]at hfo;refine hfo.pthen ?_;cases ef:cB o
 ·simp only[go_sem,q2,q4,q6,g4,g2,Fm]
  exact .mk _ (.refl _) (hsH3.put h2 _) ⟨(bad (by unfold jq;rw[hraw];simp[ef])).symm,rfl⟩
 ·simp only[go_sem,q2,q4,q6,g4,g2,Fm]
  exact .mk _ (.refl _) (hsH3.put h2 _) ⟨by unfold uc jq;rw[hraw];simp only[ef,Bool.and_self,if_true];rfl,rfl⟩
end Go.Proofs.YtfdgemhnlennbaaGreatDoor
namespace Go.Bf
open Go Go.Ab Go.Proofs.YtfdgemhnlennbaaGreatDoor
def Bo(m:aS):Txt:=
 if m=naM then [78,111,116,65,112,112,108,105,99,97,98,108,101]else if m=bf then [80,101,114,109,105,116]else if m=cF then [68,101,110,121]
 else if m=wI then [73,110,100,101,116,101,114,109,105,110,97,116,101,123,80,125]else if m=wH then [73,110,100,101,116,101,114,109,105,110,97,116,101,123,68,125]
 else if m=mZ then [73,110,100,101,116,101,114,109,105,110,97,116,101,123,68,80,125]else []
def gX(r:ig):Txt:=
 if r.err=12∧r.mark≠bf then [100,101,110,105,101,100,32]++Bo r.mark
 else if r.err≠0∧0<r.at_ then [101,114,114,111,114,32]++Lib.itoa r.err++ [32,97,116,32]++Lib.itoa r.at_
 else if r.err≠0 then [101,114,114,111,114,32]++Lib.itoa r.err
 else if r.glass then [103,108,97,115,115]else if r.hidden then [104,105,100,100,101,110]
 else if r.val.kind=0∧r.val.n=0∧r.val.s= []then [111,107]else [111,107,32]++oW r.val
theorem Ke(m:aS):(Bo m).length≤20:=by
 unfold Bo
 repeat' split
 all_goals decide
theorem uK(v:bt)(h:inV v):(oW v).length≤194:=by
 unfold oW;split
 ·rename_i hv
  exact IM hv h.1 h.2
 simp
end Go.Bf
namespace Go.Proofs.YtfdgemhnlennbaaGreatDoor
open Go Go.Ab Go.Bf
theorem MG(m:aS)(hmm:M9 m)(h:Heap):ai Tryz.prog 138 [aN m] h fun r h' =>r= .s (Bo m)∧h' =h:=by
 obtain⟨n1,n2,n3,n4,n5,n6⟩:=nb hmm;refine adJ Tryz.func138 16 [.tmp 2] fun hwf=>?_
 unfold Bo;cases d1:(m==naM)
 case true=>simp -implicitDefEqProofs only[go_sem,aN,n1,d1];exact .same (.refl _) ⟨by rw[if_pos adL];rfl,rfl⟩
 cases d2:(m==bf)
 case true=>simp -implicitDefEqProofs only[go_sem,aN,n1,n2,d1,d2];exact .same (.refl _) ⟨by rw[if_neg adL,if_pos adL];rfl,rfl⟩
 cases d3:(m==cF)
 case true=>simp -implicitDefEqProofs only[go_sem,aN,n1,n2,n3,d1,d2,d3];exact .same (.refl _) ⟨by rw[if_neg adL,if_neg adL,if_pos adL];rfl,rfl⟩
 cases d4:(m==wI)
 case true=>simp -implicitDefEqProofs only[go_sem,aN,n1,n2,n3,n4,d1,d2,d3,d4];exact .same (.refl _) ⟨by rw[if_neg adL,if_neg adL,if_neg adL,if_pos adL];rfl,rfl⟩
 cases d5:(m==wH)
 case true=>simp -implicitDefEqProofs only[go_sem,aN,n1,n2,n3,n4,n5,d1,d2,d3,d4,d5];exact .same (.refl _) ⟨by rw[if_neg adL,if_neg adL,if_neg adL,if_neg adL,if_pos adL];rfl,rfl⟩
 cases d6:(m==mZ)
 case true=>simp -implicitDefEqProofs only[go_sem,aN,n1,n2,n3,n4,n5,n6,d1,d2,d3,d4,d5,d6];exact .same (.refl _) ⟨by rw[if_neg adL,if_neg adL,if_neg adL,if_neg adL,if_neg adL,if_pos adL];rfl,rfl⟩
 simp -implicitDefEqProofs only[go_sem,aN,n1,n2,n3,n4,n5,n6,d1,d2,d3,d4,d5,d6];exact .same (.refl _) ⟨by rw[if_neg adL,if_neg adL,if_neg adL,if_neg adL,if_neg adL,if_neg adL];rfl,rfl⟩
structure B0 (r:ig):Prop where
 mark:M9 r.mark
 err: -9223372036854775808≤r.err∧r.err≤9223372036854775807
 at_: -9223372036854775808≤r.at_∧r.at_≤9223372036854775807
 val:inV r.val
theorem I0(r:ig)(hr:B0 r)(h:Heap)(ht:tu h):ai Tryz.prog 84 [.agg (mb r)] h fun y h' =>y= .s (gX r)∧h' =h:=by
 have np:=(nb hr.mark).npe;have hl:lim=9223372036854775808:=rfl;have hi1:=Lib.itoa_length_le r.err hr.err.1 hr.err.2;have hi2:=Lib.itoa_length_le r.at_ hr.at_.1 hr.at_.2;have hnl:=Ke r.mark;refine adJ Tryz.func84 57 [.tmp 2] fun hwf=>?_
 simp -implicitDefEqProofs only[go_sem,mb];intro id hid;have ht2:∀b,tu (upd h id b):=fun b=>ht.sub (.aj hid)
 cases d1:(r.err==12)
 case true=>
  have e1:r.err=12:=adL;cases d2:(r.mark==bf)
  case false=>
   simp -implicitDefEqProofs only[go_sem,aN,np,d1,d2];refine(MG r.mark hr.mark _).pthen ?_;have c1:0+7+(Bo r.mark).length<lim:=adK;simp -implicitDefEqProofs only[go_sem,c1];exact .mk _ (.refl _) (.aj hid) ⟨by unfold gX;rw[if_pos ⟨e1,adL⟩];rfl,rfl⟩
  case true=>
   have d3:(r.err !=0)=true:=adL;cases d4:decide (r.at_>0)
   ·simp -implicitDefEqProofs only[go_sem,aN,np,d1,d2,d3,d4]
    exact aiJ
   ·simp -implicitDefEqProofs only[go_sem,aN,np,d1,d2,d3,d4]
    exact aid
 have e1:r.err≠12:=adL;cases d3:(r.err !=0)
 case true=>
  cases d4:decide (r.at_>0)
  ·simp -implicitDefEqProofs only[go_sem,d1,d3,d4]
   exact aiJ
  ·simp -implicitDefEqProofs only[go_sem,d1,d3,d4]
   exact aid
 have e0:r.err=0:=adL;cases d5:r.glass
 case true=>
  simp -implicitDefEqProofs only[go_sem,d1,d3,d5];exact .mk _ (.refl _) (.aj hid) ⟨by unfold gX;rw[if_neg adL,if_neg adL,if_neg adL,if_pos d5];rfl,rfl⟩
 cases d6:r.hidden
 case true=>
  simp -implicitDefEqProofs only[go_sem,d1,d3,d5,d6];exact .mk _ (.refl _) (.aj hid) ⟨by unfold gX;rw[if_neg adL,if_neg adL,if_neg adL,if_neg adL,if_pos d6];rfl,rfl⟩
 cases d7:(r.val.kind==0 && (r.val.n==0 && r.val.s== []))
 case true=>
  simp -implicitDefEqProofs only[go_sem,d1,d3,d5,d6,d7];exact .mk _ (.refl _) (.aj hid) ⟨by unfold gX;rw[if_neg adL,if_neg adL,if_neg adL,if_neg adL,if_neg adL,if_pos adL];rfl,rfl⟩
 simp -implicitDefEqProofs only[go_sem,d1,d3,d5,d6,d7];have hv:=fun H hH=>zX vG r.val hr.val H hH
 simp only[aP]at hv;refine(hv _ (ht2 _)).pthen ?_;have c1:0+3+(oW r.val).length<lim:=by
  have:=uK r.val hr.val;omega
 simp -implicitDefEqProofs only[go_sem,c1];exact .mk _ (.refl _) (.aj hid) ⟨by unfold gX;rw[if_neg adL,if_neg adL,if_neg adL,if_neg adL,if_neg adL,if_neg adL];rfl,rfl⟩
def ldA(d:qv):AV:=.agg (yj d)
def nJ(h:Heap)(y:AV)(ds:List qv)(sp:List Nat):Prop:=(y= .sl [] .full∧ds= []∧sp= [])∨∃k,y= .sl (ds.map ldA) (.own k)∧h k=some (.spare ds.length 16)∧sp= [k]
theorem uD:(U 68).sz=16:=adV
theorem nJ.row{h:Heap}{y:AV}{ds:List qv}{sp:List Nat}(hg:nJ h y ds sp):∃q,y= .sl (ds.map ldA) q:=by
 rcases hg with⟨rfl,rfl,_⟩|⟨k,rfl,_⟩<;>exact⟨_,rfl⟩
theorem nJ.touch{h h' :Heap}{y:AV}{ds:List qv}{sp S:List Nat}(hg:nJ h y ds sp)(ht:Touch S h h')(hn:∀i∈sp,i∉S):nJ h' y ds sp:=by
 rcases hg with⟨rfl,rfl,rfl⟩|⟨k,rfl,k1,rfl⟩
 ·exact .inl ⟨rfl,rfl,rfl⟩
 ·exact .inr ⟨k,rfl,ht _ _ (hn k adR) k1,rfl⟩
theorem nJ.has{h:Heap}{y:AV}{ds:List qv}{sp:List Nat}(hg:nJ h y ds sp):∀i∈sp,∃n,h i=some (.spare n 16):=by
 rcases hg with⟨rfl,rfl,rfl⟩|⟨k,rfl,k1,rfl⟩
 ·simp
 grind
theorem D6(ds:List qv):Sized 16 (ds.map ldA):=fun z hz=>by
 obtain⟨d,_,rfl⟩:=List.mem_map.1 hz;rfl
theorem uDb:∃n,(U 68).bytes=n∧n≠0∧n≤1000:=⟨_,rfl,adO,adO⟩
theorem nJ.app{h:Heap}{y:AV}{ds:List qv}{d:qv}{q:Perm}{sp:List Nat}{Q:AV→Heap→Prop}(hg:nJ h y ds sp)(hl:ds.length≤1000000)
  (hk:∀y' h' sp',nJ h' y' (ds++ [d]) sp'→Touch sp h h'→(∀i∈sp',i∈sp∨h i=none)→Q y' h'):apK U h y (.sl [ldA d] q) Q (.slice 68):=by
 obtain⟨n,hb,hb0,hb1⟩:=uDb;have hm:(ds.length+1)*n≤140737488355328:=by
  have:=Nat.mul_le_mul (show ds.length+1≤1000001 by omega) hb1
  omega
 have s2:Sized 16 [ldA d]:=D6 [d];rcases hg with⟨rfl,rfl,rfl⟩|⟨k,rfl,k1,rfl⟩
 ·refine(qA ..).mpr ⟨adO,adK,?_⟩
  refine⟨by simp[Sized],by grind [uD],adL,And.intro (fun hn=>by cases hn) (fun hn=>oF.own fun id hid=>?_)⟩
  rw[uD];exact hk _ _ [id] (.inr ⟨id,rfl,ahO,rfl⟩) (.of ((Ab.Sub.refl h).new hid _)) adL
 ·refine(Cb ..).mpr ⟨adO,adK,?_⟩
  refine⟨by grind [uD,D6],by grind [uD],adL,by grind [uD],?_⟩
  rw[uD];exact hk _ _ [k] (.inr ⟨k,adR,ahO,rfl⟩) .upd adR
theorem HT(e:dV)(s:aq)(d:qv)(p:Txt)(q:Perm)(jid x:Nat)(yl:AV)(sp:List Nat)(h:Heap)(hx:h x=some (mo jid e yl))(hg:nJ h yl e.log sp)(hl:e.log.length≤1000000)(hp:p.length≤1000000):
  ai Tryz.prog 38 [.ptr x 0,cO s,.agg (yj d),.sl (p.map aJ) q] h fun r h' =>r= .tup []∧∃yl' sp',h' x=some (mo jid {e with s:=s,log:=e.log++ [d],ch:=u6 e.ch p} yl')∧nJ h' yl' (e.log++ [d]) sp'∧Touch (x::sp) h h'∧(∀i∈sp',i∈sp∨h i=none):=by
 obtain⟨a1,a2,a3,a4,a5,a6,a7,es⟩:=cQ e.s;obtain⟨b1,b2,b3,b4,b5,b6,b7,es2⟩:=cQ s;have g:=hx;unfold mo at g;rw[es]at g;simp only[List.cons_append,List.nil_append]at g;rw[show cO s= .agg (jE s)from rfl,es2]
 refine ai.of_wp hU Tryz.func38 rfl adV 31 rfl [] rfl (adz rfl) ?_;refine .one hU hm ?_;simp only[go_sem];intro i1 h1;simp only[go_sem,yj,opC];intro i2 h2;have n2:=aB h2;have n21:=aH h2;have x1:i1≠x:=fun e=>agB
 have x2:i2≠x:=fun e=>agC
 generalize hH:upd (upd h i1 _) i2 _=H;have k1:H i1=some (.obj [.i s.tick,gm s.cases,kE s.reviews,lH s.notices,dZ s.roles,b1,b2,b3,b4,b5,b6,b7,.i s.version] 63):=by rw[←hH,ag _ _ (Ne.symm n21),ah]
 have k2:H i2=some (.obj [.i d.op.kind,.s d.op.subj,.s d.op.case,.s d.op.field,.s d.op.to,.i d.op.val.kind,.i d.op.val.n,.s d.op.val.s,.i d.op.review,.s d.op.text,.s d.op.reason,.b d.op.glass,.i d.version,aN d.mark,.b d.glass,aA d.obls] 68):=by rw[←hH,ah]
 have kx:H x=_:=(by rw[←hH,ag _ _ (Ne.symm x2),ag _ _ (Ne.symm x1)]:H x=h x).trans g
 have hsub:Ab.Sub h H:=aen;clear hH g;simp only[go_sem];refine .one hU hm ?_;simp only[go_sem,kx,k1];generalize hK:upd H x _=K;have kx2:K x=some (.obj [.ptr jid 0,.i s.tick,gm s.cases,kE s.reviews,lH s.notices,dZ s.roles,b1,b2,b3,b4,b5,b6,b7,.i s.version,yl,.v (.int .u64 (e.ch.toNat:Int))] 92):=by rw[←hK,ah]
 have k22:K i2=_:=(by rw[←hK,ag _ _ x2]:K i2=H i2).trans k2
 have hT:Touch [x] H K:=by rw[←hK];exact .upd
 clear hK
 show WP _ _ _ _ _ _
 refine .one hU hm ?_;simp only[go_sem];refine .last (hm2 x (.obj [.ptr jid 0,.i s.tick,gm s.cases,kE s.reviews,lH s.notices,dZ s.roles,b1,b2,b3,b4,b5,b6,b7,.i s.version,yl,.v (.int .u64 (e.ch.toNat:Int))] 92) i2 (.obj [.i d.op.kind,.s d.op.subj,.s d.op.case,.s d.op.field,.s d.op.to,.i d.op.val.kind,.i d.op.val.n,.s d.op.val.s,.i d.op.review,.s d.op.text,.s d.op.reason,.b d.op.glass,.i d.version,aN d.mark,.b d.glass,aA d.obls] 68)) [0,1,2,3,4,5,6,7,8,9] (.hm2 kx2 k22) adN rfl adN rfl ?_;simp only[go_sem,kx2,k22,rN _ _ (Ne.symm x2),rO];have hno:∀i∈sp,i≠x∧i≠i1∧i≠i2:=fun i hi=>by
  obtain⟨n,hn⟩:=hg.has i hi;exact⟨fun e=>(by rw[e,hx]at hn;cases hn),fun e=>adL,fun e=>adL⟩
 have hgK:nJ K yl e.log sp:=(hg.touch (S:=[]) (.of hsub) adR).touch hT adL;refine hgK.app hl fun z G sp' hg4 ht4 hsp' =>?_
 have kx3:=ht4 _ _ adL kx2;have k23:=ht4 _ _ adL k22;have xG:∀i∈sp',i≠x:=fun i hi e2=>by
  obtain⟨n,hn⟩:=hg4.has i hi;rw[e2,kx3]at hn;cases hn
 refine⟨.hm2 kx3 k23,?_⟩;have hrow:=hg4.row;obtain⟨qz,ez⟩:=hrow;subst ez;simp only[go_sem,kx3];refine .vc hU hm ?_;simp only[go_sem,ah];refine(LG e.ch _ p _ (.sl _ _) hp).pthen ?_;simp only[go_sem,ah,cI];have hF:Touch [x] G (upd G x (some (.obj [.ptr jid 0,.i s.tick,gm s.cases,kE s.reviews,lH s.notices,dZ s.roles,b1,b2,b3,b4,b5,b6,b7,.i s.version,(.sl ((e.log++ [d]).map ldA) qz),.v (.int .u64 ((u6 e.ch p).toNat:Int))] 92))):=.upd;refine .same (.refl _) ⟨rfl,_,sp',?_,hg4.touch hF adL,?_,fun i hi=>?_⟩
 ·simp_all [mo,ah]
 ·exact((((Touch.of (S:=[]) hsub).trans hT).trans ht4).trans hF).mono adL
 ·rcases hsp' i hi with h3|h3
  ·grind
  ·right
   have:K i=none:=h3;cases hh:h i with
   |none=>rfl
   |some b=>
    have hxi:i≠x:=xG i hi;have:=hT _ _ adL (hsub _ _ hh);rw[h3]at this;cases this
def ko(h:Heap)(x jid did:Nat)(e:dV)(spl spj:List Nat):Prop:=
 ∃yl,h x=some (mo jid e yl)∧nJ h yl e.log spl∧JAt h 160 jid did e.ps e.down spj
theorem LH(x jid did:Nat)(e:dV)(spl spj:List Nat)(h:Heap)(he:ko h x jid did e spl spj):ai Tryz.prog 27 [.ptr x 0] h fun r h' =>r= .v (.int .u64 (e.ch.toNat:Int))∧h' =h:=by
 obtain⟨yl,hx,hg,hj⟩:=he;obtain⟨a1,a2,a3,a4,a5,a6,a7,es⟩:=cQ e.s;have g:=hx;unfold mo at g;rw[es]at g;refine adJ Tryz.func27 7 [.tmp 2] fun hwf=>?_
 simp only[go_sem,g];exact adT
theorem Dt(x jid did:Nat)(e:dV)(spl spj:List Nat)(h:Heap)(he:ko h x jid did e spl spj)(hl:e.ps.length≤1000000)(hp:∀p∈e.ps,p.length≤1000000):ai Tryz.prog 11 [.ptr x 0] h fun r h' =>∃q,r= .sl (e.ps.map mB) q∧Ab.Sub h h' :=by
 obtain⟨yl,hx,hg,hj⟩:=he;have g:=hx;unfold mo at g;refine adJ Tryz.func11 8 [.tmp 2] fun hwf=>?_
 simp only[go_sem,g];refine(zD jid did e.ps e.down spj h hj hl hp).mono fun r h' ⟨q,e1,hs⟩=>?_
 subst e1;simp only[go_sem];exact .same (.refl _) ⟨q,rfl,hs⟩
theorem OH(x jid did:Nat)(e:dV)(spl spj:List Nat)(o:OpD)(h:Heap)(he:ko h x jid did e spl spj)(hd:e.down=true):ai Tryz.prog 10 [.ptr x 0,opA o] h fun r h' =>r= .agg (mb (Du 9))∧h' =h:=by
 obtain⟨yl,hx,hg,hj⟩:=he;have g:=hx;unfold mo at g;refine adJ Tryz.func10 53 [.cell 4 35] fun hwf=>?_
 simp only[go_sem,opA,opC];intro i1 h1;have x1:i1≠x:=fun e=>adL
 simp only[go_sem];intro i2 h2;have n2:=aB h2;have x2:i2≠x:=fun e=>adL
 generalize hH:upd (upd h i1 _) i2 _=H;have kx:H x=_:=(by rw[←hH,ag _ _ (Ne.symm x2),ag _ _ (Ne.symm x1)]:H x=h x).trans g
 have k2:H i2=some (.obj oh 35):=afG;have hsub:Ab.Sub h H:=aen;unfold oh at k2;simp only[go_sem,kx];refine(xB jid did e.ps e.down spj H (hj.sub hsub)).pthen ?_;rw[hd];simp only[go_sem,k2,ah];refine .mk _ (.refl _) (hsub.put n2 _) ⟨?_,rfl⟩;rfl
theorem pG(s:aq)(r:ig)(d:qv)(e:Int):jW (s,r,d,e)= .tup [cO s,.agg [.i r.err,.v (.complex .f64 (hbit r.mark.1) (hbit r.mark.2)),.b r.glass,.i r.val.kind,.i r.val.n,.s r.val.s,.b r.hidden,.i r.at_],.agg [.i d.op.kind,.s d.op.subj,.s d.op.case,.s d.op.field,.s d.op.to,.i d.op.val.kind,.i d.op.val.n,.s d.op.val.s,.i d.op.review,.s d.op.text,.s d.op.reason,.b d.op.glass,.i d.version,.v (.complex .f64 (hbit d.mark.1) (hbit d.mark.2)),.b d.glass,.sl (d.obls.map bu) .no],.i e]:=rfl
theorem RZ(x jid did:Nat)(e:dV)(spl spj:List Nat)(o:OpD)(h:Heap)(he:ko h x jid did e spl spj)(hd:e.down=false){k:Nat}(hG:jw k e.s)(hk:k≤1000)(h64:mO o)(her:ja h)(hne:(aT e.s o).2.2.2≠0):ai Tryz.prog 10 [.ptr x 0,opA o] h fun r h' =>r= .agg (mb (aT e.s o).2.1)∧h' =h:=by
 have hgd:=fun(G:Heap) (hG' :Ab.Sub h G)=>pE e.s hG hk o h64 G (her.sub hG')
 have he0:=he;obtain⟨yl,hx,hg,hj⟩:=he;obtain⟨a1,a2,a3,a4,a5,a6,a7,es⟩:=cQ e.s;have g:=hx;unfold mo at g;rw[es]at g;simp only[List.cons_append,List.nil_append]at g;refine adJ Tryz.func10 53 [.cell 4 35] fun hwf=>?_
 simp only[go_sem,opA,opC];intro i1 h1;have x1:i1≠x:=fun e=>agB
 simp only[go_sem];intro i2 h2;have n2:=aB h2;have x2:i2≠x:=fun e=>agC
 have n21:=aH h2;generalize hH:upd (upd h i1 _) i2 _=H;have kx:H x=_:=(by rw[←hH,ag _ _ (Ne.symm x2),ag _ _ (Ne.symm x1)]:H x=h x).trans g
 have k2:H i2=some (.obj oh 35):=afG;have k1:H i1=some (.obj (opC o) 39):=ae0;have hsub:Ab.Sub h H:=aen;clear hH g;unfold oh at k2;simp only[go_sem,kx];refine(xB jid did e.ps e.down spj H (hj.sub hsub)).pthen ?_;rw[hd];generalize aT e.s o=gd at hgd hne⊢;obtain⟨S,R,D,E⟩:=gd;simp only at hne⊢;obtain⟨b1,b2,b3,b4,b5,b6,b7,es2⟩:=cQ S;rw[pG,show cO e.s= .agg (jE e.s)from rfl,es,show cO S= .agg (jE S)from rfl,es2]at hgd
 simp only[opA,opC]at hgd;unfold opC at k1;simp only[go_sem];refine .tree _ (.quiet [0,1,2,3,4] 5 (.news [6,7,8,9,10] [11,12,13] (.seq [14,15,16,17]))) (.refl _) adN rfl ?_;simp only[go_sem,kx,k1];refine⟨_,fun G hs=>hgd G (hsub.trans hs),?_⟩
 simp only[go_sem];refine⟨.refl _,adR,?_⟩;intro jd hjd je hje jf hjf;have ned:=aH hje;have kje:=aB hje;have nfe:=aH hjf;have nfd:=aH (aB hjf);have kjf:=aB (aB hjf);simp only[go_sem,ak,ned,ned.symm,nfe,nfe.symm,nfd,nfd.symm];refine⟨adW,adW,adW,?_⟩;have mjd:=hsub.none hjd;have mje:=hsub.none kje;have mjf:=hsub.none kjf;have j2:jd≠i2:=fun e=>ahl
 have j2e:je≠i2:=fun e=>ahm
 have j2f:jf≠i2:=fun e=>ahn
 have dE:(E==0)=false:=beq_eq_false_iff_ne.mpr hne;have dE2:(E !=0)=true:=bne_iff_ne.mpr hne;simp only[go_sem,ak,dE,dE2,ned,ned.symm,nfe,nfe.symm,nfd,nfd.symm,j2,j2.symm,j2e,j2e.symm,j2f,j2f.symm,k2];refine .mk _ (.refl _) ?_ ⟨rfl,rfl⟩
 repeat (first|exact hsub|refine Ab.Sub.put ?_ adX _)
theorem HH{P:Program}{U:TypeId→TI}{n:Nat}{l:List Oper}{ρ:Env}{h:Heap}{K:Exit→Env→Heap→Prop}(hh:∀H2,H2=h→nI P U n l ρ H2 K):nI P U n l ρ h K:=hh h rfl
theorem bS.upd{h:Heap}{id i:Nat}{d:D}{cs:List AV}{t:TypeId}{b:Option Blk}(hd:bS h id d)(hi:h i=some (.obj cs t))(h1:t≠87)(h2:t≠5):bS (Ab.upd h i b) id d:=by
 obtain⟨y,hy,hb⟩:=hd;refine⟨y,?_,?_⟩
 ·grind [ag,Option.some.inj]
 ·rcases hb with hb|⟨j,off,cs2,rfl,a1,a2,a3⟩
  ·exact ahI
  ·refine .oa ?_ a2 a3
   grind [ag,Option.some.inj]
theorem R1(x jid did:Nat)(e:dV)(d:D)(spl spj:List Nat)(o:OpD)(h:Heap)(he:ko h x jid did e spl spj)(hdk:bS h did d)(hdo:d.ok)(hps:e.ps.length≤1000000)(hlg:e.log.length≤1000000)(hd:e.down=false){k:Nat}(hG:jw k e.s)(hk:k≤1000)(h64:mO o)(her:ja h)(hne:(aT e.s o).2.2.2=0)(hcode:(jadd d e.ps false (dY e.ch o)).2≠0):
  ai Tryz.prog 10 [.ptr x 0,opA o] h fun r h' =>r= .agg (mb (doE e d o).2.2)∧∃spl' spj',ko h' x jid did (doE e d o).1 spl' spj'∧bS h' did (doE e d o).2.1∧Touch (x::did::jid::(spl++spj)) h h'∧(∀i∈spl',i∈spl∨h i=none)∧(∀i∈spj',i∈spj∨h i=none):=by
 have hF:=mW (jy hne);have hrl:=uA (h:=e.ch) hF;have hpl:=CH hF;have edo:doE e d o=(let a:=jadd d e.ps false (dY e.ch o);if a.2=0 then({nQ e (aT e.s o) (dY e.ch o)with ps:=a.1.2.1,down:=a.1.2.2},a.1.1,(aT e.s o).2.1)else({e with ps:=a.1.2.1,down:=a.1.2.2},a.1.1,Du (a.2:Int))):=by
  exact ajz
 have hgd:=fun(G:Heap) (hG' :Ab.Sub h G)=>pE e.s hG hk o h64 G (her.sub hG')
 have he0:=he;obtain⟨yl,hx,hg,hj⟩:=he;obtain⟨a1,a2,a3,a4,a5,a6,a7,es⟩:=cQ e.s;have g:=hx;unfold mo at g;rw[es]at g;simp only[List.cons_append,List.nil_append]at g;refine adJ Tryz.func10 53 [.cell 4 35] fun hwf=>?_
 simp -implicitDefEqProofs only[go_sem,opA,opC];intro i1 h1;have x1:i1≠x:=fun e=>agB
 simp -implicitDefEqProofs only[go_sem];intro i2 h2;have n2:=aB h2;have x2:i2≠x:=fun e=>agC
 have n21:=aH h2;generalize hH:upd (upd h i1 _) i2 _=H;have kx:H x=_:=(by rw[←hH,ag _ _ (Ne.symm x2),ag _ _ (Ne.symm x1)]:H x=h x).trans g
 have k2:H i2=some (.obj oh 35):=afG;have k1:H i1=some (.obj (opC o) 39):=ae0;have hsub:Ab.Sub h H:=aen;clear hH g;unfold oh at k2;simp -implicitDefEqProofs only[go_sem,kx];refine(xB jid did e.ps e.down spj H (hj.sub hsub)).pthen ?_;rw[hd];generalize aT e.s o=gd at hgd hne edo⊢;obtain⟨S,R,D,E⟩:=gd;simp only at hne edo⊢;subst hne;obtain⟨b1,b2,b3,b4,b5,b6,b7,es2⟩:=cQ S;rw[pG,show cO e.s= .agg (jE e.s)from rfl,es,show cO S= .agg (jE S)from rfl,es2]at hgd
 simp only[opA,opC]at hgd;unfold opC at k1;simp -implicitDefEqProofs only[go_sem];refine .tree _ (.quiet [0,1,2,3,4] 5 (.news [6,7,8,9,10] [11,12,13] (.seq [14,15,16,17]))) (.refl _) adN rfl ?_;simp -implicitDefEqProofs only[go_sem,kx,k1];refine⟨_,fun G hs=>hgd G (hsub.trans hs),?_⟩
 simp -implicitDefEqProofs only[go_sem];refine⟨.refl _,adR,?_⟩;intro jd hjd je hje jf hjf;have ned:=aH hje;have kje:=aB hje;have nfe:=aH hjf;have nfd:=aH (aB hjf);have kjf:=aB (aB hjf);simp -implicitDefEqProofs only[go_sem,ak,ned,ned.symm,nfe,nfe.symm,nfd,nfd.symm];refine⟨adW,adW,adW,?_⟩;have mjd:=hsub.none hjd;have mje:=hsub.none kje;have mjf:=hsub.none kjf;have j2:jd≠i2:=fun e=>ahl
 have j2e:je≠i2:=fun e=>ahm
 have j2f:jf≠i2:=fun e=>ahn
 refine HH fun H2 w2=>?_
 have xjd:jd≠x:=fun e=>ahp
 have xje:je≠x:=fun e=>ahq
 have xjf:jf≠x:=fun e=>ahr
 have y1:jd≠i1:=fun e=>by rw[e,k1]at hjd;cases hjd
 have y2:je≠i1:=fun e=>by rw[e,k1]at kje;cases kje
 have y3:jf≠i1:=fun e=>by rw[e,k1]at kjf;cases kjf
 have hs2:Ab.Sub h H2:=afE;have fx:H2 x=_:=(by rw[w2];simp only[ak,xjd,xjd.symm,xje,xje.symm,xjf,xjf.symm,ne_eq,not_false_eq_true]:H2 x=H x).trans kx
 have f1:H2 i1=_:=(by rw[w2];simp only[ak,y1,y1.symm,y2,y2.symm,y3,y3.symm,ne_eq,not_false_eq_true]:H2 i1=H i1).trans k1
 have f2:H2 i2=_:=(by rw[w2];simp only[ak,j2,j2.symm,j2e,j2e.symm,j2f,j2f.symm,ne_eq,not_false_eq_true]:H2 i2=H i2).trans k2
 have fd:H2 jd=some (.obj [.i S.tick,gm S.cases,kE S.reviews,lH S.notices,dZ S.roles,b1,b2,b3,b4,b5,b6,b7,.i S.version] 63):=ad5;have fe:H2 je=some (.obj [.i R.err,.v (.complex .f64 (hbit R.mark.1) (hbit R.mark.2)),.b R.glass,.i R.val.kind,.i R.val.n,.s R.val.s,.b R.hidden,.i R.at_] 35):=ad5;have ff:H2 jf=some (.obj (yj D) 68):=aeA;clear w2;refine .quiet adN ?_;simp -implicitDefEqProofs only[go_sem,fx,f1];refine⟨_,GK e.ch o h64 (f_l hF) adK _,?_⟩;simp -implicitDefEqProofs only[go_sem,fx];refine(H7 d hdo did jid e.ps e.down spj H2 _ (dY e.ch o) (hdk.keep hs2.gh) (hj.sub hs2) (.sl _ _) adK hps).mono fun r H3 ⟨er,spj',hd3,hj3,hT3,hs3⟩=>?_
 subst er;have hin:∀q∈did::jid::spj,∃b,h q=some b∧∀cs,b≠ .obj cs 92:=fun q hq=>by
  exact aio
 have out:∀q,h q=none→q∉did::jid::spj:=fun q hq hi=>by
  obtain⟨b,hb,_⟩:=hin q hi;rw[hq]at hb;cases hb
 have outx:x∉did::jid::spj:=fun hi=>by
  exact ajF
 have fx3:=hT3 _ _ outx fx;have f23:=hT3 _ _ (out i2 n2) f2;have fd3:=hT3 _ _ (out jd mjd) fd;have fe3:=hT3 _ _ (out je mje) fe;have ff3:=hT3 _ _ (out jf mjf) ff;rw[hd]at hd3 hj3⊢;generalize jadd d e.ps false (dY e.ch o)=a at hd3 hj3 edo hcode⊢;obtain⟨⟨d2,ps2,dn2⟩,code⟩:=a;simp only at hd3 hj3 edo hcode⊢;cases dc:((code:Int)==0)
 ·have hc:code≠0:=fun e2=>by subst e2;cases dc
  have dc2:((code:Int) !=0)=true:=by rw[bne,dc];rfl
  rw[if_neg hc]at edo;simp -implicitDefEqProofs only[go_sem,dc2,f23,ah];have hsp:∀i∈spl,i∉did::jid::spj:=fun i hi hq=>by
   exact aim
  have hg3:=(hg.touch (S:=[]) (.of hs2) (fun i hi hh=>ae9)).touch hT3 hsp
  have hnl:∀i∈spl,i∉ [i2]:=fun i hi hh=>by
   obtain⟨n,hn⟩:=hg.has i hi;rw[List.mem_singleton.1 hh,n2]at hn;cases hn
  have hF4:∀b,Touch [i2] H3 (upd H3 i2 b):=fun b=> .upd
  have hj3' :=hj3;obtain⟨z,zs,hz1,hz2,_⟩:=hj3';refine .same (.refl _) ⟨by rw[edo];rfl,spl,spj',?_,?_,?_,fun i hi=> .inl hi,fun i hi=>?_⟩
  ·rw[edo]
   refine⟨yl,?_,hg3.touch (hF4 _) hnl,hj3.touch (hF4 _) ?_ ?_⟩
   ·rw[ag _ _ (Ne.symm x2),fx3]
    unfold mo;rw[es];rfl
   ·intro hh
    rw[List.mem_singleton.1 hh,f23]at hz1;cases hz1
   ·intro i hi hh
    obtain⟨n,hn⟩:=hz2.has i hi;rw[List.mem_singleton.1 hh,f23]at hn;cases hn
  ·rw[edo]
   exact hd3.upd f23 adO adO
  ·exact(((Touch.of (S:=[]) hs2).trans hT3).trans (hF4 _)).mono (fun i hi=>by
    simp only[List.nil_append,List.mem_append,List.mem_cons,List.mem_singleton,List.not_mem_nil,or_false]at hi;rcases hi with(h3|h3|h3)|h3
    ·left;simp[h3]
    ·left;simp[h3]
    ·left;simp[h3]
    ·right;rw[h3];exact n2)
  ·rcases hs3 i hi with h3|h3
   ·exact .inl h3
   ·right;exact hs2.none h3
 ·exact absurd (eq_of_beq dc) adK
end Go.Proofs.YtfdgemhnlennbaaGreatDoor
