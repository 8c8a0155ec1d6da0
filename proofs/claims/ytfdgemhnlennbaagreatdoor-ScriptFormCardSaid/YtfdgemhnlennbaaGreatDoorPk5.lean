/- The law ScriptForm: pack 5 of its texts. -/
import Derived.Lib.ItoaLen
import Derived.Test.YtfdgemhnlennbaaGreatDoorPk1
import Derived.Test.YtfdgemhnlennbaaGreatDoorPk2
import Derived.Test.YtfdgemhnlennbaaGreatDoorPk3
import Derived.Test.YtfdgemhnlennbaaGreatDoorPk4
set_option linter.unusedSimpArgs false
set_option linter.unusedVariables false
set_option maxRecDepth 100000
namespace Go.Proofs.YtfdgemhnlennbaaGreatDoor
open Go Go.Ab Go.Bf
def zZ(g:bp)(q:Perm):AV:=.agg [.i g.cat,.s g.name,.sl (g.bag.map aQ) q]
def GRow(ys:List AV)(gs:List bp):Prop:=ys.length=gs.length∧∀j (h1:j<ys.length) (h2:j<gs.length),∃q,ys[j]=zZ gs[j] q
theorem GRow.sized{ys:List AV}{gs:List bp}(h:GRow ys gs):Sized 3 ys:=fun z hz=>by
 obtain⟨i,hi,rfl⟩:=List.mem_iff_getElem.1 hz;obtain⟨q,e⟩:=h.2 i hi (by rw[←h.1];omega)
 rw[e];rfl
theorem GRow.one(g:bp)(q:Perm):GRow [zZ g q] [g]:=⟨rfl,fun j h1 h2=>by
 grind⟩
theorem GRow.app{ys zs:List AV}{gs ks:List bp}(h:GRow ys gs)(k:GRow zs ks):GRow (ys++zs) (gs++ks):=⟨by simp[h.1,k.1],fun j h1 h2=>by
 have hl:=h.1
 by_cases e:j<ys.length
 ·rw[List.getElem_append_left e,List.getElem_append_left ac0];exact h.2 j e ac0
 ·rw[List.getElem_append_right ac0,List.getElem_append_right ac0]
  simp only[acU]at h1 h2;obtain⟨q,e'⟩:=k.2 (j - ys.length) ac0 ac0;exact⟨q,ac1⟩⟩
theorem GRow.weak{ys:List AV}{gs:List bp}(h:GRow ys gs)(q:Perm):Weak (.sl ys q) (bI gs):=by
 refine .deep _ _ q (by simp[h.1]) (fun k h1 h2=>?_) fun k h1 h2 j h3 h4=>?_
 ·obtain⟨q',e'⟩:=h.2 k h1 ac1
  rw[e',acR];rfl
 ·obtain⟨q',e'⟩:=h.2 k h1 ac1
  simp only[e',acR];simp only[e',zZ,AV.cells]at h3;rcases j with _|_|_|j
  ·exact ael
  ·exact ael
  ·exact afH
  ·simp at h3;omega
theorem GRow.givs(gs:List bp):GRow (gs.map ld) gs:=⟨ac7,fun j h1 h2=>⟨.no,adi⟩⟩
theorem cr:(U 182).sz=3:=adg
theorem fL(g:bp)(q:Perm):Sized 3 [zZ g q]:=fun z hz=>afW
def sE(c:aL)(subj:Txt):List bp:=[⟨3,idT,[idV c.id]⟩,⟨3,[111,119,110,101,114],[idV c.owner]⟩,⟨3,[115,116,97,116,101],[idV c.state]⟩,⟨3,[101,118,101,110,116,115],[⟨2,c.log.length,[]⟩]⟩,⟨3,[116,111,111,107],[uw c.log subj]⟩]
def sH(c:aL):List bp:=match c.log.getLast? with
 |some x=>[⟨3,[108,97,115,116],[idV x.actor]⟩]
 |none=>[]
def fN(l:List dj):List bp:=(l.filter fun f=>decide (f.name.length≤14)).map fun f=>⟨3,[102,95]++f.name,[f.val]⟩
theorem l9(l:List dj)(i:Nat)(h:i<l.length):fN (l.take (i+1))=fN (l.take i)++(if l[i].name.length≤14 then [⟨3,[102,95]++l[i].name,[l[i].val]⟩]else []):=by
 grind [fN,List.take_succ_eq_append_getElem]
theorem qn(c:aL)(subj:Txt):cD c subj=sE c subj++sH c++fN c.fields:=rfl
theorem Fh{h:Heap}(c:aL)(subj:Txt)(hl:c.log.length≤1000000)(hlf:c.fields.length≤1000000):ai Tryz.prog 108 [cq c,.s subj] h fun r h' =>r=bI (cD c subj)∧h' =h:=by
 refine acZ Tryz.func108 77 [.tmp 4] fun hwf=>?_
 simp only[go_sem,cq,nw,gw,sI];intro i1 h1;simp only[go_sem];refine .quiet ac3 ?_;simp only[go_sem];refine⟨_,rX _ _,?_⟩;simp only[go_sem,aQ,idV];refine⟨_,dO _ _ _ _ _,?_⟩;simp only[go_sem];refine⟨_,rX _ _,?_⟩;simp only[go_sem,aQ,idV];refine⟨_,dO _ _ _ _ _,?_⟩;simp only[go_sem];refine⟨_,rX _ _,?_⟩;simp only[go_sem,aQ,idV];refine⟨_,dO _ _ _ _ _,?_⟩;simp only[go_sem];refine⟨_,dO _ _ _ _ _,?_⟩;simp only[go_sem];refine⟨_,Pr (show RdC _ (.agg [.s c.id,.s c.owner,.s c.state,.sl (c.fields.map bM) .no,.sl (c.log.map iJ) .no]) c from rdC _ c) subj ac0,?_⟩
 simp only[go_sem,aQ];refine⟨_,dO _ _ _ _ _,?_⟩;simp only[go_sem,acQ];have hs1:∀b,Ab.Sub h (upd h i1 b):=fun b=>(Sub.refl h).put h1 b
 have hrow5:GRow [.agg [.i 3,.s [105,100],.sl [.agg [.i 5,.i 0,.s c.id]] .full],.agg [.i 3,.s [111,119,110,101,114],.sl [.agg [.i 5,.i 0,.s c.owner]] .full],.agg [.i 3,.s [115,116,97,116,101],.sl [.agg [.i 5,.i 0,.s c.state]] .full],.agg [.i 3,.s [101,118,101,110,116,115],.sl [.agg [.i 2,.i c.log.length,.s []]] .full],.agg [.i 3,.s [116,111,111,107],.sl [aQ (uw c.log subj)] .full]] (sE c subj):=(GRow.one ⟨3,idT,[idV c.id]⟩ .full).app ((GRow.one ⟨3,[111,119,110,101,114],[idV c.owner]⟩ .full).app ((GRow.one ⟨3,[115,116,97,116,101],[idV c.state]⟩ .full).app ((GRow.one ⟨3,[101,118,101,110,116,115],[⟨2,c.log.length,[]⟩]⟩ .full).app (GRow.one ⟨3,[116,111,111,107],[uw c.log subj]⟩ .full))));simp only[aQ]at hrow5;cases d1:decide ((0:Int)<(c.log.length:Int))
 ·have hl0:c.log= []:=List.length_eq_zero_iff.1 ac1
  simp only[go_sem];simp only[go_sem,acQ];refine .intro (fun m ρ H=>∃(i:Nat) (y:AV) (ys:List AV),Acc U 182 h H y ys∧H i1=some (.obj [.s c.id,.s c.owner,.s c.state,.sl (c.fields.map bM) .no,.sl (c.log.map iJ) .no] 122)∧GRow ys (sE c subj++fN (c.fields.take i))∧i≤c.fields.length∧m=c.fields.length - i∧lk ρ 5=some y∧lk ρ 2=some (.ptr i1 0)∧lk ρ 55=some (.sl (c.fields.map bM) .no)∧lk ρ 56=some (.i c.fields.length)∧lk ρ 57=some (.i i)) c.fields.length ?_ ?_
  ·refine⟨0,_,_,.full (hs1 _),ah ..,(by have:=hrow5;simpa[fN]using this),ac0,rfl,?_,?_,?_,?_,?_⟩<;>simp only[go_sem]
  ·rintro m ρ H ⟨i,y,ys,hy,g1,hrow,hi,rfl,r5,r2,r55,r56,r57⟩
   simp only[go_sem,r56,r57];refine .intro (fun e=>?_) (fun e=>?_)
   ·have hlt:i<c.fields.length:=acX e
    have w1:IntKind.i64.wrap ((i:Int)+1)=((i+1:Nat):Int):=adf;simp only[go_sem,r55,r57];refine .at i ac1 adi ?_;simp only[go_sem,acR,bM];intro i8 h8;have n81:i1≠i8:=fun e=>ac1
    simp only[go_sem];cases d2:decide ((c.fields[i].name.length:Int)≤14)
    ·exact ahz
    ·simp only[go_sem,r5]
     have h14:c.fields[i].name.length≤14:=ac1;refine⟨by grind [Nat,lim],?_⟩
     refine(dO _ _ _ _ _).pthen ?_;simp only[go_sem];refine(hy.sub (.aj h8)).app (zs:=[zZ ⟨3,[102,95]++c.fields[i].name,[c.fields[i].val]⟩ .full]) ac4 ac4 (fun k hk=>(Rd.sl (fL _ _) .full:Rd _ 3 _ _).src cr hk) (by rw[cr];exact hrow.sized) (by grind [cr,fL]) (by
      have hln:(fN (c.fields.take i)).length≤i:=ae6;simp only[go_sem,hrow.1,List.length_cons,List.length_nil,sE];omega) fun y' H' hy' kp=>?_
     exact ahV
   ·have hge:i=c.fields.length:=by grind
    subst hge;rw[List.take_length]at hrow;obtain⟨q,rfl⟩:=hy.row;simp only[go_sem,r5];exact .mk (bI (cD c subj)) (show Weak (.sl ys q) _ by rw[qn,sH,hl0];simpa using hrow.weak q) hy.1 ⟨rfl,rfl⟩
 ·have hl1:0<c.log.length:=by grind
  simp only[go_sem];have w0:IntKind.i64.wrap ((c.log.length:Int) - 1)=((c.log.length - 1:Nat):Int):=adf;simp only[go_sem,w0];refine .at (c.log.length - 1) ac1 adi ?_;simp only[go_sem,acR,iJ];rw[if_neg (fun hh=>hh.1)]
  refine(rX _ _).pthen ?_;simp only[go_sem,aQ,idV];refine(dO _ _ _ _ _).pthen ?_;simp only[go_sem];have hgl:c.log.getLast? =some c.log[c.log.length - 1]:=ac1;have hlast:GRow [.agg [.i 3,.s [108,97,115,116],.sl [.agg [.i 5,.i 0,.s c.log[c.log.length - 1].actor]] .full]] (sH c):=by
   unfold sH;rw[hgl];exact GRow.one ⟨3,[108,97,115,116],[idV c.log[c.log.length - 1].actor]⟩ .full
  refine .accs (hs1 _) fun y0 H0 hy0 kp0=>?_
  simp only[go_sem,kp0 _ _ _ (ah ..),acQ];refine .intro (fun m ρ H=>∃(i:Nat) (y:AV) (ys:List AV),Acc U 182 h H y ys∧H i1=some (.obj [.s c.id,.s c.owner,.s c.state,.sl (c.fields.map bM) .no,.sl (c.log.map iJ) .no] 122)∧GRow ys ((sE c subj++sH c)++fN (c.fields.take i))∧i≤c.fields.length∧m=c.fields.length - i∧lk ρ 5=some y∧lk ρ 2=some (.ptr i1 0)∧lk ρ 55=some (.sl (c.fields.map bM) .no)∧lk ρ 56=some (.i c.fields.length)∧lk ρ 57=some (.i i)) c.fields.length ?_ ?_
  ·refine⟨0,_,_,hy0,kp0 _ _ _ (ah ..),(by have:=hrow5.app hlast;simpa[fN]using this),ac0,rfl,?_,?_,?_,?_,?_⟩<;>simp only[go_sem]
  ·rintro m ρ H ⟨i,y,ys,hy,g1,hrow,hi,rfl,r5,r2,r55,r56,r57⟩
   simp only[go_sem,r56,r57];refine .intro (fun e=>?_) (fun e=>?_)
   ·have hlt:i<c.fields.length:=acX e
    have w1:IntKind.i64.wrap ((i:Int)+1)=((i+1:Nat):Int):=adf;simp only[go_sem,r55,r57];refine .at i ac1 adi ?_;simp only[go_sem,acR,bM];intro i8 h8;have n81:i1≠i8:=fun e=>ac1
    simp only[go_sem];cases d2:decide ((c.fields[i].name.length:Int)≤14)
    ·exact ahz
    ·simp only[go_sem,r5]
     have h14:c.fields[i].name.length≤14:=ac1;refine⟨by grind [Nat,lim],?_⟩
     refine(dO _ _ _ _ _).pthen ?_;simp only[go_sem];refine(hy.sub (.aj h8)).app (zs:=[zZ ⟨3,[102,95]++c.fields[i].name,[c.fields[i].val]⟩ .full]) ac4 ac4 (fun k hk=>(Rd.sl (fL _ _) .full:Rd _ 3 _ _).src cr hk) (by rw[cr];exact hrow.sized) (by grind [cr,fL]) (by
      have hln:(fN (c.fields.take i)).length≤i:=ae6;simp only[go_sem,hrow.1,List.length_cons,List.length_nil,sE,sH,hgl];omega) fun y' H' hy' kp=>?_
     exact ahV
   ·have hge:i=c.fields.length:=by grind
    subst hge;rw[List.take_length]at hrow;obtain⟨q,rfl⟩:=hy.row;simp only[go_sem,r5];exact .mk (bI (cD c subj)) (show Weak (.sl ys q) _ by rw[qn];exact hrow.weak q) hy.1 ⟨rfl,rfl⟩
theorem Ez{l:List gZ}{subj:Txt}{i:Nat}(h:i<l.length)(h1:l[i].subj=subj)(h2:(di (l.take i) subj).length<16):di (l.take (i+1)) subj=di (l.take i) subj++ [idV l[i].role]:=by
 unfold di at h2⊢;rw[List.take_succ_eq_append_getElem h,List.filter_append,List.map_append]
 grind [List.length_take,idV,List.take_append,List.take_of_length_le]
theorem zw{l:List gZ}{subj:Txt}{i:Nat}(h:i<l.length)(h1:l[i].subj≠subj∨¬(di (l.take i) subj).length<16):di (l.take (i+1)) subj=di (l.take i) subj:=by
 grind [di,List.take_succ_eq_append_getElem,List.take_append,List.length_take]
theorem Gw(l:List gZ)(subj:Txt):(di l subj).length≤16:=by grind [di,List.length_take]
def cN(s:an)(o:OpD):List bp:=[⟨1,idT,[idV o.subj]⟩,⟨1,[114,111,108,101],di s.roles o.subj⟩,⟨2,[110,97,109,101],[idV (iH o.kind)]⟩]
theorem yp{s:an}(hf:Few s)(id:Txt):(bx s.cases id).log.length≤1000000∧(bx s.cases id).fields.length≤1000000:=by
 cases e:bY s.cases id
 ·rw[C0 e];decide
 ·rw[CZ e];exact⟨hf.log _ ac7,hf.fields _ ac7⟩
theorem CU(c:aL)(subj:Txt):(cD c subj).length≤6+c.fields.length:=by
 grind [qn,acU,sH,fN,acQ,List.length_filter_le,sE]
theorem jC{h G:Heap}{i:Nat}(hs:Ab.Sub h G)(hi:G i=none):h i=none:=hs.none hi
theorem CG:(U 33).sz=3:=adg
theorem Q8{h:Heap}{x:AV}{s:an}(hb:RdS h x s)(o:OpD)(hf:Few s)(hk:i64 o.kind):ai Tryz.prog 53 [x,opA o] h fun r h' =>r=bI (fH s o)∧h' =h:=by
 have hca:=fun(G:Heap) (hG:Ab.Sub h G)=>B1 (hb.sub hG) o.case hf
 obtain⟨y1,y2,y3,y4,rfl,⟨xs,hc,hn,hcs⟩,h2,h3,h4⟩:=hb;cases hpp:s.policy with
 |mk pid pset palg ptgt prules pkids pobls=>
 have hcC:fX (.mk pid pset palg ptgt prules pkids pobls)= [.s pid,.b pset,.i palg,aV ptgt,.sl (prules.map aC) .no,.sl (pkids.map aM) .no,aA pobls]:=af6;rw[hpp,hcC]at hca;simp only[List.cons_append,List.nil_append]at hca;have hfr:=hf.roles;refine acZ Tryz.func53 99 [.tmp 4] fun hwf=>?_
 simp only[go_sem,hcC,opA,opC,List.cons_append,List.nil_append];intro i1 h1;simp only[go_sem];intro i2 h2';have n21:=aH h2';have n2:=aB h2';simp only[go_sem,ak,n21.symm,h4.len,acQ];obtain⟨H,eH⟩:∃H,upd (upd h i1 (some (.obj [.i s.tick,y1,y2,y3,y4,.s pid,.b pset,.i palg,aV ptgt,.sl (prules.map aC) .no,.sl (pkids.map aM) .no,aA pobls,.i s.version] 63))) i2 (some (.obj (opC o) 39))=H:=⟨_,rfl⟩;have hH:Ab.Sub h H:=ad1;have g1:H i1=some (.obj [.i s.tick,y1,y2,y3,y4,.s pid,.b pset,.i palg,aV ptgt,.sl (prules.map aC) .no,.sl (pkids.map aM) .no,aA pobls,.i s.version] 63):=aeC;have g2:H i2=some (.obj (opC o) 39):=aeu;simp only[opC]at eH g2;rw[eH];clear eH;refine .intro (fun m ρ G=>∃(i:Nat) (y:AV),Acc U 33 H G y ((di (s.roles.take i) o.subj).map aQ)∧i≤s.roles.length∧m=s.roles.length - i∧lk ρ 5=some y∧lk ρ 2=some (.ptr i1 0)∧lk ρ 3=some (.ptr i2 0)∧lk ρ 12=some y4∧lk ρ 13=some (.i s.roles.length)∧lk ρ 14=some (.i i)) s.roles.length ?_ ?_
 ·refine⟨0,_,.full (.refl _),ac0,rfl,?_,?_,?_,?_,?_,?_⟩<;>simp only[go_sem,di,List.take_zero,List.filter_nil,List.map_nil]
 ·rintro m ρ G ⟨i,y,hy,hi,rfl,r5,r2,r3,r12,r13,r14⟩
  have k1:=hy.1 _ _ g1;have k2:=hy.1 _ _ g2;simp only[go_sem,r13,r14];refine .intro (fun e=>?_) (fun e=>?_)
  ·have hlt:i<s.roles.length:=acX e
   have w1:=acW i ac0;simp only[go_sem,r12,r14];refine(h4.sub (hH.trans hy.1)).idx (e:=141) i rfl adr Iu ac4 fun p hp1=>?_
   have hld:=hp1.all (U:=U) (ty:=141) ada (by rw[Iu,acR];rfl) adG
   simp only[go_sem,hld,acR,eJ];intro i7 h7;have n71:i1≠i7:=fun e=>by rw[←e,k1]at h7;cases h7
   have n72:i2≠i7:=fun e=>by rw[←e,k2]at h7;cases h7
   simp only[go_sem,ak,n72,k2,r3];have hy7:=hy.sub (.aj h7 (k:=some (.obj [.s s.roles[i].subj,.s s.roles[i].role] 141)));have lr:=Gw (s.roles.take i) o.subj;cases d1:(s.roles[i].subj==o.subj)
   ·have p1:s.roles[i].subj≠o.subj:=by simpa using d1
    simp only[go_sem,r14,w1];refine⟨_,?_,i+1,y,by rw[zw hlt (.inl p1)];exact hy7,ac0,rfl,?_,?_,?_,?_,?_,?_⟩
    ·omega
    all_goals simp only[go_sem,r5,r2,r3,r12,r13]
   ·have p1:s.roles[i].subj=o.subj:=by simpa using d1
    simp only[go_sem,r5,hy.len,acQ];cases d2:decide (((di (s.roles.take i) o.subj).length:Int)<16)
    ·have p2:¬(di (s.roles.take i) o.subj).length<16:=by have:=acT d2;omega
     simp only[go_sem,r14,w1];refine⟨_,?_,i+1,y,by rw[zw hlt (.inr p2)];exact hy7,ac0,rfl,?_,?_,?_,?_,?_,?_⟩
     ·omega
     all_goals simp only[go_sem,r5,r2,r3,r12,r13]
    ·have p2:(di (s.roles.take i) o.subj).length<16:=by have:=acS d2;omega
     simp only[go_sem,r5];refine(rX _ _).pthen ?_;simp only[go_sem,aQ,idV];refine hy7.app (zs:=[aQ (idV s.roles[i].role)]) (by rw[CG];decide) ac5 (fun k hk=>(Rd.sl (fun z hz=>afW) .full:Rd _ 3 _ _).src CG hk) (by rw[CG];exact bw (f:=aQ) (fun _=>rfl) _) (by rw[CG];exact bw (f:=aQ) (fun _=>rfl) [idV s.roles[i].role]) aeg fun y' H' hy' kp=>?_
     simp only[go_sem,r14,w1];refine⟨_,?_,i+1,y',by rw[Ez hlt p1 p2,List.map_append];exact hy',ac0,rfl,?_,?_,?_,?_,?_,?_⟩
     ·omega
     all_goals simp only[go_sem,r2,r3,r12,r13]
  ·have hge:i=s.roles.length:=by have:=acT e;omega
   subst hge;rw[List.take_length]at hy;simp only[go_sem];obtain⟨q5,rfl⟩:=hy.row;refine .quiet ac3 ?_;simp only[go_sem,k2,r3];refine⟨_,rX _ _,?_⟩;simp only[go_sem,aQ,idV];refine⟨_,dO _ _ _ _ _,?_⟩;simp only[go_sem,r5];refine⟨_,dO _ _ _ _ _,?_⟩;simp only[go_sem,k2,r3];refine⟨_,uH _ hk _,?_⟩;simp only[go_sem];refine⟨_,rX _ _,?_⟩;simp only[go_sem,aQ,idV];refine⟨_,dO _ _ _ _ _,?_⟩;simp only[go_sem,k2,r3];have hak:=fun(G:Heap)=>Fh (h:=G) (bx s.cases o.case) o.subj (yp hf o.case).1 (yp hf o.case).2
   simp only[cq,nw,gw,sI]at hak;have hakl:=CU (bx s.cases o.case) o.subj;have hakf:=(yp hf o.case).2;have hr0:GRow [.agg [.i 1,.s [105,100],.sl [.agg [.i 5,.i 0,.s o.subj]] .full],.agg [.i 1,.s [114,111,108,101],.sl ((di s.roles o.subj).map aQ) q5],.agg [.i 2,.s [110,97,109,101],.sl [.agg [.i 5,.i 0,.s (iH o.kind)]] .full]] (cN s o):=(GRow.one ⟨1,idT,[idV o.subj]⟩ .full).app ((GRow.one ⟨1,[114,111,108,101],di s.roles o.subj⟩ q5).app (GRow.one ⟨2,[110,97,109,101],[idV (iH o.kind)]⟩ .full))
   by_cases pf:o.field= []
   ·have df:(o.field==([]:Txt))=true:=by simp[pf]
    simp only[go_sem,k2,r3,df]
    by_cases pt:o.to= []
    ·have dt:(o.to==([]:Txt))=true:=by simp[pt]
     simp only[go_sem,k1,r2,dt];refine(dO _ _ _ _ _).pthen ?_;simp only[go_sem];refine .accs hy.1 fun y1 G1 hy1 kp1=>?_
     have k1_1:=kp1 _ _ _ k1;have k2_1:=kp1 _ _ _ k2;have hr1:=hr0.app (GRow.one (⟨4,[110,111,119],[⟨4,s.tick,[]⟩]⟩:bp) .full);simp only[go_sem,k1_1,k2_1,r2,r3];refine(hca _ (hH.trans hy1.1)).pthen ?_;simp only[go_sem,cq,nw,gw,sI];intro i20 h20;have n21:i1≠i20:=fun e=>by rw[←e,k1_1]at h20;cases h20
     have n22:i2≠i20:=fun e=>by rw[←e,k2_1]at h20;cases h20
     simp only[go_sem];obtain⟨q2,eq2⟩:=hy1.row;cases dth:bY s.cases o.case
     ·simp only[go_sem]
      exact .mk (bI (fH s o)) (show Weak y1 _ by rw[eq2,show fH s o=(cN s o++ [(⟨4,[110,111,119],[⟨4,s.tick,[]⟩]⟩:bp)]) by simp[fH,cN,dth,pf,pt]];exact hr1.weak q2) ((hH.trans hy1.1).put (jC (hH.trans hy1.1) h20) _) ⟨rfl,rfl⟩
     ·simp only[go_sem,ak,n22,k2_1,r3]
      by_cases p6:o.kind=6
      ·have d6:(o.kind !=6)=false:=by simp[p6]
       simp only[go_sem,d6];exact .mk (bI (fH s o)) (show Weak y1 _ by rw[eq2,show fH s o=(cN s o++ [(⟨4,[110,111,119],[⟨4,s.tick,[]⟩]⟩:bp)]) by simp[fH,cN,dth,p6,pf,pt]];exact hr1.weak q2) ((hH.trans hy1.1).put (jC (hH.trans hy1.1) h20) _) ⟨rfl,rfl⟩
      ·have d6:(o.kind !=6)=true:=by simp[p6]
       simp only[go_sem,ak,n22,k2_1,r3,d6];refine(hak _).pthen ?_;simp only[go_sem,bI];refine(hy1.sub (.aj h20)).app (zs:=(cD (bx s.cases o.case) o.subj).map ld) afk ac5 (fun k hk=>(eS ld 3 (fun _=>rfl) _ _).src cr hk) (by rw[cr];exact hr1.sized) aeF adV fun yz Gz hyz kpz=>?_
       simp only[go_sem];obtain⟨qz,eqz⟩:=hyz.row;exact .mk (bI (fH s o)) (show Weak yz _ by rw[eqz,show fH s o=(cN s o++ [(⟨4,[110,111,119],[⟨4,s.tick,[]⟩]⟩:bp)])++cD (bx s.cases o.case) o.subj by simp[fH,cN,dth,p6,pf,pt]];exact(hr1.app (GRow.givs _)).weak qz) (hH.trans hyz.1) ⟨rfl,rfl⟩
    ·have dt:(o.to==([]:Txt))=false:=by simp[pt]
     simp only[go_sem,k2,r3,dt];refine(rX _ _).pthen ?_;simp only[go_sem,aQ,idV];refine(dO _ _ _ _ _).pthen ?_;simp only[go_sem];refine .accs hy.1 fun y3 G3 hy3 kp3=>?_
     have k1_3:=kp3 _ _ _ k1;have k2_3:=kp3 _ _ _ k2;have hr3:=hr0.app (GRow.one (⟨2,[116,111],[idV o.to]⟩:bp) .full);simp only[go_sem,k1_3,r2];refine(dO _ _ _ _ _).pthen ?_;simp only[go_sem];refine hy3.app (zs:=[zZ (⟨4,[110,111,119],[⟨4,s.tick,[]⟩]⟩) .full]) afk ac5 (fun k hk=>(Rd.sl (fL _ _) .full:Rd _ 3 _ _).src cr hk) (by rw[cr];exact hr3.sized) agw ad3 fun y4 G4 hy4 kp4=>?_
     have k1_4:=kp4 _ _ _ k1_3;have k2_4:=kp4 _ _ _ k2_3;have hr4:=hr3.app (GRow.one (⟨4,[110,111,119],[⟨4,s.tick,[]⟩]⟩:bp) .full);simp only[go_sem,k1_4,k2_4,r2,r3];refine(hca _ (hH.trans hy4.1)).pthen ?_;simp only[go_sem,cq,nw,gw,sI];intro i50 h50;have n51:i1≠i50:=fun e=>by rw[←e,k1_4]at h50;cases h50
     have n52:i2≠i50:=fun e=>by rw[←e,k2_4]at h50;cases h50
     simp only[go_sem];obtain⟨q5,eq5⟩:=hy4.row;cases dth:bY s.cases o.case
     ·simp only[go_sem]
      exact .mk (bI (fH s o)) (show Weak y4 _ by rw[eq5,show fH s o=((cN s o++ [(⟨2,[116,111],[idV o.to]⟩:bp)])++ [(⟨4,[110,111,119],[⟨4,s.tick,[]⟩]⟩:bp)]) by simp[fH,cN,dth,pf,pt]];exact hr4.weak q5) ((hH.trans hy4.1).put (jC (hH.trans hy4.1) h50) _) ⟨rfl,rfl⟩
     ·simp only[go_sem,ak,n52,k2_4,r3]
      by_cases p6:o.kind=6
      ·have d6:(o.kind !=6)=false:=by simp[p6]
       simp only[go_sem,d6];exact .mk (bI (fH s o)) (show Weak y4 _ by rw[eq5,show fH s o=((cN s o++ [(⟨2,[116,111],[idV o.to]⟩:bp)])++ [(⟨4,[110,111,119],[⟨4,s.tick,[]⟩]⟩:bp)]) by simp[fH,cN,dth,p6,pf,pt]];exact hr4.weak q5) ((hH.trans hy4.1).put (jC (hH.trans hy4.1) h50) _) ⟨rfl,rfl⟩
      ·have d6:(o.kind !=6)=true:=by simp[p6]
       simp only[go_sem,ak,n52,k2_4,r3,d6];refine(hak _).pthen ?_;simp only[go_sem,bI];refine(hy4.sub (.aj h50)).app (zs:=(cD (bx s.cases o.case) o.subj).map ld) afk ac5 (fun k hk=>(eS ld 3 (fun _=>rfl) _ _).src cr hk) (by rw[cr];exact hr4.sized) aeF adV fun yz Gz hyz kpz=>?_
       simp only[go_sem];obtain⟨qz,eqz⟩:=hyz.row;exact .mk (bI (fH s o)) (show Weak yz _ by rw[eqz,show fH s o=((cN s o++ [(⟨2,[116,111],[idV o.to]⟩:bp)])++ [(⟨4,[110,111,119],[⟨4,s.tick,[]⟩]⟩:bp)])++cD (bx s.cases o.case) o.subj by simp[fH,cN,dth,p6,pf,pt]];exact(hr4.app (GRow.givs _)).weak qz) (hH.trans hyz.1) ⟨rfl,rfl⟩
   ·have df:(o.field==([]:Txt))=false:=by simp[pf]
    simp only[go_sem,k2,r3,df];refine(rX _ _).pthen ?_;simp only[go_sem,aQ,idV];refine(dO _ _ _ _ _).pthen ?_;simp only[go_sem];refine .accs hy.1 fun y6 G6 hy6 kp6=>?_
    have k1_6:=kp6 _ _ _ k1;have k2_6:=kp6 _ _ _ k2;have hr6:=hr0.app (GRow.one (⟨2,[102,105,101,108,100],[idV o.field]⟩:bp) .full);simp only[go_sem,k2_6,r3]
    by_cases pt:o.to= []
    ·have dt:(o.to==([]:Txt))=true:=by simp[pt]
     simp only[go_sem,k1_6,r2,dt];refine(dO _ _ _ _ _).pthen ?_;simp only[go_sem];refine hy6.app (zs:=[zZ (⟨4,[110,111,119],[⟨4,s.tick,[]⟩]⟩) .full]) afk ac5 (fun k hk=>(Rd.sl (fL _ _) .full:Rd _ 3 _ _).src cr hk) (by rw[cr];exact hr6.sized) agw ad3 fun y7 G7 hy7 kp7=>?_
     have k1_7:=kp7 _ _ _ k1_6;have k2_7:=kp7 _ _ _ k2_6;have hr7:=hr6.app (GRow.one (⟨4,[110,111,119],[⟨4,s.tick,[]⟩]⟩:bp) .full);simp only[go_sem,k1_7,k2_7,r2,r3];refine(hca _ (hH.trans hy7.1)).pthen ?_;simp only[go_sem,cq,nw,gw,sI];intro i80 h80;have n81:i1≠i80:=fun e=>by rw[←e,k1_7]at h80;cases h80
     have n82:i2≠i80:=fun e=>by rw[←e,k2_7]at h80;cases h80
     simp only[go_sem];obtain⟨q8,eq8⟩:=hy7.row;cases dth:bY s.cases o.case
     ·simp only[go_sem]
      exact .mk (bI (fH s o)) (show Weak y7 _ by rw[eq8,show fH s o=((cN s o++ [(⟨2,[102,105,101,108,100],[idV o.field]⟩:bp)])++ [(⟨4,[110,111,119],[⟨4,s.tick,[]⟩]⟩:bp)]) by simp[fH,cN,dth,pf,pt]];exact hr7.weak q8) ((hH.trans hy7.1).put (jC (hH.trans hy7.1) h80) _) ⟨rfl,rfl⟩
     ·simp only[go_sem,ak,n82,k2_7,r3]
      by_cases p6:o.kind=6
      ·have d6:(o.kind !=6)=false:=by simp[p6]
       simp only[go_sem,d6];exact .mk (bI (fH s o)) (show Weak y7 _ by rw[eq8,show fH s o=((cN s o++ [(⟨2,[102,105,101,108,100],[idV o.field]⟩:bp)])++ [(⟨4,[110,111,119],[⟨4,s.tick,[]⟩]⟩:bp)]) by simp[fH,cN,dth,p6,pf,pt]];exact hr7.weak q8) ((hH.trans hy7.1).put (jC (hH.trans hy7.1) h80) _) ⟨rfl,rfl⟩
      ·have d6:(o.kind !=6)=true:=by simp[p6]
       simp only[go_sem,ak,n82,k2_7,r3,d6];refine(hak _).pthen ?_;simp only[go_sem,bI];refine(hy7.sub (.aj h80)).app (zs:=(cD (bx s.cases o.case) o.subj).map ld) afk ac5 (fun k hk=>(eS ld 3 (fun _=>rfl) _ _).src cr hk) (by rw[cr];exact hr7.sized) aeF adV fun yz Gz hyz kpz=>?_
       simp only[go_sem];obtain⟨qz,eqz⟩:=hyz.row;exact .mk (bI (fH s o)) (show Weak yz _ by rw[eqz,show fH s o=((cN s o++ [(⟨2,[102,105,101,108,100],[idV o.field]⟩:bp)])++ [(⟨4,[110,111,119],[⟨4,s.tick,[]⟩]⟩:bp)])++cD (bx s.cases o.case) o.subj by simp[fH,cN,dth,p6,pf,pt]];exact(hr7.app (GRow.givs _)).weak qz) (hH.trans hyz.1) ⟨rfl,rfl⟩
    ·have dt:(o.to==([]:Txt))=false:=by simp[pt]
     simp only[go_sem,k2_6,r3,dt];refine(rX _ _).pthen ?_;simp only[go_sem,aQ,idV];refine(dO _ _ _ _ _).pthen ?_;simp only[go_sem];refine hy6.app (zs:=[zZ (⟨2,[116,111],[idV o.to]⟩) .full]) afk ac5 (fun k hk=>(Rd.sl (fL _ _) .full:Rd _ 3 _ _).src cr hk) (by rw[cr];exact hr6.sized) agw ad3 fun y9 G9 hy9 kp9=>?_
     have k1_9:=kp9 _ _ _ k1_6;have k2_9:=kp9 _ _ _ k2_6;have hr9:=hr6.app (GRow.one (⟨2,[116,111],[idV o.to]⟩:bp) .full);simp only[go_sem,k1_9,r2];refine(dO _ _ _ _ _).pthen ?_;simp only[go_sem];refine hy9.app (zs:=[zZ (⟨4,[110,111,119],[⟨4,s.tick,[]⟩]⟩) .full]) afk ac5 (fun k hk=>(Rd.sl (fL _ _) .full:Rd _ 3 _ _).src cr hk) (by rw[cr];exact hr9.sized) agw ad3 fun y10 G10 hy10 kp10=>?_
     have k1_10:=kp10 _ _ _ k1_9;have k2_10:=kp10 _ _ _ k2_9;have hr10:=hr9.app (GRow.one (⟨4,[110,111,119],[⟨4,s.tick,[]⟩]⟩:bp) .full);simp only[go_sem,k1_10,k2_10,r2,r3];refine(hca _ (hH.trans hy10.1)).pthen ?_;simp only[go_sem,cq,nw,gw,sI];intro i110 h110;have n111:i1≠i110:=fun e=>by rw[←e,k1_10]at h110;cases h110
     have n112:i2≠i110:=fun e=>by rw[←e,k2_10]at h110;cases h110
     simp only[go_sem];obtain⟨q11,eq11⟩:=hy10.row;cases dth:bY s.cases o.case
     ·simp only[go_sem]
      exact .mk (bI (fH s o)) (show Weak y10 _ by rw[eq11,show fH s o=(((cN s o++ [(⟨2,[102,105,101,108,100],[idV o.field]⟩:bp)])++ [(⟨2,[116,111],[idV o.to]⟩:bp)])++ [(⟨4,[110,111,119],[⟨4,s.tick,[]⟩]⟩:bp)]) by simp[fH,cN,dth,pf,pt]];exact hr10.weak q11) ((hH.trans hy10.1).put (jC (hH.trans hy10.1) h110) _) ⟨rfl,rfl⟩
     ·simp only[go_sem,ak,n112,k2_10,r3]
      by_cases p6:o.kind=6
      ·have d6:(o.kind !=6)=false:=by simp[p6]
       simp only[go_sem,d6];exact .mk (bI (fH s o)) (show Weak y10 _ by rw[eq11,show fH s o=(((cN s o++ [(⟨2,[102,105,101,108,100],[idV o.field]⟩:bp)])++ [(⟨2,[116,111],[idV o.to]⟩:bp)])++ [(⟨4,[110,111,119],[⟨4,s.tick,[]⟩]⟩:bp)]) by simp[fH,cN,dth,p6,pf,pt]];exact hr10.weak q11) ((hH.trans hy10.1).put (jC (hH.trans hy10.1) h110) _) ⟨rfl,rfl⟩
      ·have d6:(o.kind !=6)=true:=by simp[p6]
       simp only[go_sem,ak,n112,k2_10,r3,d6];refine(hak _).pthen ?_;simp only[go_sem,bI];refine(hy10.sub (.aj h110)).app (zs:=(cD (bx s.cases o.case) o.subj).map ld) afk ac5 (fun k hk=>(eS ld 3 (fun _=>rfl) _ _).src cr hk) (by rw[cr];exact hr10.sized) aeF adV fun yz Gz hyz kpz=>?_
       simp only[go_sem];obtain⟨qz,eqz⟩:=hyz.row;exact .mk (bI (fH s o)) (show Weak yz _ by rw[eqz,show fH s o=(((cN s o++ [(⟨2,[102,105,101,108,100],[idV o.field]⟩:bp)])++ [(⟨2,[116,111],[idV o.to]⟩:bp)])++ [(⟨4,[110,111,119],[⟨4,s.tick,[]⟩]⟩:bp)])++cD (bx s.cases o.case) o.subj by simp[fH,cN,dth,p6,pf,pt]];exact(hr10.app (GRow.givs _)).weak qz) (hH.trans hyz.1) ⟨rfl,rfl⟩
end Go.Proofs.YtfdgemhnlennbaaGreatDoor
namespace Go.Bf
open Go Go.Ab
def Oh(a b:bO):Bool:=a.attr.cat==b.attr.cat && (a.attr.name==b.attr.name && (a.attr.must==b.attr.must && (a.op==b.op && (a.val.kind==b.val.kind && (a.val.n==b.val.n && a.val.s==b.val.s)))))
def RA(a b:aP):Bool:=a.op==b.op && (a.val.kind==b.val.kind && (a.val.n==b.val.n && (a.val.s==b.val.s && (a.attr.cat==b.attr.cat && (a.attr.name==b.attr.name && a.attr.must==b.attr.must)))))
def Qc(a b:cB):Bool:=a.on==b.on && (a.kind==b.kind && a.arg==b.arg)
def eqL{α:Type}(f:α→α→Bool):List α→List α→Bool
 | [],[]=>true
 |x::a,y::b=>f x y && eqL f a b
 |_,_=>false
theorem any_succ{α:Type}{q:α→Bool}{l:List α}{i:Nat}(h:i<l.length):(l.take (i+1)).any q=((l.take i).any q||q l[i]):=by
 grind [List.take_succ_eq_append_getElem]
end Go.Bf
namespace Go.Bf
def W4:Txt:=[97,110,110]
end Go.Bf
namespace Go.Proofs.YtfdgemhnlennbaaGreatDoor
open Go Go.Ab Go.Bf
def Sp(ev:Value):Heap:=xu [(3,zk),(2,[ev])]
theorem Kj{ev:Value}(hev:ev= .nilIface∨∃te pe,ev= .iface te pe):jj (Sp ev):=⟨ev,hev,1,rfl⟩
end Go.Proofs.YtfdgemhnlennbaaGreatDoor
namespace Go.Bf
open Go Go.Ab
def iQ(cat:Int)(name:Txt)(g:bp):Bool:=g.cat==cat && g.name==name
def getD(l:List bp)(cat:Int)(name:Txt):List br:=match l.find? (iQ cat name)with
 |some g=>g.bag
 |none=>[]
end Go.Bf
namespace Go.Proofs.YtfdgemhnlennbaaGreatDoor
open Go Go.Ab Go.Bf
theorem LO{α:Type}(y:AV)(xs:List AV)(ds:List α)(q:α→Bool)(g:FuncId)(cap:List AV)(h:Heap)(hb:Rd h 3 y xs)(hn:xs.length=ds.length)(hl:xs.length≤1000000000)(hx:∀x∈xs,bA x=true)
  (hp:∀i (h1:i<xs.length) (h2:i<ds.length),ai Tryz.prog g (xs[i]::cap) h fun r h' =>r= .b (q ds[i])∧h' =h):
  ai Tryz.prog 307 [y,.fn g cap] h fun r h' =>r= .i (ixD q ds)∧h' =h:=by
 refine acZ Tryz.func307 19 [.tmp 4] fun hwf=>?_
 simp only[go_sem,hb.len];refine .intro (fun m ρ h' =>h' =h∧∃i:Nat,i≤xs.length∧m=xs.length - i∧(∀j (hj:j<i) (h2:j<ds.length),q ds[j]=false)∧lk ρ 0=some y∧lk ρ 1=some (.fn g cap)∧lk ρ 7=some (.i xs.length)∧lk ρ 8=some (.i i)) xs.length ?_ ?_
 ·refine⟨rfl,0,ac0,rfl,fun j hj=>ac0,?_,?_,?_,?_⟩<;>simp only[go_sem]
 ·rintro m ρ h' ⟨rfl,i,hi,rfl,hc,r0,r1,r7,r8⟩
  simp only[go_sem,r7,r8];refine .intro (fun e=>?_) (fun e=>?_)
  ·have hlt:i<xs.length:=acX e
   have hlt2:i<ds.length:=ac0;have w1:IntKind.i64.wrap ((i:Int)+1)=((i+1:Nat):Int):=adf;simp only[go_sem,r0,r1,r8];refine hb.idx (e:=182) i rfl hlt adg ac4 fun p hp1=>?_
   have hld:=hp1.all (U:=U) (ty:=182) ac4 adW aeQ;simp only[go_sem,hld];refine(show ai Tryz.prog g (xs[i]::cap) _ _ from hp i hlt hlt2).pthen ?_
   cases d1:q ds[i]
   ·simp only[go_sem,r8,w1]
    refine⟨_,?_,rfl,i+1,ac0,rfl,fun j hj h2=>?_,?_,?_,?_,?_⟩
    ·omega
    ·grind
    all_goals simp only[go_sem,r0,r1,r7]
   ·simp only[go_sem]
    exact .same (.refl _) ⟨adK,rfl⟩
  ·have hge:i=xs.length:=by grind
   simp only[go_sem];exact .same (.refl _) ⟨adv,rfl⟩
theorem JZ{h:Heap}(g:bp){k1 k2:Nat}{cat:Int}{name:Txt}(h1:h k1=some (.obj [.i cat] 3))(h2:h k2=some (.obj [.s name] 9)):ai Tryz.prog 308 [ld g,.ptr k1 0,.ptr k2 0] h fun r h' =>r= .b (iQ cat name g)∧h' =h:=by
 refine acZ Tryz.func308 15 [.tmp 4] fun hwf=>?_
 simp only[go_sem,ld];intro i1 hi1;have n1:k1≠i1:=fun e=>ac1
 have n2:k2≠i1:=fun e=>ac1
 simp only[go_sem,ak,n1,h1];cases d1:(g.cat==cat)
 ·simp only[go_sem]
  exact .mk _ (.refl _) (.aj hi1) ⟨by simp only[iQ,d1];rfl,rfl⟩
 ·simp only[go_sem,ak,n2,h2]
  exact .mk _ (.refl _) (.aj hi1) ⟨by simp only[iQ,d1];rfl,rfl⟩
theorem MA(gs:List bp)(cat:Int)(name:Txt)(hl:gs.length≤1000000000)(h:Heap):ai Tryz.prog 279 [bI gs,.i cat,.s name] h fun r h' =>r= .i (ixD (iQ cat name) gs)∧h' =h:=by
 refine acZ Tryz.func279 10 [.tmp 6] fun hwf=>?_
 simp only[go_sem,bI];intro i1 h1;simp only[go_sem];intro i2 h2;have n2:=aB h2;have hs:∀a b,Ab.Sub h (upd (upd h i1 a) i2 b):=fun a b=>((Sub.refl h).put h1 a).put n2 b
 simp only[go_sem];refine(LO _ _ gs (iQ cat name) _ [.ptr i1 0,.ptr i2 0] _ (eS ld 3 (fun _=>rfl) _ gs) ac7 ac1 (oR (fun _=>rfl) _) fun i a b=>by
  rw[acR];exact JZ _ (by grind [ag,ah]) (ah ..)).pthen ?_
 simp only[go_sem];exact aeD
theorem get_at{gs:List bp}{cat:Int}{name:Txt}(h:gs.findIdx (iQ cat name)<gs.length):getD gs cat name=gs[gs.findIdx (iQ cat name)].bag:=by
 unfold getD;rw[show gs.find? (iQ cat name)=some gs[gs.findIdx (iQ cat name)]from List.find?_eq_some_iff_getElem.2 ⟨List.findIdx_getElem (w:=h),_,h,rfl,fun j hj=>ac1⟩]
theorem RF{gs:List bp}{cat:Int}{name:Txt}(h:¬gs.findIdx (iQ cat name)<gs.length):getD gs cat name= []:=by
 grind [getD,iQ,List.findIdx_le_length,List.find?_eq_none,List.findIdx_eq_length]
end Go.Proofs.YtfdgemhnlennbaaGreatDoor
namespace Go.Bf
open Go Go.Ab
def cT:Txt:=[99]
def stC(st:Txt)(log:List xO):aL:=⟨cT,W4,st,[],log⟩
def pN:List Txt:=[jE,xd,AK,gT]
abbrev lt(a b:Txt):Prop:=Op.bytesLess a b=true
theorem lt_irrefl:∀a:Txt,¬lt a a
 | []=>ac4
 |a::x=>by
  have:=lt_irrefl x;simp only[lt,Op.bytesLess,Bool.or_eq_true,Bool.and_eq_true,decide_eq_true_eq,beq_self_eq_true,true_and,not_or];exact⟨UInt8.lt_irrefl a,this⟩
theorem lt_trans:∀ {a b c:Txt},lt a b→lt b c→lt a c
 |_,[],_,h,_=>by simp_all [Txt,lt,Op.bytesLess]
 | [],b::y,c,_,h=>by cases c<;>simp[lt,Op.bytesLess]at h⊢
 |a::x,b::y,[],_,h=>by simp[lt,Op.bytesLess]at h
 |a::x,b::y,c::z,h1,h2=>by
  simp only[lt,Op.bytesLess,Bool.or_eq_true,Bool.and_eq_true,decide_eq_true_eq,beq_iff_eq]at h1 h2⊢;rcases h1 with h1|⟨rfl,h1⟩
  ·grind
  ·rcases h2 with h2|⟨rfl,h2⟩
   ·grind
   ·exact .inr ⟨rfl,lt_trans h1 h2⟩
theorem A5:∀a b:Txt,lt a b∨a=b∨lt b a
 | [],[]=>ac7
 | [],b::y=> .inl rfl
 |a::x,[]=> .inr (.inr rfl)
 |a::x,b::y=>by
  simp only[lt,Op.bytesLess,Bool.or_eq_true,Bool.and_eq_true,decide_eq_true_eq,beq_iff_eq];rcases UInt8.lt_or_lt_of_ne (a:=a) (b:=b)with h
  by_cases e:a=b
  ·subst e
   rcases A5 x y with h|rfl|h
   ·grind
   ·simp
   grind
  grind
def Asc(cs:List aL):Prop:=cs.Pairwise fun a b=>lt a.id b.id
theorem Hu{c:aL}{cs:List aL}{id:Txt}(h:¬lt c.id id):findD (c::cs) id=0:=by
 simp_all [Op.bytesLess,false,findD,List.findIdx_cons,geB]
theorem Hv{c:aL}{cs:List aL}{id:Txt}(h:lt c.id id):findD (c::cs) id=findD cs id+1:=by
 simp_all [Op.bytesLess,true,findD,List.findIdx_cons,geB]
theorem vD:∀ {cs:List aL},Asc cs→∀id,bY cs id=cs.any fun c=>c.id==id
 | [],_,id=>rfl
 |c::cs,h,id=>by
  obtain⟨h1,h2⟩:=List.pairwise_cons.1 h
  by_cases hl:lt c.id id
  ·have hne:(c.id==id)=false:=by
    grind [beq_eq_false_iff_ne,lt_irrefl]
   have e:bY (c::cs) id=bY cs id:=by
    grind [bY,Hv]
   rw[e,vD h2 id,List.any_cons,hne,Bool.false_or]
  ·have e:bY (c::cs) id=(c.id==id):=by
    grind [bY,Hu]
   rw[e,List.any_cons];cases hc:(c.id==id)
   ·have hlt:lt id c.id:=by
     rcases A5 c.id id with h|h|h
     ·grind
     ·grind
     omega
    grind
   ·simp
theorem Hh:∀ {cs:List aL},Asc cs→∀c:aL,(cs.any fun d=>d.id==c.id)=false→Asc (cs.take (findD cs c.id)++ [c]++cs.drop (findD cs c.id))
 | [],_,c,_=>by simp[Asc,findD]
 |d::cs,h,c,hn=>by
  obtain⟨h1,h2⟩:=List.pairwise_cons.1 h;simp only[List.any_cons,Bool.or_eq_false_iff]at hn
  by_cases hl:lt d.id c.id
  ·rw[Hv hl]
   simp only[List.take_succ_cons,List.drop_succ_cons,List.cons_append];refine List.pairwise_cons.2 ⟨fun e he=>?_,Hh h2 c hn.2⟩
   grind
  ·rw[Hu hl]
   have hlt:lt c.id d.id:=by
    rcases A5 d.id c.id with h|h|h
    ·grind
    ·grind
    omega
   refine List.pairwise_cons.2 ⟨fun e he=>?_,h⟩
   rcases List.mem_cons.1 he with rfl|he
   ·omega
   grind [lt_trans]
def E7(fs:List dj):Prop:=fs.Pairwise fun a b=>lt a.name b.name
theorem BI(name:Txt)(v:br):fh [] name v= [⟨name,v⟩]:=rfl
theorem zS{f:dj}{fs:List dj}{name:Txt}{v:br}(h:lt f.name name):fh (f::fs) name v=f::fh fs name v:=by
 have hb:Op.bytesLess f.name name=true:=h;unfold fh;simp only[List.findIdx_cons,geB,hb,Bool.not_true,cond_false,List.getElem?_cons_succ];generalize hi:fs.findIdx (fun f=> !Op.bytesLess f.name name)=i
 cases e:fs[i]? with
 |none=>simp
 |some g=>
  by_cases hg:g.name=name
  ·simp[hg]
  ·simp[hg]
theorem zQ{f:dj}{fs:List dj}{name:Txt}{v:br}(h:f.name=name):fh (f::fs) name v=⟨f.name,v⟩::fs:=by
 subst h;have hb:Op.bytesLess f.name f.name=false:=by
  grind [Op.bytesLess,lt_irrefl]
 unfold fh;simp[List.findIdx_cons,geB,hb]
theorem zR{f:dj}{fs:List dj}{name:Txt}{v:br}(h:lt name f.name):fh (f::fs) name v=⟨name,v⟩::f::fs:=by
 have hb:Op.bytesLess f.name name=false:=by
  grind [Op.bytesLess,lt_irrefl,lt_trans]
 have hne:f.name≠name:=fun e=>by rw[e]at h;exact lt_irrefl _ h
 unfold fh;simp[List.findIdx_cons,geB,hb,hne]
theorem vI:∀ {fs:List dj} {name:Txt} {v:br} {g:dj},g∈fh fs name v→g=⟨name,v⟩∨g∈fs
 | [],name,v,g,h=>by grind [BI,List.mem_singleton]
 |f::fs,name,v,g,h=>by
  rcases A5 f.name name with hl|hl|hl
  ·rw[zS hl]at h
   rcases List.mem_cons.1 h with rfl|h
   ·simp
   ·rcases vI h with h|h
    ·grind
    grind
  ·rw[zQ hl]at h
   grind
  ·rw[zR hl]at h
   grind
theorem BG:∀ {fs:List dj} {name:Txt} {v:br},E7 fs→E7 (fh fs name v)
 | [],name,v,_=>by grind [BI,E7]
 |f::fs,name,v,h=>by
  obtain⟨h1,h2⟩:=List.pairwise_cons.1 h;rcases A5 f.name name with hl|hl|hl
  ·rw[zS hl]
   refine List.pairwise_cons.2 ⟨fun g hg=>?_,BG h2⟩
   rcases vI hg with rfl|hg
   ·omega
   grind
  ·rw[zQ hl]
   exact List.pairwise_cons.2 ⟨h1,h2⟩
  ·rw[zR hl]
   refine List.pairwise_cons.2 ⟨fun g hg=>?_,h⟩
   rcases List.mem_cons.1 hg with rfl|hg
   ·omega
   grind [lt_trans]
theorem BH:∀ {fs:List dj} {name:Txt} {v:br},E7 fs→(fh fs name v).length=if fs.any (fun f=>f.name==name)then fs.length else fs.length+1
 | [],name,v,_=>rfl
 |f::fs,name,v,h=>by
  obtain⟨h1,h2⟩:=List.pairwise_cons.1 h;rcases A5 f.name name with hl|hl|hl
  ·have hne:(f.name==name)=false:=by grind [beq_eq_false_iff_ne,lt_irrefl]
   rw[zS hl,List.length_cons,BH h2,List.any_cons,hne,Bool.false_or];split<;>simp
  ·grind [zQ]
  ·have hne:(f.name==name)=false:=by grind [beq_eq_false_iff_ne,lt_irrefl]
   have hno:(fs.any fun f=>f.name==name)=false:=List.any_eq_false.2 fun g hg he=>by
    have:=lt_trans hl (h1 g hg);rw[beq_iff_eq.1 he]at this;exact lt_irrefl _ this
   rw[zR hl,List.any_cons,hne,hno];simp
theorem FI(f:dj)(fs:List dj)(n:Txt):eP (f::fs) n=if f.name=n then f.val else eP fs n:=by
 grind [eP]
def mkC(who id:Txt):aL:=⟨id,who,jE,[],[⟨0,who,[110,101,119]⟩]⟩
def Xv(cs:List aL)(id:Txt):Bool:=cs.any fun c=>c.id==id
end Go.Bf
namespace Go.Ab
open Go
section
variable {α : Type}
def dget(l:List (List UInt8×α))(k:List UInt8):Option α:=(l.find? fun p=>p.1==k).map (·.2)
def dset(l:List (List UInt8×α))(k:List UInt8)(v:α):List (List UInt8×α):=if(dget l k).isSome then l.map (fun p=>if p.1==k then(p.1,v)else p)else l++ [(k,v)]
end
end Go.Ab
namespace Go.Bf
open Go Go.Ab Go.Proofs.YtfdgemhnlennbaaGreatDoor
structure Own (cs:List aL) (own:List (Txt×Txt)):Prop where
 asc:Asc cs
 len:cs.length=own.length
 small:cs.length≤64
 mem:∀c∈cs,c=mkC c.owner c.id∧dget own c.id=some c.owner
 has:∀id,Xv cs id=(dget own id).isSome
 who:∀id w,dget own id=some w→w≠ []
 keys:∀p∈own,p.1.length≤3
theorem qs:∀ {cs:List aL},Asc cs→∀ {id:Txt},bY cs id=true→bx cs id∈cs∧(bx cs id).id=id:=by
 unfold bx
 grind [bY,List.getElem?_eq_getElem]
end Go.Bf
namespace Go.Proofs.YtfdgemhnlennbaaGreatDoor
open Go Go.Ab Go.Bf
def oe(o:OpD):Prop:=i64 o.kind∧i64 o.val.kind∧i64 o.val.n∧i64 o.review
theorem inH{P:Program}{f:FuncId}{args:List AV}{h:Heap}{Q:AV→Heap→Prop}(hh:∀H2,H2=h→ai P f args H2 Q):ai P f args h Q:=hh h rfl
end Go.Proofs.YtfdgemhnlennbaaGreatDoor
namespace Go.Bf
open Go Go.Ab Go.Proofs.YtfdgemhnlennbaaGreatDoor
def Xw(v:Int):br:=⟨2,v,[]⟩
structure Last (fs:List dj) (last:List (Txt×Int)):Prop where
 asc:E7 fs
 len:fs.length=last.length
 small:fs.length≤16
 kind:∀f∈fs,f.val.kind=2
 get:∀n,eP fs n=((dget last n).map Xw).getD aq
 keys:∀p∈last,p.1.length=2
end Go.Bf
namespace Go.Bf
open Go Go.Ab
def Fine(n:Nat)(st:PS):Prop:=(st.bad=0∨st.bad=5∨st.bad=6)∧0≤st.place∧st.place≤n
def BK(n:Nat)(ts:List qi):Prop:=∀i,0≤(ts.getD i ⟨7,0,0,[]⟩).pos∧(ts.getD i ⟨7,0,0,[]⟩).pos≤n
theorem yt{n:Nat}{st:PS}{e p:Int}(h:Fine n st)(he:e=5∨e=6)(h0:0≤p)(h1:p≤n):Fine n (bG st e p):=by
 unfold bG;split
 ·exact⟨.inr he,h0,h1⟩
 omega
theorem Dm{n:Nat}{a b:PS}(h:Rch a b)(ht:BK n a.ts)(hf:Fine n a):Fine n b:=by
 induction h with
 |refl=>omega
 |wrong e p h1 he hp ih=>
  obtain⟨i,_,rfl⟩:=hp;rw[(rM h1).1];exact yt ih he (ht i).1 (ht i).2
 |next _ _ _ ih=>exact ih
theorem Ih{a b:PS}(h:nR a b):b.ts=a.ts:=by
 induction h with
 |refl=>rfl
 |small _ h1 ih=>grind [rM,trans]
 |rule _ _ _ _ ih=>exact ih
theorem Jb{n:Nat}{a b:PS}(h:nR a b)(ht:BK n a.ts)(hf:Fine n a):Fine n b:=by
 induction h with
 |refl=>omega
 |small h1 h2 ih=>grind [Dm,Ih]
 |rule _ _ _ _ ih=>exact ih
theorem yF{s:Txt}{ts:List qi}(h:qO s= .ok ts):BK s.length ts:=by
 obtain⟨pre,rfl,_,h3,_⟩:=A2 h;intro i
 grind
theorem LA{s:Txt}{ts:List qi}(h:qO s= .ok ts):Fine s.length (qb s (gD 4 ⟨ts,0,0,0,0⟩)):=by
 have h0:Fine s.length ⟨ts,0,0,0,0⟩:=⟨.inl rfl,Int.le_refl _,ac7⟩;have hr:=Cz 4 ⟨ts,0,0,0,0⟩;have h1:=Jb hr (yF h) h0;have ht:BK s.length (gD 4 ⟨ts,0,0,0,0⟩).2.ts:=by rw[Ih hr];exact yF h
 have h2:Fine s.length (if(aJ (gD 4 ⟨ts,0,0,0,0⟩).2).kind=7 then(gD 4 ⟨ts,0,0,0,0⟩).2 else bn (gD 4 ⟨ts,0,0,0,0⟩).2):=by
  grind [Dm,kI]
 unfold qb;generalize (if(aJ (gD 4 ⟨ts,0,0,0,0⟩).2).kind=7 then(gD 4 ⟨ts,0,0,0,0⟩).2 else bn (gD 4 ⟨ts,0,0,0,0⟩).2)=st1 at h2⊢
 split
 ·exact yt h2 (.inl rfl) ac0 (Int.le_refl _)
 ·exact aha
theorem Ee(s:Txt):(aR s).2.1=0∧(aR s).2.2=0∧gy (aR s).1=0∨
  ((aR s).2.1=5∨(aR s).2.1=6)∧0≤(aR s).2.2∧(aR s).2.2≤s.length∧(aR s).1=oP:=by
 unfold aR;cases h:qO s with
 |bad e a=>
  have:=tN h;exact .inr ⟨this.1,this.2.1,this.2.2,rfl⟩
 |ok ts=>
  have hf:=LA h;simp only[zc];split
  ·rename_i hb
   refine .inl ⟨rfl,rfl,?_⟩;simp only;unfold qb at hb;generalize (if(aJ (gD 4 ⟨ts,0,0,0,0⟩).2).kind=7 then(gD 4 ⟨ts,0,0,0,0⟩).2 else bn (gD 4 ⟨ts,0,0,0,0⟩).2)=st1 at hb
   split at hb
   ·simp_all [bG,if_pos,absurd,Int]
   omega
  ·rename_i hb
   exact .inr ⟨hf.1.resolve_left hb,hf.2.1,hf.2.2,rfl⟩
end Go.Bf
namespace Go.Bf
open Go Go.Ab Go.Proofs.YtfdgemhnlennbaaGreatDoor
theorem ri{p:bH}(h:gy p=0):mQ 1 p:=by
 cases hw:kG ⟨[],0⟩ 1 p with
 |bad e=>
  have:=ue 4 1 _ _ e rfl hw;rw[gy,hw]at h;exact(this h).elim
 |ok m=>grind [H7]
theorem Q7{fs:List dj}(h:∀f∈fs,eqV f.val aq=false)(n:Txt):(fs.any fun f=>f.name==n)= !(eqV (eP fs n) aq):=by
 induction fs with
 |nil=>rfl
 |cons f fs ih=>
  rw[FI,List.any_cons]
  grind
structure uB (c:aL):Prop where
 id:bl c.id=true
 owner:bl c.owner=true
 state:c.state∈pN
 asc:E7 c.fields
 nfields:c.fields.length≤16
 field:∀f∈c.fields,bl f.name=true∧bz f.val=true∧eqV f.val aq=false
 log1:1≤c.log.length
 log2:c.log.length≤256
 actor:∀x∈c.log,bl x.actor=true∧i64 x.tick
structure dD (k:Nat) (s:an):Prop where
 tick:0≤s.tick∧s.tick≤1099511627776
 asc:Asc s.cases
 ncases:s.cases.length≤64
 case:∀c∈s.cases,uB c
 nrev:s.reviews.length≤1000
 nnot:s.notices.length≤1000
 roles:s.roles.length≤64
 role:∀r∈s.roles,bl r.subj=true∧bl r.role=true
 pol:gy s.policy=0
 ver:0≤s.version∧s.version≤k
theorem dD.few{k:Nat}{s:an}(h:dD k s):Few s:=by
 have h1:=h.ncases;have h2:=h.nrev;have h3:=h.nnot;have h4:=h.roles;refine⟨ac0,fun c hc=>?_,fun c hc=>?_,ac0,ac0,ac0⟩
 ·have:=(h.case c hc).nfields;omega
 ·have:=(h.case c hc).log2;omega
theorem dD.mQ{k:Nat}{s:an}(h:dD k s):mQ 1 s.policy:=ri h.pol
theorem dD.GO{k:Nat}{s:an}(h:dD k s):i64 s.tick:=by
 have:=h.tick;constructor<;>omega
theorem Kl:dD 0 yZ:=by
 refine⟨ac4,.nil,ac4,fun c h=>adU,ac4,ac4,ac4,fun r h=>adU,adg,ac4⟩
theorem ku{s:Txt}(h:iW s=true)(hn:s≠ []):bl s=true:=by
 simp_all [iW,Bool.or_eq_true,beq_iff_eq]
structure QJ (o:OpD):Prop where
 subj:bl o.subj=true
 kind:1≤o.kind∧o.kind≤8
 case:iW o.case=true
 field:iW o.field=true
 to:iW o.to=true
 val:eqV o.val aq=true∨bz o.val=true
 text:o.text.length≤4096
 ok:okD o=true
theorem tG{o:OpD}(h:cV o=true):QJ o:=by
 simp only[cV,Bool.and_eq_true,decide_eq_true_eq,Bool.or_eq_true,dK]at h;obtain⟨⟨⟨⟨⟨⟨⟨h1,h2⟩,h3⟩,h4⟩,h5⟩,h6⟩,h7⟩,⟨⟨h8,h9⟩,h10⟩,h11⟩:=h;exact⟨h1,⟨h8,h9⟩,h4,h5,h6,h7,h3,h10⟩
theorem yu{a b:Txt}(h:mJ a b=true):b∈pN:=by
 unfold mJ at h;simp only[pN,List.mem_cons,List.not_mem_nil,or_false]
 grind
theorem mem_modify{α:Type}{l:List α}{i:Nat}{f:α→α}{x:α}(h:x∈l.modify i f):x∈l∨∃hi:i<l.length,x=f l[i]:=by
 obtain⟨j,hj,rfl⟩:=List.mem_iff_getElem.1 h
 grind
theorem kD{α β:Type}{l:List α}{i:Nat}{f:α→α}{g:α→β}(h:∀x,g (f x)=g x):(l.modify i f).map g=l.map g:=by
 refine List.ext_getElem ac7 fun j h1 h2=>?_
 grind
theorem BY{cs cs' :List aL}(h:cs'.map (·.id)=cs.map (·.id))(ha:Asc cs):Asc cs' :=by
 unfold Asc at*;have h1:(cs.map (·.id)).Pairwise lt:=ac1
 rw[←h,List.pairwise_map]at h1;exact h1
theorem OP{cs:List aL}{i:Nat}{c d:aL}(h:d∈cs.take i++ [c]++cs.drop i):d=c∨d∈cs:=by
 grind
theorem M5{k:Nat}{s:an}{o:OpD}(hs:dD k s)(hr:bL s o=0):dD (k+1) (doD aR s o):=by
 have hf:cV o=true:=by
  unfold bL at hr
  grind
 have F:=tG hf;have vk:0≤s.version∧s.version≤((k+1:Nat):Int):=⟨hs.ver.1,by have:=hs.ver.2;omega⟩
 unfold bL at hr;rw[hf]at hr;simp only[Bool.true_eq_false,if_false]at hr;have hok:=F.ok;unfold okD at hok;have t64:=hs.GO;unfold doD
 by_cases k1:o.kind=1
 ·simp only[k1,if_true]at hr hok⊢
  have hno:bY s.cases o.case=false:=by
   grind
  rw[hno]at hr;simp only[Bool.false_eq_true,if_false]at hr;have hlt:¬64≤s.cases.length:=fun h=>agW
  have hc:bl o.case=true:=ku F.case ac1;rw[vD hs.asc]at hno;refine {hs with asc:= ?_,ncases:= ?_,case:= ?_,ver:=vk}
  ·exact Hh hs.asc (jo s ⟨o.case,o.subj,jE,[],[]⟩ o.subj [110,101,119]) hno
  ·grind
  ·intro c h
   rcases OP h with rfl|h
   ·exact⟨hc,F.subj,by simp[jo,pN],.nil,ahb,fun f h=>adU,ahb,ahb,fun x h=>by
     simp only[jo,List.nil_append,List.mem_singleton]at h;subst h;exact⟨F.subj,t64⟩⟩
   ·exact hs.case c h
 ·simp only[k1,if_false]at hr hok⊢
  by_cases k3:o.kind=3
  ·have hk:2≤o.kind∧o.kind≤4:=by omega
   simp only[hk,and_self,if_true]at hr;simp only[k3,if_true];have e2:¬(o.kind=2∨o.kind=6):=ac0;simp only[k3,if_true,show¬((3:Int)=2∨(3:Int)=6) by decide,if_false,Bool.and_eq_true,Bool.not_eq_true']at hok
   have hth:bY s.cases o.case=true:=by
    unfold bX at hr
    grind
   unfold bX at hr;rw[hth]at hr;simp only[Bool.true_eq_false,if_false,k3,true_and]at hr;obtain⟨hm,hid⟩:=qs hs.asc hth;have hlt:=jG hth;have hce:bx s.cases o.case=s.cases[findD s.cases o.case]:=by
    simp_all [bx,if_pos]
   rw[hce]at hr hm;generalize hcc:s.cases[findD s.cases o.case]=c at hr hm;have hc:=hs.case c hm;have h16:¬(c.fields.length≥16∧eqV (eP c.fields o.field) aq=true):=fun h=>by simp[h.1,h.2]at hr
   rw[if_neg h16]at hr;have hlg:¬c.log.length≥256:=fun h=>agW
   have hnf:bl o.field=true:=ku F.field ac1;have hvz:eqV o.val aq=false:=hok.2;have hv:bz o.val=true:=F.val.resolve_left ac1;refine {hs with asc:= ?_,ncases:= ?_,case:= ?_,ver:=vk}
   ·exact BY (kD fun x=>rfl) hs.asc
   ·simpa using hs.ncases
   ·intro d hd
    rcases mem_modify hd with hd|⟨hi,rfl⟩
    ·exact hs.case d hd
    ·rw[hcc]
     have hany:=Q7 (fun f hf=>(hc.field f hf).2.2) o.field
     have hlen:=BH (v:=o.val) (name:=o.field) hc.asc;refine⟨hc.id,hc.owner,hc.state,BG hc.asc,?_,?_,ahb,?_,?_⟩
     ·simp only[jo]
      rw[hlen,hany];have:=hc.nfields;cases he:eqV (eP c.fields o.field) aq
      ·simp;omega
      ·rw[he]at h16;simp at h16⊢;omega
     ·intro f hf
      rcases vI hf with rfl|hf
      ·grind
      ·exact hc.field f hf
     ·grind [jo,acU,List.length_singleton]
     ·intro x hx
      exact aip
  ·simp only[k3,if_false]at hok⊢
   by_cases k4:o.kind=4
   ·have hk:2≤o.kind∧o.kind≤4:=by omega
    simp only[hk,and_self,if_true]at hr;simp only[k4,if_true];have hth:bY s.cases o.case=true:=by
     unfold bX at hr
     grind
    unfold bX at hr;rw[hth]at hr;simp only[Bool.true_eq_false,if_false,k4]at hr;obtain⟨hm,hid⟩:=qs hs.asc hth;have hlt:=jG hth;have hce:bx s.cases o.case=s.cases[findD s.cases o.case]:=by
     simp_all [bx,if_pos]
    rw[hce]at hr hm;generalize hcc:s.cases[findD s.cases o.case]=c at hr hm;have hc:=hs.case c hm;simp only[show¬((4:Int)=3) by decide,false_and,if_false,show((4:Int)≠2) by decide,ne_eq,not_false_eq_true,true_and,false_or]at hr
    have hlg:¬c.log.length≥256:=fun h=>agW
    rw[if_neg hlg]at hr;have hfo:mJ c.state o.to=true:=by
     grind
    refine {hs with asc:= ?_,ncases:= ?_,case:= ?_,ver:=vk}
    ·exact BY (kD fun x=>rfl) hs.asc
    ·simpa using hs.ncases
    ·intro d hd
     rcases mem_modify hd with hd|⟨hi,rfl⟩
     ·exact hs.case d hd
     ·rw[hcc]
      refine⟨hc.id,hc.owner,yu hfo,hc.asc,hc.nfields,hc.field,ahb,?_,?_⟩
      ·grind [jo,acU,List.length_singleton]
      ·intro x hx
       exact aip
   ·simp only[k4,if_false]at hok⊢
    by_cases k5:o.kind=5
    ·simp only[k5,if_true]
     refine {hs with nrev:= ?_,ver:=vk}
     simpa using hs.nrev
    ·simp only[k5,if_false]at hok⊢
     by_cases k6:o.kind=6
     ·have hk:¬(2≤o.kind∧o.kind≤4):=by omega
      simp only[k6,if_true]at hr;simp only[k6,if_true];simp only[k6,or_true,if_true,Bool.and_eq_true]at hok;have hc:bl o.case=true:=ku F.case ac1;have hfd:bl o.field=true:=ku F.field ac1;cases hh:yC s.roles ⟨o.case,o.field⟩with
      |true=>simp only[if_true];exact {hs with ver:=vk}
      |false=>
       rw[hh]at hr;have hlt:¬s.roles.length≥64:=fun h=>agW
       simp only[Bool.false_eq_true,if_false];refine {hs with roles:= ?_,role:= ?_,ver:=vk}
       ·grind
       ·intro r h
        rcases List.mem_append.1 h with h|h
        ·exact hs.role r h
        grind
     ·simp only[k6,if_false]
      by_cases k7:o.kind=7
      ·simp only[k7,if_true]
       by_cases hp:(aR o.text).2.1=0
       ·simp only[hp,if_true]
        have hr0:gy (aR o.text).1=0:=by
         grind [Ee,absurd]
        refine {hs with pol:=hr0,ver:= ?_}
        have:=hs.ver;constructor
        ·grind
        grind
       ·simp only[hp,if_false]
        exact {hs with ver:=vk}
      ·simp only[k7,if_false]
       by_cases k8:o.kind=8
       ·simp only[k8,if_true]
        have hk:¬(2≤o.kind∧o.kind≤4):=ac0;simp only[k8,if_true]at hr;have hlt:¬s.tick>1099511627776 - o.review:=fun h=>agW
        simp only[k8,show¬((8:Int)=2∨(8:Int)=6) by decide,if_false,if_true,Bool.and_eq_true,decide_eq_true_eq]at hok
        refine {hs with tick:= ?_,ver:=vk}
        have:=hs.tick;constructor
        ·grind
        grind
       ·simp only[k8,if_false]
        exact {hs with ver:=vk}
theorem pO{k:Nat}{s:an}(o:OpD)(hs:dD k s):dD (k+1) (dS aR s o):=by
 unfold dS
 by_cases h:bL s o=0
 ·simp_all [if_pos,M5]
 ·rw[if_neg h]
  exact {hs with ver:=⟨hs.ver.1,by have:=hs.ver.2;omega⟩}
theorem fD.eq{xs:List AV}{sz:Nat}(j:Nat)(hj:j<xs.length)(hz:xs[j].cells.length=sz)(k:AV→Prop):fD xs (j:Int) sz k=k (.pe xs[j] 0):=propext ⟨fun h=>by
 obtain⟨_,b,hb,_,hk⟩:=h;have:xs[j]? =some xs[j]:=ac7;rw[show((j:Int).toNat)=j by simp,this]at hb
 cases hb;exact hk,fun h=>fD.at j hj hz h⟩
def Aw(l:List br):Prop:=l.length≤16∧∀v∈l,bz v=true∧∀w∈l.head?,v.kind=w.kind
structure PJ (gs:List bp):Prop where
 len:gs.length≤64
 each:∀g∈gs,1≤g.cat∧g.cat≤4∧bl g.name=true∧Aw g.bag
 dist:gs.Pairwise fun a b=>iQ b.cat b.name a=false
def xk(g:bp):Int×Txt:=(g.cat,g.name)
theorem Ln(gs:List bp):(gs.Pairwise fun a b=>iQ b.cat b.name a=false)↔(gs.map xk).Nodup:=by
 simp[List.Nodup,List.pairwise_map,bp,iQ,false,xk]
theorem ji{v:br}(h:bz v=true):Aw [v]:=⟨ac7,fun w hw=>ac1⟩
theorem o8{s:Txt}(h:bl s=true):bz (idV s)=true:=by grind [bz,idV]
theorem IK{l:List gZ}(h:∀r∈l,bl r.role=true)(s:Txt):Aw (di l s):=by
 have hv:∀v∈di l s,bz v=true∧v.kind=5:=fun v hv=>by
  have:=List.mem_of_mem_take hv;obtain⟨r,hr,rfl⟩:=List.mem_map.1 this;exact⟨o8 ac1,rfl⟩
 refine⟨by grind [di,List.length_take],fun v hm=>⟨(hv v hm).1,fun w hw=>?_⟩⟩
 grind
theorem Ld{c:UInt8}{i j:Nat}(h:th c j=true)(hi:i≠0):th c i=true:=by
 simp only[th,Bool.or_eq_true,Bool.and_eq_true,decide_eq_true_eq]at h⊢
 grind
theorem FJ{n:Txt}(h:bl n=true)(hl:n.length≤14):bl ([102,95]++n)=true:=by
 simp only[bl,Bool.and_eq_true,decide_eq_true_eq]at h⊢;obtain⟨⟨h1,h2⟩,h3⟩:=h;refine⟨⟨?_,ac7⟩,ac1⟩;unfold vR at h1⊢;rw[List.all_eq_true]at h1⊢
 rintro⟨c,i⟩ hp
 rw[List.mk_mem_zipIdx_iff_getElem?]at hp
 match i,hp with
 |0,hp=>cases hp;rfl
 |1,hp=>cases hp;rfl
 |i+2,hp=>
  exact Ld (h1 (c,i) (List.mk_mem_zipIdx_iff_getElem?.2 hp)) ac0
theorem GK{s:Txt}(h:s∈pN):bl s=true:=by
 simp only[pN,List.mem_cons,List.not_mem_nil,or_false]at h;rcases h with rfl|rfl|rfl|rfl<;>kernel_rfl
theorem CO(k:Int)(h:1≤k∧k≤8):bl (iH k)=true:=by
 have:(List.range 9).all (fun n=>bl (iH n))=true:=adg
 have h2:=List.all_eq_true.1 this k.toNat ac1
 rwa [show((k.toNat:Nat):Int)=k by omega]at h2
theorem Ng(l:List xO)(s:Txt):bz (uw l s)=true:=by
 unfold uw;cases l.any fun x=>x.actor==s<;>rfl
theorem IQ{c:aL}(hc:uB c)(s:Txt):∀g∈cD c s,g.cat=3∧bl g.name=true∧Aw g.bag:=by
 intro g hg;simp only[cD,List.mem_append,List.mem_cons,List.not_mem_nil,or_false]at hg;rcases hg with((rfl|rfl|rfl|rfl|rfl)|hg)|hg
 ·exact⟨rfl,adg,ji (o8 hc.id)⟩
 ·exact⟨rfl,adg,ji (o8 hc.owner)⟩
 ·exact⟨rfl,adg,ji (o8 (GK hc.state))⟩
 ·exact⟨rfl,adg,ji adg⟩
 ·exact⟨rfl,adg,ji (Ng _ _)⟩
 ·cases hl:c.log.getLast? with
  |none=>grind
  |some x=>
   rw[hl]at hg;rw[List.mem_singleton.1 hg];exact⟨rfl,adg,ji (o8 (hc.actor x (List.mem_of_getLast? hl)).1)⟩
 ·obtain⟨f,hf,rfl⟩:=List.mem_map.1 hg
  obtain⟨hf1,hf2⟩:=List.mem_filter.1 hf;have hf2:f.name.length≤14:=ac1;obtain⟨h1,h2,_⟩:=hc.field f hf1;exact⟨rfl,FJ h1 hf2,ji h2⟩
theorem IP{c:aL}(hc:uB c)(s:Txt):((cD c s).map xk).Nodup:=by
 have hfn:(((c.fields.filter fun f=>decide (f.name.length≤14)).map fun f=>(⟨3,[102,95]++f.name,[f.val]⟩:bp)).map xk).Nodup:=by
  rw[List.map_map,List.Nodup,List.pairwise_map];refine((List.Pairwise.filter _ hc.asc).imp fun {a b} hab he=>?_)
  simp_all [Function.comp,xk,Prod.mk.injEq,true_and,List.append_cancel_left_eq,lt_irrefl]
 have hff:∀x∈((c.fields.filter fun f=>decide (f.name.length≤14)).map fun f=>(⟨3,[102,95]++f.name,[f.val]⟩:bp)).map xk,∃t,x=(3,102::t):=by
  intro x hx;obtain⟨g,hg,rfl⟩:=List.mem_map.1 hx;obtain⟨f,hf,rfl⟩:=List.mem_map.1 hg;exact⟨_,rfl⟩
 unfold cD;rw[List.map_append,List.nodup_append];refine⟨?_,hfn,?_⟩
 ·cases c.log.getLast? with
  |none=>simp[xk,idT]
  |some x=>simp[xk,idT]
 ·intro a ha b hb
  obtain⟨t,rfl⟩:=hff b hb;intro e;cases hl:c.log.getLast? with
  |none=>
   simp_all [xk,idT]
  |some x=>
   simp_all [xk,idT]
theorem IJ{k:Nat}{s:an}{o:OpD}(hs:dD k s)(hf:cV o=true):PJ (fH s o):=by
 have F:=tG hf;have hcs:∀g∈(if bY s.cases o.case=true∧o.kind≠6 then cD (bx s.cases o.case) o.subj else []),g.cat=3∧bl g.name=true∧Aw g.bag:=by
  intro g hg;split at hg
  ·rename_i ht
   exact IQ (hs.case _ (qs hs.asc ht.1).1) _ g hg
  ·cases hg
 have hcd:((if bY s.cases o.case=true∧o.kind≠6 then cD (bx s.cases o.case) o.subj else []).map xk).Nodup:=by
  split
  ·rename_i ht
   exact IP (hs.case _ (qs hs.asc ht.1).1) _
  ·exact .nil
 have hcl:(if bY s.cases o.case=true∧o.kind≠6 then cD (bx s.cases o.case) o.subj else []).length≤22:=by
  split
  ·rename_i ht
   have hc:=hs.case _ (qs hs.asc ht.1).1;have h16:=hc.nfields;have:((bx s.cases o.case).fields.filter fun f=>decide (f.name.length≤14)).length≤(bx s.cases o.case).fields.length:=List.length_filter_le _ _
   simp only[cD,acU,acQ,List.length_cons,List.length_nil];cases (bx s.cases o.case).log.getLast? <;>simp<;>omega
  ·simp
 unfold fH;generalize (if bY s.cases o.case=true∧o.kind≠6 then cD (bx s.cases o.case) o.subj else [])=C at hcs hcd hcl⊢
 have e1:(if o.field= []then []else [(⟨2,[102,105,101,108,100],[idV o.field]⟩:bp)])=if o.field= []then []else [(⟨2,[102,105,101,108,100],[idV o.field]⟩:bp)]:=rfl
 have hro:Aw (di s.roles o.subj):=IK (fun r hr=>(hs.role r hr).2) _
 have htk:bz ⟨4,s.tick,[]⟩=true:=by
  have:=hs.tick;simp[bz,this]
 have hac:=o8 (CO o.kind F.kind);have hsu:=o8 F.subj;refine⟨?_,?_,?_⟩
 ·by_cases p1:o.field= []<;>by_cases p2:o.to= []<;>simp[p1,p2]<;>omega
 ·intro g hg
  simp only[List.mem_append,List.mem_cons,List.not_mem_nil,or_false]at hg;rcases hg with((((rfl|rfl|rfl)|hg)|hg)|rfl)|hg
  ·exact⟨ac7,ac7,ac3,ji hsu⟩
  ·exact⟨ac7,ac7,ac3,hro⟩
  ·exact⟨ac7,ac7,ac3,ji hac⟩
  ·split at hg
   ·cases hg
   ·rename_i hne
    rw[List.mem_singleton.1 hg];exact⟨ac7,ac7,ac3,ji (o8 (ku F.field hne))⟩
  ·split at hg
   ·cases hg
   ·rename_i hne
    rw[List.mem_singleton.1 hg];exact⟨ac7,ac7,ac3,ji (o8 (ku F.to hne))⟩
  ·exact⟨ac7,ac7,ac3,ji htk⟩
  ·obtain⟨h1,h2,h3⟩:=hcs g hg
   exact⟨ac0,ac0,h2,h3⟩
 ·rw[Ln,List.map_append,List.nodup_append]
  refine⟨?_,hcd,?_⟩
  ·by_cases p1:o.field= []<;>by_cases p2:o.to= []<;>simp[p1,p2,xk,idT]
  ·intro a ha b hb e
   subst e;obtain⟨g,hg,rfl⟩:=List.mem_map.1 hb;have h3:=(hcs g hg).1;have hne:∀x∈([⟨1,idT,[idV o.subj]⟩,⟨1,[114,111,108,101],di s.roles o.subj⟩,⟨2,[110,97,109,101],[idV (iH o.kind)]⟩]++(if o.field= []then []else [⟨2,[102,105,101,108,100],[idV o.field]⟩])++(if o.to= []then []else [⟨2,[116,111],[idV o.to]⟩])++ [⟨4,[110,111,119],[⟨4,s.tick,[]⟩]⟩]:List bp),x.cat≠3:=by
    intro x hx;simp only[List.mem_append,List.mem_cons,List.not_mem_nil,or_false]at hx;rcases hx with(((rfl|rfl|rfl)|hx)|hx)|rfl
    ·simp
    ·simp
    ·simp
    ·split at hx
     ·cases hx
     ·rw[List.mem_singleton.1 hx];simp
    ·split at hx
     ·cases hx
     ·rw[List.mem_singleton.1 hx];simp
    ·simp
   obtain⟨x,hx,he⟩:=List.mem_map.1 ha;have:x.cat=g.cat:=congrArg Prod.fst he;exact hne x hx (by rw[this,h3])
def sL:an→List AV
 |⟨tick,cs,rv,nt,ro,.mk pid set alg tgt rules kids obls,ver⟩=>[.i tick,gb cs,kj rv,lu nt,dY ro,.s pid,.b set,.i alg,aV tgt,.sl (rules.map aC) .no,.sl (fG kids) .no,aA obls,.i ver]
theorem vB(s:an):cM s= .agg (sL s):=by
 obtain⟨tick,cs,rv,nt,ro,⟨pid,set,alg,tgt,rules,kids,obls⟩,ver⟩:=s;rfl
structure Stays (cs cs' :List aL) (id:Txt):Prop where
 len:cs'.length≤cs.length+1
 ids:∀c∈cs,∃d∈cs',d.id=c.id
 rest:∀c∈cs,c.id≠id→c∈cs'
abbrev aS:=Nat×Nat
def naM:aS:=(0,0)
def aZ:aS:=(2,0)
def cE:aS:=(0,2)
def wB:aS:=(1,0)
def wA:aS:=(0,1)
def mL:aS:=(1,1)
def vg:List aS:=[naM,aZ,cE,wB,wA,mL]
abbrev jL:=aS×List cB
def gJ(m:aS):aS:=if m=aZ then wB else if m=cE then wA else m
def oD(a b:aS):aS:=(max a.1 b.1,max a.2 b.2)
def EW(m:aS):aS:=(m.2,m.1)
def qU(j:aS):aS:=
 if j.2=2 then cE else if j.2=1∧1≤j.1 then mL else if j.2=1 then wA else if j.1=2 then aZ else if j.1=1 then wB else naM
def xC(l:List aS):aS:=l.foldl oD naM
def firstM(l:List aS):aS:=(l.find? fun m=>decide (m≠naM)).getD naM
def zG(m:aS):Bool:=decide (m=naM∨m=aZ∨m=cE)
def oK:List aS→aS→aS
 | [],j=>j
 |m::r,j=>if zG m=false then mL else oK r (if j=naM then m else if m≠naM then mL else j)
def gU(alg:Int)(l:List aS):aS:=
 if alg=1 then qU (xC l)
 else if alg=2 then EW (qU (EW (xC l)))
 else if alg=3 then firstM l
 else if alg=4 then oK l naM
 else if alg=5 then(if aZ∈l then aZ else cE)
 else if alg=6 then(if cE∈l then cE else aZ)
 else naM
def xX(gs:List bp)(a:qe):List br:=getD gs a.cat a.name
def nH(a b:br):Option Bool:=
 if bz a=false∨bz b=false∨a.kind≠b.kind∨a.kind=1 then none
 else if a.kind=3∨a.kind=5 then some (Op.bytesLess a.s b.s)else some (decide (a.n<b.n))
def cS(m:bO)(v:br):Option Bool:=
 if m.op=1 then(if v.kind=m.val.kind then some (eqV v m.val)else none)
 else if m.op=2 then nH v m.val else nH m.val v
def jT(gs:List bp)(m:bO):Nat:=
 if xX gs m.attr= []∧m.attr.must=true then 1
 else if(xX gs m.attr).any fun v=>cS m v==some true then 2
 else if(xX gs m.attr).any fun v=>cS m v==none then 1 else 0
def CQ(gs:List bp)(l:List bO):Nat:=l.foldl (fun a m=>min a (jT gs m)) 2
def zW(gs:List bp)(l:List (List bO)):Nat:=l.foldl (fun a x=>max a (CQ gs x)) 0
def mP(gs:List bp)(t:ga):Nat:=t.foldl (fun a x=>min a (zW gs x)) 2
structure jy where
 bag:List br
 v:br
 e:Int
def dN(b:Bool):br:=⟨1,if b then 1 else 0,[]⟩
def iX(b:Bool):jy:=⟨[],dN b,0⟩
def isI(x:jy)(n:Int):Bool:=x.e==0 && eqV x.v ⟨1,n,[]⟩
abbrev w64(n:Int):Int:=IntKind.i64.wrap n
def KN(a b:Int):Bool:=decide (0<b) && decide (w64 (9223372036854775807 - b)<a)||decide (b<0) && decide (a<w64 (-9223372036854775808 - b))
def M7(a b:Int):Bool:=decide (0<b) && decide (a<w64 (-9223372036854775808+b))||decide (b<0) && decide (w64 (9223372036854775807+b)<a)
def JP(a b:Int):Bool:=a== -1 && b== -9223372036854775808||b== -1 && a== -9223372036854775808||a !=0 && w64 ((w64 (a*b)).tdiv a) !=b
def nS(e:Int):br×Int:=(aq,e)
def Ad(o:Bool)(n:Int):br×Int:=if o then nS 3 else(⟨2,w64 n,[]⟩,0)
def gS(op:Int)(l:List br):br×Int:=
 if¬(6≤op∧op≤13)∨l.length≠(if op=11 then 1 else 2)∨(l.all bz)=false then nS 1
 else
  let a:=l.getD 0 aq;let b:=l.getD 1 aq
  if op=6 then(if a.kind=b.kind then(dN (eqV a b),0)else nS 2)
  else if op=7 then(match nH a b with
   |some x=>(dN x,0)
   |none=>nS 2)
  else if op=8∨op=9∨op=10 then
   (if l.all fun v=>v.kind==2 then(if op=8 then Ad (KN a.n b.n) (a.n+b.n)else if op=9 then Ad (M7 a.n b.n) (a.n - b.n)else Ad (JP a.n b.n) (a.n*b.n))else nS 2)
  else if(l.all fun v=>v.kind==1)=false then nS 2
  else if op=11 then(dN (a.n==0),0)
  else if op=12 then(dN (a.n==1 && b.n==1),0)
  else(dN (a.n==1||b.n==1),0)
def opsOf(op:Int):Nat:=if op=1∨op=2 then 0 else if op=3∨op=4∨op=11 then 1 else 2
def As(r:br×Int):jy:=⟨[],r.1,r.2⟩
def lq(gs:List bp)(n:aP)(l:List jy):jy:=
 if n.op=1 then⟨[],n.val,0⟩
 else if n.op=2 then(if xX gs n.attr= []∧n.attr.must=true then⟨[],aq,4⟩else⟨xX gs n.attr,aq,0⟩)
 else if(n.op=12∨n.op=13)∧(l.any fun x=>isI x (n.op - 12))=true then iX (n.op==13)
 else match l.find? fun x=>x.e !=0 with
  |some x=>⟨[],aq,x.e⟩
  |none=>
   if n.op=3 then(match (l.headD ⟨[],aq,0⟩).bag with
    | [v]=>⟨[],v,0⟩
    |_=>⟨[],aq,4⟩)
   else if n.op=4 then⟨[],⟨2,(l.headD ⟨[],aq,0⟩).bag.length,[]⟩,0⟩
   else if n.op=5 then iX ((l.headD ⟨[],aq,0⟩).bag.any fun v=>eqV v (l.getD 1 ⟨[],aq,0⟩).v)
   else As (gS n.op (l.map (·.v)))
def zF(gs:List bp)(st:List jy)(n:aP):List jy:=st.take (st.length - opsOf n.op)++ [lq gs n (st.drop (st.length - opsOf n.op))]
def wC(gs:List bp)(l:List aP):jy:=if l= []then As (nS 1)else(l.foldl (zF gs) []).headD (As (nS 1))
def qv(gs:List bp)(l:List aP):Nat:=if l.isEmpty then 2 else if isI (wC gs l) 1 then 2 else if isI (wC gs l) 0 then 0 else 1
def eO(l:List cB)(m:aS):List cB:=l.filter fun o=>o.on==1 && m==aZ||o.on==2 && m==cE
def ny(r:cQ)(t c:Nat):jL:=
 let m:=if r.deny then cE else aZ
 if t=0∨t=2∧c=0 then(naM,[])else if t=1∨c=1 then(gJ m,[])else(m,eO r.obls m)
def ic(gs:List bp)(r:cQ):jL:=ny r (mP gs r.tgt) (qv gs r.cond)
def eR(alg:Int)(m:aS)(parts:List jL):List cB:=
 if alg=3 then((parts.find? fun x=>x.1==m).map (·.2)).getD []else((parts.filter fun x=>x.1==m).map (·.2)).flatten
def pU(alg:Int)(obls:List cB)(t:Nat)(parts:List jL):jL:=
 let m:=gU alg (parts.map (·.1))
 if t=0 then(naM,[])else if t=1 then(gJ m,[])else if m≠aZ∧m≠cE then(m,[])
 else(m,eR alg m parts++eO obls m)
mutual
def fF(gs:List bp):bH→jL
 |.mk id set alg tgt rules kids obls=>if mP gs tgt=0 then(naM,[])else pU alg obls (mP gs tgt) (rules.map (ic gs)++mH gs kids)
def mH(gs:List bp):List bH→List jL
 | []=>[]
 |k::r=>fF gs k::mH gs r
end
theorem tD(gs:List bp):∀l:List bH,mH gs l=l.map (fF gs)
 | []=>adg
 |k::r=>by simp[mH,tD gs r]
def sO:bH→ga
 |.mk _ _ _ t _ _ _=>t
def oE:ga→Option bO
 | []=>none
 | [l]::r=>match l.find? fun m=>m.op==1 && !m.attr.must with
  |some m=>some m
  |none=>oE r
 |_::r=>oE r
def sJ(gs:List bp)(p:bH):Bool:=match oE (sO p)with
 |none=>true
 |some m=>decide (jT gs m≠0)
mutual
def lB(gs:List bp):bH→bH
 |.mk id set alg tgt rules kids obls=> .mk id set alg tgt rules (kg gs kids) obls
def kg(gs:List bp):List bH→List bH
 | []=>[]
 |k::r=>if sJ gs k then lB gs k::kg gs r else kg gs r
end
end Go.Bf
namespace Go.Ab
open Go
section
variable {U : TypeId → TI} {ρ : Env} {h0 h h' : Heap} {sz id : Nat} {tb : TypeId} {y : AV} {xs : List AV} {e : TypeId} {K : AV → Prop} {x : IntKind} {m : Int}
theorem uW(xs:List AV)(j:Nat):au xs=au (xs.take j)++au (xs.drop j):=agq
theorem OwE.cut(hw:OwE tb h0 h sz y xs){hi:Operand}(j:Nat)(hm:ev ρ hi=some (.v (.int x m)))(hj:m=j)(hl:j≤xs.length)(hz:(U tb).sz=sz)(h1:sz≠0)
  (hk:∀z,OwE tb h0 h sz z (xs.take j)→(z=y∨∃id l l' c,y= .ob id 0 l c sz∧z= .ob id 0 l' c sz)→K z):gM U ρ y none (some hi) none K (.slice tb):=by
 subst hj;subst hz
 rcases hw with⟨rfl,rfl⟩|⟨id,h2,cap,rest,rfl,h3,h4,h5,h6⟩
 ·rw[rm,fK,hm]
  refine⟨h1,?_⟩;have:j=0:=ac1;subst this;refine⟨ac0,ac7,?_⟩;exact hk _ (.inl ⟨rfl,rfl⟩) (.inl rfl)
 ·rw[Bt]
  refine⟨h1,rfl,?_⟩;simp only[mB,fK,hm,dF,nE];refine⟨ac0,ac0,ac0,?_⟩;simp only[Int.toNat_natCast,Nat.zero_mul,Nat.add_zero,Nat.sub_zero,show(((0:Nat):Int)).toNat=0 from rfl]
  have e1:(xs.take j).length=j:=ac1;have hs:Sized (U tb).sz (xs.drop j):=fun z hz=>h6 z (List.mem_of_mem_drop hz)
  refine hk _ (.inr ⟨id,h2,cap,au (xs.drop j)++rest,by rw[e1],by grind [uW,List.append_assoc],?_,ac0,fun z hz=>h6 z (List.mem_of_mem_take hz)⟩) (.inr ⟨id,_,_,cap,rfl,rfl⟩)
  rw[acU,aY hs,h4,List.length_drop,e1,←Nat.add_mul]
  grind
theorem OwE.from(hw:OwE tb h0 h sz y xs){lo:Operand}(j:Nat)(hm:ev ρ lo=some (.v (.int x m)))(hj:m=j)(hl:j≤xs.length)(hz:(U tb).sz=sz)(h1:sz≠0)
  (hk:∀z,Rd h sz z (xs.drop j)→K z):gM U ρ y (some lo) none none K (.slice tb):=by
 subst hj;subst hz
 rcases hw with⟨rfl,rfl⟩|⟨id,h2,cap,rest,rfl,h3,h4,h5,h6⟩
 ·have:j=0:=by grind
  subst this;rw[rq,fK,hm];refine⟨h1,by simp[Sized],?_⟩
  exact⟨ac0,ac7,ac7,hk _ (.sl (by intro z hz;grind [mX]) _)⟩
 ·rw[Bt]
  refine⟨h1,rfl,?_⟩;simp only[mB,fK,hm,dF,nE];refine⟨ac0,ac0,ac0,?_⟩;simp only[Int.toNat_natCast,Nat.zero_add];have e1:(xs.drop j).length=xs.length - j:=ac7;have hs:Sized (U tb).sz (xs.drop j):=fun z hz=>h6 z ac1
  have ht:Sized (U tb).sz (xs.take j):=fun z hz=>h6 z ac1
  have e2:=aY hs;have e3:=aY ht;refine hk _ ⟨hs,.inr ⟨id,j*(U tb).sz,cap - j,_,tb,by rw[e1],h3,?_,?_⟩⟩
  ·grind [uW,acU]
  grind [uW,List.append_assoc,List.drop_left,List.take_left]
end
end Go.Ab
namespace Go.Bf
open Go Go.Ab Go.Proofs.YtfdgemhnlennbaaGreatDoor
def hbit:Nat→Nat
 |0=>0
 |1=>4602678819172646912
 |_=>4607182418800017408
def aN(m:aS):AV:=.v (.complex .f64 (hbit m.1) (hbit m.2))
def M9(m:aS):Prop:=m.1≤2∧m.2≤2
def M6(m:aS):Prop:=m∈vg
instance (m:aS):Decidable (M9 m):=inferInstanceAs (Decidable (_∧_))
instance (m:aS):Decidable (M6 m):=inferInstanceAs (Decidable (m∈vg))
theorem M6.m9{m:aS}(h:M6 m):M9 m:=by
 exact ahQ
theorem le2{n:Nat}(h:n≤2):n=0∨n=1∨n=2:=ac0
theorem yY{m n:aS}(hmm:M9 m)(hn:M9 n)(K:AV→Prop):gv .eql (.complex .f64 (hbit m.1) (hbit m.2)) (.complex .f64 (hbit n.1) (hbit n.2)) K=K (.b (m==n)):=
 oJ (fun P ty w=>by
  exact ahN) K
theorem DY{m n:aS}(hmm:M9 m)(hn:M9 n)(K:AV→Prop):gv .neq (.complex .f64 (hbit m.1) (hbit m.2)) (.complex .f64 (hbit n.1) (hbit n.2)) K=K (.b (!(m==n))):=
 oJ (fun P ty w=>by
  exact ahN) K
structure Nb (m:aS):Prop where
 na:∀K,gv .eql (.complex .f64 (hbit m.1) (hbit m.2)) (.complex .f64 0 0) K=K (.b (m==naM))
 pe:∀K,gv .eql (.complex .f64 (hbit m.1) (hbit m.2)) (.complex .f64 4607182418800017408 0) K=K (.b (m==aZ))
 de:∀K,gv .eql (.complex .f64 (hbit m.1) (hbit m.2)) (.complex .f64 0 4607182418800017408) K=K (.b (m==cE))
 ip:∀K,gv .eql (.complex .f64 (hbit m.1) (hbit m.2)) (.complex .f64 4602678819172646912 0) K=K (.b (m==wB))
 id:∀K,gv .eql (.complex .f64 (hbit m.1) (hbit m.2)) (.complex .f64 0 4602678819172646912) K=K (.b (m==wA))
 ib:∀K,gv .eql (.complex .f64 (hbit m.1) (hbit m.2)) (.complex .f64 4602678819172646912 4602678819172646912) K=K (.b (m==mL))
 nna:∀K,gv .neq (.complex .f64 (hbit m.1) (hbit m.2)) (.complex .f64 0 0) K=K (.b (!(m==naM)))
 npe:∀K,gv .neq (.complex .f64 (hbit m.1) (hbit m.2)) (.complex .f64 4607182418800017408 0) K=K (.b (!(m==aZ)))
 nde:∀K,gv .neq (.complex .f64 (hbit m.1) (hbit m.2)) (.complex .f64 0 4607182418800017408) K=K (.b (!(m==cE)))
theorem nb{m:aS}(h:M9 m):Nb m:=
 ⟨yY (n:=naM) h ac4,yY (n:=aZ) h ac4,yY (n:=cE) h ac4,yY (n:=wB) h ac4,yY (n:=wA) h ac4,yY (n:=mL) h ac4,
  DY (n:=naM) h ac4,DY (n:=aZ) h ac4,DY (n:=cE) h ac4⟩
theorem Qk{a b:Nat}(ha:a≤2)(hb:b≤2)(k:AV→Prop):z8 [.v (.float .f64 (hbit a)),.v (.float .f64 (hbit b))] k=k (.v (.float .f64 (hbit (max a b)))):=
 Gc (fun P ts ty w=>by
  rcases le2 ha with rfl|rfl|rfl<;>rcases le2 hb with rfl|rfl|rfl<;>rfl) k
structure Fb (a:Nat):Prop where
 one:∀K,gv .eql (.float .f64 (hbit a)) (.float .f64 4607182418800017408) K=K (.b (a==2))
 half:∀K,gv .eql (.float .f64 (hbit a)) (.float .f64 4602678819172646912) K=K (.b (a==1))
 ge:∀K,gv .geq (.float .f64 (hbit a)) (.float .f64 4602678819172646912) K=K (.b (decide (1≤a)))
theorem fb{a:Nat}(h:a≤2):Fb a:=by
 rcases le2 h with rfl|rfl|rfl<;>
  exact⟨oJ fun P ty w=>rfl,oJ fun P ty w=>rfl,oJ fun P ty w=>rfl⟩
end Go.Bf
namespace Go.Proofs.YtfdgemhnlennbaaGreatDoor
open Go Go.Ab Go.Bf
theorem Cp(m:aS)(hmm:M6 m)(h:Heap):ai Tryz.prog 272 [aN m] h fun r h' =>r= .b true∧h' =h:=by
 have hn:ai Tryz.prog 138 [aN m] h fun r h' =>(∃c l,r= .s (c::l))∧h' =h:=by
  obtain⟨n1,n2,n3,n4,n5,n6⟩:=nb hmm.m9;refine acZ Tryz.func138 16 [.tmp 2] fun hwf=>?_
  cases d1:(m==naM)
  case true=>simp only[go_sem,aN,n1,d1];exact .same (.refl _) ⟨⟨_,_,rfl⟩,rfl⟩
  cases d2:(m==aZ)
  case true=>simp only[go_sem,aN,n1,n2,d1,d2];exact .same (.refl _) ⟨⟨_,_,rfl⟩,rfl⟩
  cases d3:(m==cE)
  case true=>simp only[go_sem,aN,n1,n2,n3,d1,d2,d3];exact .same (.refl _) ⟨⟨_,_,rfl⟩,rfl⟩
  cases d4:(m==wB)
  case true=>simp only[go_sem,aN,n1,n2,n3,n4,d1,d2,d3,d4];exact .same (.refl _) ⟨⟨_,_,rfl⟩,rfl⟩
  cases d5:(m==wA)
  case true=>simp only[go_sem,aN,n1,n2,n3,n4,n5,d1,d2,d3,d4,d5];exact .same (.refl _) ⟨⟨_,_,rfl⟩,rfl⟩
  have d6:(m==mL)=true:=by
   unfold M6 vg at hmm
   grind
  simp only[go_sem,aN,n1,n2,n3,n4,n5,n6,d1,d2,d3,d4,d5,d6];exact .same (.refl _) ⟨⟨_,_,rfl⟩,rfl⟩
 refine acZ Tryz.func272 6 [.tmp 2] fun hwf=>?_
 simp only[go_sem];refine hn.mono ?_
 rintro r h' ⟨⟨c,l,rfl⟩,rfl⟩
 exact ahu
theorem yH(m:aS)(hmm:M9 m)(h:Heap):ai Tryz.prog 245 [aN m] h fun r h' =>r=aN (gJ m)∧h' =h:=by
 obtain⟨n1,n2,n3,n4,n5,n6⟩:=nb hmm;refine acZ Tryz.func245 9 [.tmp 2] fun hwf=>?_
 cases d2:(m==aZ)
 case true=>simp only[go_sem,aN,n2,d2];exact .same (.refl _) ⟨by rw[gJ,if_pos ac1];rfl,rfl⟩
 cases d3:(m==cE)
 case true=>simp only[go_sem,aN,n2,n3,d2,d3];exact .same (.refl _) ⟨by rw[gJ,if_neg ac1,if_pos ac1];rfl,rfl⟩
 simp only[go_sem,aN,n2,n3,d2,d3];exact .same (.refl _) ⟨by rw[gJ,if_neg ac1,if_neg ac1];rfl,rfl⟩
theorem uc(m:aS)(h:Heap):ai Tryz.prog 300 [aN m] h fun r h' =>r= .tup [.v (.float .f64 (hbit m.1)),.v (.float .f64 (hbit m.2))]∧h' =h:=by
 refine acZ Tryz.func300 10 [.tmp 2,.tmp 3] fun hwf=>?_
 simp only[go_sem,aN];exact ac9
theorem Qq(a b:Nat)(h:Heap):ai Tryz.prog 301 [.v (.float .f64 (hbit a)),.v (.float .f64 (hbit b))] h fun r h' =>r=aN (a,b)∧h' =h:=by
 refine acZ Tryz.func301 8 [.tmp 4] fun hwf=>?_
 exact ahu
theorem Pt(m:aS)(h:Heap):ai Tryz.prog 275 [aN m] h fun r h' =>r=aN (EW m)∧h' =h:=by
 refine acZ Tryz.func275 13 [.tmp 2] fun hwf=>?_
 simp only[go_sem];refine(uc m _).pthen ?_;simp only[go_sem];refine(Qq m.2 m.1 _).pthen ?_;exact ahu
theorem Oy(a b:aS)(ha:M9 a)(hb:M9 b)(h:Heap):ai Tryz.prog 273 [aN a,aN b] h fun r h' =>r=aN (oD a b)∧h' =h:=by
 have m1:=Qk ha.1 hb.1;have m2:=Qk ha.2 hb.2;refine acZ Tryz.func273 26 [.tmp 4] fun hwf=>?_
 simp only[go_sem];refine(uc a _).pthen ?_;simp only[go_sem];refine(uc b _).pthen ?_;simp only[go_sem,m1,m2];refine(Qq _ _ _).pthen ?_;exact ahu
theorem M9.join{a b:aS}(ha:M9 a)(hb:M9 b):M9 (oD a b):=⟨Nat.max_le.2 ⟨ha.1,hb.1⟩,Nat.max_le.2 ⟨ha.2,hb.2⟩⟩
theorem HY(j:aS):M6 (qU j):=by
 unfold qU
 repeat' split
 all_goals decide
theorem HZ(j:aS)(hj:M9 j)(h:Heap):ai Tryz.prog 274 [aN j] h fun r h' =>r=aN (qU j)∧h' =h:=by
 obtain⟨p1,p2,p3⟩:=fb hj.1;obtain⟨q1,q2,q3⟩:=fb hj.2;refine acZ Tryz.func274 29 [.tmp 2] fun hwf=>?_
 simp only[go_sem];refine(uc j _).pthen ?_;cases d1:(j.2==2)
 case true=>simp only[go_sem,q1,d1];exact .same (.refl _) ⟨by rw[qU,if_pos ac1];rfl,rfl⟩
 have e1:¬j.2=2:=ac1;cases d2:(j.2==1)
 case true=>
  have e2:j.2=1:=ac1;cases d3:decide (1≤j.1)
  ·simp only[go_sem,p3,q1,q2,d1,d2,d3];exact .same (.refl _) ⟨by rw[qU,if_neg e1,if_neg ac1,if_pos e2];rfl,rfl⟩
  ·simp only[go_sem,p3,q1,q2,d1,d2,d3];exact .same (.refl _) ⟨by rw[qU,if_neg e1,if_pos ⟨e2,acS d3⟩];rfl,rfl⟩
 have e2:¬j.2=1:=ac1;cases d4:(j.1==2)
 case true=>simp only[go_sem,p1,q1,q2,d1,d2,d4];exact .same (.refl _) ⟨by rw[qU,if_neg e1,if_neg (fun h=>e2 h.1),if_neg e2,if_pos ac1];rfl,rfl⟩
 cases d5:(j.1==1)
 case true=>simp only[go_sem,p1,p2,q1,q2,d1,d2,d4,d5];exact .same (.refl _) ⟨by rw[qU,if_neg e1,if_neg (fun h=>e2 h.1),if_neg e2,if_neg ac1,if_pos ac1];rfl,rfl⟩
 simp only[go_sem,p1,p2,q1,q2,d1,d2,d4,d5];exact .same (.refl _) ⟨by rw[qU,if_neg e1,if_neg (fun h=>e2 h.1),if_neg e2,if_neg ac1,if_neg ac1];rfl,rfl⟩
end Go.Proofs.YtfdgemhnlennbaaGreatDoor
namespace Go.Bf
open Go Go.Ab Go.Proofs.YtfdgemhnlennbaaGreatDoor
def yN(a b:br):Int:=if bz a=false∨bz b=false then 1 else 2
def lg(a b:br):AV:=match nH a b with
 |some x=> .tup [.b x,.i 0]
 |none=> .tup [.b false,.i (yN a b)]
theorem AZ{a b:br}(h:bz a=false∨bz b=false):lg a b= .tup [.b false,.i 1]:=by
 unfold lg nH;rw[if_pos ac1]
 simp_all [yN,if_pos]
theorem yM{a b:br}(h1:bz a=true)(h2:bz b=true)(h:a.kind≠b.kind∨a.kind=1):lg a b= .tup [.b false,.i 2]:=by
 simp_all [lg,nH,if_pos,yN]
theorem OM{a b:br}(h1:bz a=true)(h2:bz b=true)(h:a.kind=b.kind)(h0:a.kind≠1)(ht:a.kind=3∨a.kind=5):lg a b= .tup [.b (Op.bytesLess a.s b.s),.i 0]:=by
 simp_all [lg,nH,if_neg,if_pos]
theorem OL{a b:br}(h1:bz a=true)(h2:bz b=true)(h:a.kind=b.kind)(h0:a.kind≠1)(ht:¬(a.kind=3∨a.kind=5)):lg a b= .tup [.b (decide (a.n<b.n)),.i 0]:=by
 simp_all [lg,nH,if_neg]
end Go.Bf
namespace Go.Proofs.YtfdgemhnlennbaaGreatDoor
open Go Go.Ab Go.Bf
theorem zJ(k:Int)(h:Heap):ai Tryz.prog 190 [.i k] h fun r h' =>r= .b (k==3||k==5)∧h' =h:=by
 refine acZ Tryz.func190 9 [.tmp 2] fun hwf=>?_
 cases d1:(k==3)<;>cases d2:(k==5)
 all_goals
  simp only[go_sem,d1,d2];exact ac9
theorem Co(a b:br)(h:Heap):ai Tryz.prog 281 [aQ a,aQ b] h fun r h' =>r=lg a b∧h' =h:=by
 have ha:=fun(G:Heap)=>fR a G
 have hb:=fun(G:Heap)=>fR b G
 simp only[aQ]at ha hb;refine acZ Tryz.func281 40 [.tmp 4,.tmp 5] fun hwf=>?_
 simp only[go_sem,aQ];intro i1 h1;simp only[go_sem];intro i2 h2;have n21:=aH h2;have n2:=aB h2;have hs:∀x y,Ab.Sub h (upd (upd h i1 x) i2 y):=fun x y=>((Sub.refl h).put h1 x).put n2 y
 simp only[go_sem,ak,n21.symm];refine(ha _).pthen ?_;cases da:bz a
 ·simp only[go_sem]
  exact .mk _ (.refl _) (hs _ _) ⟨by rw[AZ (.inl da)];rfl,rfl⟩
 simp only[go_sem];refine(hb _).pthen ?_;cases db:bz b
 ·simp only[go_sem]
  exact .mk _ (.refl _) (hs _ _) ⟨by rw[AZ (.inr db)];rfl,rfl⟩
 cases dk:(a.kind !=b.kind)
 case true=>
  simp only[go_sem,ak,n21.symm,dk];exact .mk _ (.refl _) (hs _ _) ⟨by rw[yM da db (.inl ac1)];rfl,rfl⟩
 have ek:a.kind=b.kind:=ac1;cases d1:(a.kind==1)
 case true=>
  simp only[go_sem,ak,n21.symm,dk,d1];exact .mk _ (.refl _) (hs _ _) ⟨by rw[yM da db (.inr ac1)];rfl,rfl⟩
 have e1:a.kind≠1:=ac1;simp only[go_sem,ak,n21.symm,dk,d1];refine(zJ _ _).pthen ?_;cases dt:(a.kind==3||a.kind==5)
 ·simp only[go_sem,ak,n21.symm]
  exact .mk _ (.refl _) (hs _ _) ⟨by rw[OL da db ek e1 ac1];rfl,rfl⟩
 ·simp only[go_sem,ak,n21.symm]
  exact .mk _ (.refl _) (hs _ _) ⟨by rw[OM da db ek e1 ac1];rfl,rfl⟩
def Jn(bag:List br)(must:Bool):AV:=if bag= []∧must=true then .tup [.sl [] .no,.i 4]else .tup [.sl (bag.map aQ) .no,.i 0]
theorem HB(gs:List bp)(cat:Int)(name:Txt)(must:Bool)(hl:gs.length≤1000000000)(hb:∀g∈gs,g.bag.length≤1000000)(h:Heap):ai Tryz.prog 247 [bI gs,.agg [.i cat,.s name,.b must]] h fun r h' =>r=Jn (getD gs cat name) must∧h' =h:=by
 have hpl:=fun G=>MA gs cat name hl G
 simp only[bI]at hpl;have frz:∀(x:AV) (e:Int),Weak x (.sl [] .no)→Weak (.tup [x,.i e]) (.tup [.sl [] .no,.i e]):=fun x e hx=> .tup _ _ rfl fun i a b=>by
  rcases i with _|_|i
  ·grind
  ·exact ael
  grind
 refine acZ Tryz.func247 30 [.tmp 4,.tmp 5] fun hwf=>?_
 simp only[go_sem,bI];intro i1 h1;simp only[go_sem];refine(hpl _).pthen ?_
 by_cases hx:gs.findIdx (iQ cat name)<gs.length
 ·have e1:ixD (iQ cat name) gs=(gs.findIdx (iQ cat name):Nat):=by simp_all [ixD,if_pos]
  have d1:decide ((0:Int)≤((gs.findIdx (iQ cat name):Nat):Int))=true:=decide_eq_true ac0;rw[e1];simp only[go_sem,d1];refine .at (gs.findIdx (iQ cat name)) ac1 adi ?_;simp only[go_sem,acR,ld];rw[if_neg (fun hh=>hh.1)]
  have hlb:=hb _ (acV hx);rw[get_at hx];obtain⟨B,eB⟩:∃B,gs[gs.findIdx (iQ cat name)].bag=B:=⟨_,rfl⟩;rw[eB]at hlb⊢;refine(C5 _ (B.map aQ) _ (eS aQ 3 (fun _=>rfl) _ _) ac1 (bu (fun _=>rfl) _)).pthen ?_
  cases d2:((B.length:Int)==0)
  ·have e2:B≠ []:=by grind
   simp only[go_sem,d2,acQ];exact .mk _ (.refl _) (.aj h1) ⟨by rw[Jn,if_neg (fun hh=>e2 hh.1)];rfl,rfl⟩
  ·have e3:(B.length:Int)=0:=by grind
   have e2:B= []:=List.length_eq_zero_iff.1 ac0;subst e2;cases must
   ·simp only[go_sem,List.map_nil,List.length_nil]
    exact adj
   ·simp only[go_sem,List.map_nil,List.length_nil]
    exact aeR
 ·have e1:ixD (iQ cat name) gs= -1:=by simp_all [ixD,if_neg]
  have d1:decide ((0:Int)≤ -1)=false:=rfl;rw[e1,RF hx];cases must
  ·simp only[go_sem,d1]
   exact .mk (.tup [.sl [] .no,.i 0]) (frz _ _ (.sl _ _)) (.aj h1) ⟨rfl,rfl⟩
  ·simp only[go_sem,d1]
   exact aeR
def mF(m:bO)(v:br):AV:=
 if m.op=1 then(if v.kind=m.val.kind then .tup [.b (eqV v m.val),.i 0]else .tup [.b false,.i 2])
 else if m.op=2 then lg v m.val else lg m.val v
theorem Fe(m:bO)(v:br)(h:Heap):ai Tryz.prog 248 [dM m,aQ v] h fun r h' =>r=mF m v∧h' =h:=by
 have hl1:=fun G=>Co v m.val G
 have hl2:=fun G=>Co m.val v G
 simp only[aQ]at hl1 hl2;refine acZ Tryz.func248 42 [.tmp 4,.tmp 5] fun hwf=>?_
 simp only[go_sem,dM,aQ];intro i1 h1;simp only[go_sem];intro i2 h2;have n21:=aH h2;have n2:=aB h2;have hs:∀x y,Ab.Sub h (upd (upd h i1 x) i2 y):=fun x y=>((Sub.refl h).put h1 x).put n2 y
 cases d1:(m.op==1)
 case true=>
  have e1:m.op=1:=ac1;cases dk:(v.kind !=m.val.kind)
  ·have dk' :v.kind=m.val.kind:=by grind
   simp only[go_sem,ak,n21.symm,d1,dk];exact .mk _ (.refl _) (hs _ _) ⟨by rw[mF,if_pos e1,if_pos dk'];rfl,rfl⟩
  ·simp only[go_sem,ak,n21.symm,d1,dk]
   exact .mk _ (.refl _) (hs _ _) ⟨by rw[mF,if_pos e1,if_neg ac1];rfl,rfl⟩
 have e1:m.op≠1:=ac1;have aft:∀a b:br,∃x e,lg a b= .tup [.b x,.i e]:=fun a b=>by
  unfold lg;split
  ·simp
  simp
 cases d2:(m.op==2)
 case true=>
  have e2:m.op=2:=ac1;obtain⟨x,e,ee⟩:=aft v m.val;rw[ee]at hl1;simp only[go_sem,ak,n21.symm,d1,d2];refine(hl1 _).pthen ?_;simp only[go_sem];exact .mk _ (.refl _) (hs _ _) ⟨by rw[mF,if_neg e1,if_pos e2,ee];rfl,rfl⟩
 ·have e2:m.op≠2:=by grind
  obtain⟨x,e,ee⟩:=aft m.val v;rw[ee]at hl2;simp only[go_sem,ak,n21.symm,d1,d2];refine(hl2 _).pthen ?_;simp only[go_sem];exact .mk _ (.refl _) (hs _ _) ⟨by rw[mF,if_neg e1,if_neg e2,ee];rfl,rfl⟩
theorem BN(m:bO)(v:br):∃e:Int,(e !=0)=(cS m v==none)∧mF m v= .tup [.b (cS m v==some true),.i e]:=by
 have hl:∀a b:br,∃e:Int,(e !=0)=(nH a b==none)∧lg a b= .tup [.b (nH a b==some true),.i e]:=fun a b=>by
  unfold lg;cases hx:nH a b with
  |some x=>simp
  |none=>refine⟨yN a b,?_,rfl⟩;grind [yN]
 unfold mF cS
 by_cases e1:m.op=1
 ·rw[if_pos e1,if_pos e1]
  by_cases ek:v.kind=m.val.kind
  ·rw[if_pos ek,if_pos ek]
   exact⟨0,rfl,ac7⟩
  ·rw[if_neg ek,if_neg ek]
   exact⟨2,rfl,rfl⟩
 ·rw[if_neg e1,if_neg e1]
  by_cases e2:m.op=2
  ·rw[if_pos e2,if_pos e2];exact hl _ _
  ·rw[if_neg e2,if_neg e2];exact hl _ _
theorem Jo(bag:List br)(must:Bool):∃e:Int,(e !=0)=decide (bag= []∧must=true)∧Jn bag must= .tup [.sl (bag.map aQ) .no,.i e]:=by
 unfold Jn;split
 ·simp_all
 grind
def rQ(gs:List bp):Prop:=gs.length≤1000000∧∀g∈gs,g.bag.length≤1000000
theorem rQ.bag{gs:List bp}(h:rQ gs)(a:qe):(xX gs a).length≤1000000:=by
 unfold xX getD;split
 ·rename_i g hg;exact h.2 g ac1
 ·simp
theorem A6(m:bO)(gs:List bp)(hf:rQ gs)(h:Heap):ai Tryz.prog 210 [dM m,bI gs] h fun r h' =>r= .i (jT gs m:Nat)∧h' =h:=by
 have hg:=fun G=>HB gs m.attr.cat m.attr.name m.attr.must (by have:=hf.1;omega) hf.2 G
 have hbl:=hf.bag m.attr;obtain⟨B,eB⟩:∃B,xX gs m.attr=B:=⟨_,rfl⟩;have eg:Go.Bf.getD gs m.attr.cat m.attr.name=B:=eB;rw[eB]at hbl;rw[eg]at hg;have hmm:jT gs m=if B= []∧m.attr.must=true then 1 else if B.any (fun v=>cS m v==some true)then 2 else if B.any (fun v=>cS m v==none)then 1 else 0:=by
  unfold jT;rw[eB]
 obtain⟨eg,hge,hga⟩:=Jo B m.attr.must;rw[hga]at hg;have hag:=fun(v:br) (G:Heap)=>Fe m v G
 simp only[dM,bI,aQ]at hag hg;refine acZ Tryz.func210 38 [.tmp 4] fun hwf=>?_
 simp only[go_sem,dM,bI];intro i1 h1;simp only[go_sem];refine(hg _).pthen ?_;cases d0:decide (B= []∧m.attr.must=true)
 case true=>
  rw[d0]at hge;simp only[go_sem,hge];exact .mk _ (.refl _) (.aj h1) ⟨by rw[hmm,if_pos (acS d0)];rfl,rfl⟩
 rw[d0]at hge;rw[if_neg (acT d0)]at hmm;simp only[go_sem,hge,acQ];obtain⟨H,eH⟩:∃H,upd h i1 (some (.obj [.i m.attr.cat,.s m.attr.name,.b m.attr.must,.i m.op,.i m.val.kind,.i m.val.n,.s m.val.s] 265))=H:=⟨_,rfl⟩;have hH:Ab.Sub h H:=by rw[←eH];exact .aj h1
 have k1:H i1=some (.obj [.i m.attr.cat,.s m.attr.name,.b m.attr.must,.i m.op,.i m.val.kind,.i m.val.n,.s m.val.s] 265):=aeu;rw[eH];clear eH;refine .intro (fun q ρ G=>Ab.Sub H G∧∃i:Nat,i≤B.length∧q=B.length - i∧(∀j (hj:j<i) (h2:j<B.length),(cS m B[j]==some true)=false)∧lk ρ 2=some (.ptr i1 0)∧lk ρ 7=some (.i (if(B.take i).any (fun v=>cS m v==none)then 1 else 0))∧lk ρ 21=some (.sl (B.map aQ) .no)∧lk ρ 22=some (.i B.length)∧lk ρ 23=some (.i i)) B.length ?_ ?_
 ·refine⟨.refl _,0,ac0,rfl,fun j hj=>ac0,?_,?_,?_,?_,?_⟩<;>simp only[go_sem]
  simp
 ·rintro q ρ G ⟨hs,i,hi,rfl,hc,r2,r7,r21,r22,r23⟩
  have k1' :=hs _ _ k1;simp only[go_sem,r22,r23];refine .intro (fun e=>?_) (fun e=>?_)
  ·have hlt:i<B.length:=acX e
   have w1:=acW i ac0;have hsn:(B.take (i+1)).any (fun v=>cS m v==none)=((B.take i).any (fun v=>cS m v==none)||(cS m B[i]==none)):=any_succ hlt
   have ix:=fun k=>fD.eq (xs:=B.map aQ) (sz:=3) i adr adi k
   rw[acR]at ix;have hci:=fun(d:(cS m B[i]==some true)=false)=>(fun j (hj:j<i+1) (h2:j<B.length)=>(by
    by_cases hji:j=i
    ·subst hji;exact d
    ·exact hc j ac0 h2:(cS m B[j]==some true)=false))
   have hat:=fun(d:(cS m B[i]==some true)=true)=>(List.any_eq_true.2 ⟨B[i],acV hlt,d⟩:B.any (fun v=>cS m v==some true)=true)
   obtain⟨v,ev⟩:∃v,B[i]=v:=⟨_,rfl⟩;rw[ev]at ix hsn hci hat;simp only[aQ]at ix;obtain⟨e,he1,he2⟩:=BN m v;have hag1:=hag v;rw[he2]at hag1;simp only[go_sem,r21,r23,ix];intro i4 h4;have n41:i4≠i1:=fun e=>by rw[e,k1']at h4;cases h4
   simp only[go_sem,r2,ak,n41.symm,k1'];refine(hag1 _).pthen ?_;cases d1:(cS m v==some true)
   ·cases d2:(cS m v==none)
    ·rw[d2]at he1 hsn
     rw[Bool.or_false]at hsn;simp only[go_sem,r23,he1,w1];refine⟨_,?_,hs.trans (.aj h4),i+1,ac0,rfl,hci d1,?_,?_,?_,?_,?_⟩
     ·omega
     all_goals simp only[go_sem,r2,r7,r21,r22,hsn]
    ·rw[d2]at he1 hsn
     rw[Bool.or_true]at hsn;simp only[go_sem,r23,he1,w1];refine⟨_,?_,hs.trans (.aj h4),i+1,ac0,rfl,hci d1,?_,?_,?_,?_,?_⟩
     ·omega
     all_goals simp only[go_sem,r2,r21,r22,hsn]
   ·simp only[go_sem]
    refine .mk _ (.refl _) (hH.trans (hs.trans (.aj h4))) ⟨by rw[hmm,if_pos (hat d1)];rfl,rfl⟩
  ·have hge:i=B.length:=by have:=acT e;omega
   subst hge;rw[List.take_length]at r7;simp only[go_sem,r7];refine .mk _ (.refl _) (hH.trans hs) ⟨?_,rfl⟩;have hno:B.any (fun v=>cS m v==some true)=false:=List.any_eq_false.2 fun x hx=>by
    obtain⟨j,hj,rfl⟩:=List.mem_iff_getElem.1 hx;rw[hc j hj hj];decide
   rw[hmm,hno];cases B.any (fun v=>cS m v==none)<;>rfl
theorem HR(a b:Nat):(if((b:Int)<(a:Int))then(b:Int)else(a:Int))=((min a b:Nat):Int):=by
 grind
theorem OO(a b:Nat):(if((a:Int)<(b:Int))then(b:Int)else(a:Int))=((max a b:Nat):Int):=by
 grind
theorem NU(l:List bO)(hl:l.length≤1000000)(gs:List bp)(hf:rQ gs)(h:Heap):ai Tryz.prog 241 [iU l,bI gs] h fun r h' =>r= .i (CQ gs l:Nat)∧h' =h:=by
 have hmt:=fun(m:bO) (G:Heap)=>A6 m gs hf G
 simp only[dM,bI]at hmt;refine acZ Tryz.func241 21 [.tmp 4] fun hwf=>?_
 simp only[go_sem,iU,bI,acQ];refine .intro (fun q ρ G=>Ab.Sub h G∧∃i:Nat,i≤l.length∧q=l.length - i∧lk ρ 1=some (.sl (gs.map ld) .no)∧lk ρ 5=some (.i (CQ gs (l.take i):Nat))∧lk ρ 8=some (.sl (l.map dM) .no)∧lk ρ 9=some (.i l.length)∧lk ρ 10=some (.i i)) l.length ?_ ?_
 ·exact aiJ
 ·rintro q ρ G ⟨hs,i,hi,rfl,r1,r5,r8,r9,r10⟩
  simp only[go_sem,r9,r10];refine .intro (fun e=>?_) (fun e=>?_)
  ·have hlt:i<l.length:=acX e
   have w1:IntKind.i64.wrap ((i:Int)+1)=((i+1:Nat):Int):=adf;have hsn:CQ gs (l.take (i+1))=min (CQ gs (l.take i)) (jT gs l[i]):=by
    grind [CQ,List.take_succ_eq_append_getElem]
   have ix:=fun k=>fD.eq (xs:=l.map dM) (sz:=7) i ac1 adi k
   rw[acR]at ix;obtain⟨m,em⟩:∃m,l[i]=m:=⟨_,rfl⟩;rw[em]at ix hsn;have hmt1:=hmt m;simp only[dM]at ix;simp only[go_sem,r8,r10,ix];intro i4 h4;simp only[go_sem,r1,r5];refine(hmt1 _).pthen ?_;simp only[go_sem,r10,HR,w1];refine⟨_,?_,hs.trans (.aj h4),i+1,ac0,rfl,?_,?_,?_,?_,?_⟩
   ·omega
   all_goals simp only[go_sem,r1,r8,r9,hsn]
  ·have hge:i=l.length:=by grind
   exact ait
def NL(t:ga):Prop:=t.length≤1000000∧∀x∈t,x.length≤1000000∧∀l∈x,l.length≤1000000
theorem Mf(t:ga)(ht:NL t)(gs:List bp)(hf:rQ gs)(h:Heap):ai Tryz.prog 206 [aV t,bI gs] h fun r h' =>r= .i (mP gs t:Nat)∧h' =h:=by
 have hat:=fun(l:List bO) (hl:l.length≤1000000) (G:Heap)=>NU l hl gs hf G
 simp only[iU,bI]at hat;have htl:=ht.1;refine acZ Tryz.func206 34 [.tmp 4] fun hwf=>?_
 simp only[go_sem,aV,bI,acQ];refine .intro (fun q ρ G=>Ab.Sub h G∧∃i:Nat,i≤t.length∧q=t.length - i∧lk ρ 1=some (.sl (gs.map ld) .no)∧lk ρ 5=some (.i (mP gs (t.take i):Nat))∧lk ρ 11=some (.sl (t.map cU) .no)∧lk ρ 12=some (.i t.length)∧lk ρ 13=some (.i i)) t.length ?_ ?_
 ·exact aiJ
 ·rintro q ρ G ⟨hs,i,hi,rfl,r1,r5,r11,r12,r13⟩
  simp only[go_sem,r12,r13];refine .intro (fun e=>?_) (fun e=>?_)
  ·have hlt:i<t.length:=acX e
   have w1:IntKind.i64.wrap ((i:Int)+1)=((i+1:Nat):Int):=adf;have hsn:mP gs (t.take (i+1))=min (mP gs (t.take i)) (zW gs t[i]):=by
    grind [mP,List.take_succ_eq_append_getElem]
   have ix:=fun k=>fD.eq (xs:=t.map cU) (sz:=1) i ac1 adi k
   rw[acR]at ix;obtain⟨hx1,hx2⟩:=ht.2 t[i] (acV hlt);obtain⟨x,ex⟩:∃x,t[i]=x:=⟨_,rfl⟩;rw[ex]at ix hsn hx1 hx2;simp only[cU]at ix;simp only[go_sem,r11,r13,ix,acQ];refine .intro (fun q ρ' K=>Ab.Sub h K∧∃n:Nat,n≤x.length∧q=x.length - n∧lk ρ' 1=some (.sl (gs.map ld) .no)∧lk ρ' 5=some (.i (mP gs (t.take i):Nat))∧lk ρ' 8=some (.i (zW gs (x.take n):Nat))∧lk ρ' 11=some (.sl (t.map cU) .no)∧lk ρ' 12=some (.i t.length)∧lk ρ' 13=some (.i i)∧lk ρ' 17=some (.sl (x.map iU) .no)∧lk ρ' 18=some (.i x.length)∧lk ρ' 19=some (.i n)) x.length ?_ ?_
   ·refine⟨hs,0,ac0,rfl,?_,?_,?_,?_,?_,?_,?_,?_,?_⟩<;>simp only[go_sem,r1,r5,r11,r12,r13]
    rfl
   ·rintro q ρ' K ⟨hs',n,hn,rfl,s1,s5,s8,s11,s12,s13,s17,s18,s19⟩
    simp only[go_sem,s18,s19];refine .intro (fun e=>?_) (fun e=>?_)
    ·have hlt2:n<x.length:=acX e
     have w2:IntKind.i64.wrap ((n:Int)+1)=((n+1:Nat):Int):=adf;have hsn2:zW gs (x.take (n+1))=max (zW gs (x.take n)) (CQ gs x[n]):=by
      grind [zW,List.take_succ_eq_append_getElem]
     have ix2:=fun k=>fD.eq (xs:=x.map iU) (sz:=1) n ac1 adi k
     rw[acR]at ix2;have hx3:=hx2 x[n] (acV hlt2);obtain⟨l,el⟩:∃l,x[n]=l:=⟨_,rfl⟩;rw[el]at ix2 hsn2 hx3;simp only[iU]at ix2;simp only[go_sem,s1,s8,s17,s19,ix2];refine(hat l hx3 _).pthen ?_;simp only[go_sem,s19,OO,w2];refine⟨_,?_,hs',n+1,ac0,rfl,?_,?_,?_,?_,?_,?_,?_,?_,?_⟩
     ·omega
     all_goals simp only[go_sem,s1,s5,s11,s12,s13,s17,s18,hsn2]
    ·have hge:n=x.length:=by grind
     subst hge;rw[List.take_length]at s8;simp only[go_sem,s5,s8,s13,HR,w1];refine⟨_,?_,hs',i+1,ac0,rfl,?_,?_,?_,?_,?_⟩
     ·omega
     all_goals simp only[go_sem,s1,s11,s12,hsn]
  ·have hge:i=t.length:=by grind
   exact ait
end Go.Proofs.YtfdgemhnlennbaaGreatDoor
namespace Go.Bf
open Go Go.Ab Go.Proofs.YtfdgemhnlennbaaGreatDoor
def Ac(o:Bool)(n:Int):AV:=if o then .tup [.i 0,.i 3]else .tup [.i (w64 n),.i 0]
def rA(r:br×Int):AV:=.tup [aQ r.1,.i r.2]
end Go.Bf
namespace Go.Proofs.YtfdgemhnlennbaaGreatDoor
open Go Go.Ab Go.Bf
theorem Q3(a b:Int)(h:Heap):ai Tryz.prog 322 [.i a,.i b] h fun r h' =>r=Ac (KN a b) (a+b)∧h' =h:=by
 refine acZ Tryz.func322 27 [.tmp 4,.tmp 5] fun hwf=>?_
 cases d1:decide (0<b)<;>cases d2:decide (IntKind.i64.wrap (9223372036854775807 - b)<a)<;>cases d3:decide (b<0)<;>cases d4:decide (a<IntKind.i64.wrap (-9223372036854775808 - b))
 all_goals
  simp -implicitDefEqProofs only[go_sem,d1,d2,d3,d4];exact .same (.refl _) ⟨by simp only[Ac,KN,w64,d1,d2,d3,d4];rfl,rfl⟩
theorem St(a b:Int)(h:Heap):ai Tryz.prog 323 [.i a,.i b] h fun r h' =>r=Ac (M7 a b) (a - b)∧h' =h:=by
 refine acZ Tryz.func323 27 [.tmp 4,.tmp 5] fun hwf=>?_
 cases d1:decide (0<b)<;>cases d2:decide (a<IntKind.i64.wrap (-9223372036854775808+b))<;>cases d3:decide (b<0)<;>cases d4:decide (IntKind.i64.wrap (9223372036854775807+b)<a)
 all_goals
  simp -implicitDefEqProofs only[go_sem,d1,d2,d3,d4];exact .same (.refl _) ⟨by simp only[Ac,M7,w64,d1,d2,d3,d4];rfl,rfl⟩
theorem R4(a b:Int)(h:Heap):ai Tryz.prog 324 [.i a,.i b] h fun r h' =>r=Ac (JP a b) (a*b)∧h' =h:=by
 refine acZ Tryz.func324 36 [.tmp 4,.tmp 5] fun hwf=>?_
 cases d0:(a !=0)
 ·have e0:a=0:=by grind
  subst e0;cases d1:(b== -1)
  all_goals
   simp -implicitDefEqProofs only[go_sem,d1];exact .same (.refl _) ⟨by simp[Ac,JP,w64,ax],rfl⟩
 have e0:a≠0:=ac1;cases d1:(a== -1)<;>cases d2:(b== -9223372036854775808)<;>cases d3:(b== -1)<;>cases d4:(a== -9223372036854775808)<;>cases d5:(IntKind.i64.wrap ((IntKind.i64.wrap (a*b)).tdiv a) !=b)
 all_goals
  simp -implicitDefEqProofs only[go_sem,d0,d1,d2,d3,d4,d5,e0];exact .same (.refl _) ⟨by simp only[Ac,JP,w64,d0,d1,d2,d3,d4,d5];rfl,rfl⟩
theorem Bz(b:Bool)(h:Heap):ai Tryz.prog 320 [.b b] h fun r h' =>r=aQ (dN b)∧h' =h:=by
 refine acZ Tryz.func320 8 [.cell 2 33] fun hwf=>?_
 simp only[go_sem];intro i1 h1;simp only[go_sem];intro i2 h2;have n21:=aH h2;have n2:=aB h2;cases b
 all_goals
  simp only[go_sem,ak,n21.symm];exact .mk _ (.refl _) ((((Sub.refl h).put h1 _).put n2 _).put h1 _) ⟨rfl,rfl⟩
theorem BW(kind:Int)(l:List br)(hl:l.length≤1000000)(p:Perm)(h:Heap):ai Tryz.prog 325 [.i kind,.sl (l.map aQ) p] h fun r h' =>r= .b (l.all fun v=>v.kind==kind)∧h' =h:=by
 refine acZ Tryz.func325 18 [.tmp 4] fun hwf=>?_
 simp only[go_sem,acQ];refine .intro (fun q ρ G=>Ab.Sub h G∧∃i:Nat,i≤l.length∧q=l.length - i∧(∀j (hj:j<i) (h2:j<l.length),(l[j].kind==kind)=true)∧lk ρ 0=some (.i kind)∧lk ρ 7=some (.sl (l.map aQ) p)∧lk ρ 8=some (.i l.length)∧lk ρ 9=some (.i i)) l.length ?_ ?_
 ·refine⟨.refl _,0,ac0,rfl,fun j hj=>ac0,?_,?_,?_,?_⟩<;>simp only[go_sem]
 ·rintro q ρ G ⟨hs,i,hi,rfl,hc,r0,r7,r8,r9⟩
  simp only[go_sem,r8,r9];refine .intro (fun e=>?_) (fun e=>?_)
  ·have hlt:i<l.length:=acX e
   have w1:IntKind.i64.wrap ((i:Int)+1)=((i+1:Nat):Int):=adf;have ix:=fun k=>fD.eq (xs:=l.map aQ) (sz:=3) i ac1 adi k
   rw[acR]at ix;have hci:=fun(d:(l[i].kind==kind)=true)=>(fun j (hj:j<i+1) (h2:j<l.length)=>(by
    grind:(l[j].kind==kind)=true))
   have hat:=fun(d:(l[i].kind==kind)=false)=>(List.all_eq_false.2 ⟨l[i],acV hlt,ac1⟩:(l.all fun v=>v.kind==kind)=false)
   obtain⟨v,ev⟩:∃v,l[i]=v:=⟨_,rfl⟩;rw[ev]at ix hci hat;simp only[aQ]at ix;cases d1:(v.kind==kind)
   ·have d2:(v.kind !=kind)=true:=by grind
    simp only[go_sem,r7,r9,ix];intro i4 h4;simp only[go_sem,r0,d2];exact .mk _ (.refl _) (hs.trans (.aj h4)) ⟨ag5,rfl⟩
   ·have d2:(v.kind !=kind)=false:=by grind
    simp only[go_sem,r7,r9,ix];intro i4 h4;simp only[go_sem,r0,r9,d2,w1];refine⟨_,?_,hs.trans (.aj h4),i+1,ac0,rfl,hci d1,?_,?_,?_,?_⟩
    ·omega
    all_goals simp only[go_sem,r0,r7,r8]
  ·have hge:i=l.length:=by grind
   simp only[go_sem];exact .mk _ (.refl _) hs ⟨by rw[List.all_eq_true.2 fun x hx=>afL];rfl,rfl⟩
theorem Gk(g:FuncId)(a b:br)(o:Bool)(n:Int)(hg:∀G,ai Tryz.prog g [.i a.n,.i b.n] G fun r h' =>r=Ac o n∧h' =G)(p:Perm)(h:Heap):
  ai Tryz.prog 321 [.fn g [],.sl [aQ a,aQ b] p] h fun r h' =>r=rA (if([a,b].all fun v=>v.kind==2)then Ad o n else nS 2)∧h' =h:=by
 have ix0:=fun k=>fD.eq (xs:=[aQ a,aQ b]) (sz:=3) 0 ac7 rfl k
 have ix1:=fun k=>fD.eq (xs:=[aQ a,aQ b]) (sz:=3) 1 ac7 rfl k
 simp only[List.getElem_cons_zero,List.getElem_cons_succ,aQ,Int.natCast_zero,Int.natCast_one]at ix0 ix1;have hal:=fun(G:Heap)=>BW 2 [a,b] ac7 p G
 simp only[List.map_cons,List.map_nil,aQ]at hal;refine acZ Tryz.func321 31 [.cell 4 33,.tmp 5] fun hwf=>?_
 simp only[go_sem,aQ];intro i1 h1;simp only[go_sem];refine(hal _).pthen ?_;cases d1:([a,b].all fun v=>v.kind==2)
 ·simp only[go_sem]
  exact adj
 ·simp only[go_sem]
  refine .quiet ac3 ?_;simp only[go_sem,ix0,ix1];cases o
  ·refine⟨_,hg _,?_⟩
   simp only[go_sem,Ac];exact adj
  ·refine⟨_,hg _,?_⟩
   simp only[go_sem,Ac];exact adj
theorem xD{α:Type}{l:List α}(h:l.length=2):∃a b,l= [a,b]:=by
 match l,h with
 | [a,b],_=>exact⟨a,b,rfl⟩
def Gd(op:Int)(l:List br):Bool:= !(decide (op<6)||decide (13<op)||(l.length:Int) !=(if op==11 then 1 else 2)) && l.all bz
theorem R1(op:Int)(l:List br)(hl:l.length≤1000000)(p:Perm)(h:Heap):ai Tryz.prog 319 [.i op,.sl (l.map aQ) p] h fun r h' =>r= .b (Gd op l)∧h' =h:=by
 have hvr:=fun(v:br) (G:Heap)=>fR v G
 simp only[aQ]at hvr;refine acZ Tryz.func319 32 [.tmp 4] fun hwf=>?_
 cases d11:(op==11)
 all_goals
  have hmm:Gd op l=(!(decide (op<6)||decide (13<op)||(l.length:Int) !=(if op==11 then 1 else 2)) && l.all bz):=rfl
  rw[d11]at hmm;simp only[if_true,Bool.false_eq_true,if_false]at hmm;cases d6:decide (op<6)
  case true=>
   rw[d6]at hmm;simp only[go_sem,d11,d6];exact .same (.refl _) ⟨by rw[hmm];rfl,rfl⟩
  cases d13:decide (13<op)
  case true=>
   rw[d6,d13]at hmm;simp only[go_sem,d11,d6,d13];exact .same (.refl _) ⟨by rw[hmm];rfl,rfl⟩
  rw[d6,d13]at hmm;simp only[Bool.or_false,Bool.false_or]at hmm;obtain⟨b,eb⟩:∃b,((l.length:Int) !=(if op==11 then 1 else 2))=b:=⟨_,rfl⟩
  rw[d11]at eb;simp only[if_true,Bool.false_eq_true,if_false]at eb;rw[eb]at hmm;cases b
  case true=>
   simp only[go_sem,d11,d6,d13,acQ,eb];exact .same (.refl _) ⟨by rw[hmm];rfl,rfl⟩
  simp only[Bool.not_false,Bool.true_and]at hmm;simp only[go_sem,d11,d6,d13,acQ,eb];refine .intro (fun q ρ G=>Ab.Sub h G∧∃i:Nat,i≤l.length∧q=l.length - i∧(∀j (hj:j<i) (h2:j<l.length),bz l[j]=true)∧lk ρ 22=some (.sl (l.map aQ) p)∧lk ρ 23=some (.i l.length)∧lk ρ 24=some (.i i)) l.length ?_ ?_
  ·refine⟨.refl _,0,ac0,rfl,fun j hj=>ac0,?_,?_,?_⟩<;>simp only[go_sem]
  ·rintro q ρ G ⟨hs,i,hi,rfl,hc,r22,r23,r24⟩
   simp only[go_sem,r23,r24];refine .intro (fun e=>?_) (fun e=>?_)
   ·have hlt:i<l.length:=acX e
    have w1:IntKind.i64.wrap ((i:Int)+1)=((i+1:Nat):Int):=adf;have ix:=fun k=>fD.eq (xs:=l.map aQ) (sz:=3) i ac1 adi k
    rw[acR]at ix;have hci:=fun(d:bz l[i]=true)=>(fun j (hj:j<i+1) (h2:j<l.length)=>(by
     grind:bz l[j]=true))
    have hat:=fun(d:bz l[i]=false)=>(List.all_eq_false.2 ⟨l[i],acV hlt,ac1⟩:l.all bz=false)
    obtain⟨v,ev⟩:∃v,l[i]=v:=⟨_,rfl⟩;rw[ev]at ix hci hat;simp only[aQ]at ix;simp only[go_sem,r22,r24,ix];intro i4 h4;simp only[go_sem];refine(hvr v _).pthen ?_;cases d1:bz v
    ·simp only[go_sem]
     exact .mk _ (.refl _) (hs.trans (.aj h4)) ⟨by rw[hmm,hat d1];rfl,rfl⟩
    ·simp only[go_sem,r24,w1]
     refine⟨_,?_,hs.trans (.aj h4),i+1,ac0,rfl,hci d1,?_,?_,?_⟩
     ·omega
     all_goals simp only[go_sem,r22,r23]
   ·have hge:i=l.length:=by grind
    simp only[go_sem];exact .mk _ (.refl _) hs ⟨by rw[hmm,List.all_eq_true.2 fun x hx=>afL];rfl,rfl⟩
theorem Lc{op:Int}{l:List br}(h:Gd op l=false):gS op l=nS 1:=by
 unfold gS;rw[if_pos]
 by_cases h1:6≤op∧op≤13
 ·by_cases h2:l.length=if op=11 then 1 else 2
  ·refine .inr (.inr ?_)
   unfold Gd at h
   grind
  omega
 omega
theorem IN{op:Int}{l:List br}(h:Gd op l=true):(6≤op∧op≤13)∧l.all bz=true∧(op=11∧(∃a,l= [a])∨op≠11∧∃a b,l= [a,b]):=by
 unfold Gd at h;simp only[Bool.and_eq_true,Bool.not_eq_true',Bool.or_eq_false_iff,decide_eq_false_iff_not]at h;obtain⟨⟨⟨h1,h2⟩,h3⟩,h4⟩:=h;refine⟨ac0,h4,?_⟩
 by_cases e:op=11
 ·subst e
  have h3' :(l.length:Int)=1:=ac1;exact .inl ⟨rfl,List.length_eq_one_iff.1 ac0⟩
 ·have h3' :(l.length:Int)=2:=by grind
  exact .inr ⟨e,xD ac0⟩
theorem B0(op:Int)(l:List br)(hl:l.length≤1000000)(p:Perm)(h:Heap):ai Tryz.prog 316 [.i op,.sl (l.map aQ) p] h fun r h' =>r=rA (gS op l)∧h' =h:=by
 have hmy:=fun G=>R1 op l hl p G
 cases dm:Gd op l
 ·rw[dm]at hmy
  refine acZ Tryz.func316 111 [.cell 4 33,.tmp 5] fun hwf=>?_
  simp only[go_sem];intro i1 h1;simp only[go_sem];refine(hmy _).pthen ?_;simp only[go_sem];exact .mk _ (.refl _) (.aj h1) ⟨by rw[Lc dm];rfl,rfl⟩
 rw[dm]at hmy;obtain⟨hop,hall,hf⟩:=IN dm;rcases hf with⟨rfl,a,rfl⟩|⟨e11,a,b,rfl⟩
 ·have ix0:=fun k=>fD.eq (xs:=[aQ a]) (sz:=3) 0 ac7 rfl k
  simp only[List.getElem_cons_zero,aQ,Int.natCast_zero]at ix0;have hal:=fun(G:Heap)=>BW 1 [a] ac7 p G
  simp only[List.map_cons,List.map_nil,aQ]at hal hmy;have hc:gS 11 [a]=if(([a].all fun v=>v.kind==1)=false)then nS 2 else(dN (a.n==0),0):=by
   unfold gS;rw[if_neg (by simp[hall])]
   simp
  have htr:=fun G=>Bz (a.n==0) G
  refine acZ Tryz.func316 111 [.cell 4 33,.tmp 5] fun hwf=>?_
  simp only[go_sem,List.map_cons,List.map_nil,aQ];intro i1 h1;simp only[go_sem];refine(hmy _).pthen ?_;simp only[go_sem];refine(hal _).pthen ?_;cases d1:([a].all fun v=>v.kind==1)
  ·simp only[go_sem]
   exact .mk _ (.refl _) (.aj h1) ⟨by rw[hc,if_pos d1];rfl,rfl⟩
  ·simp only[go_sem,ix0]
   refine(htr _).pthen ?_;simp only[go_sem,aQ];exact .mk _ (.refl _) (.aj h1) ⟨by rw[hc,if_neg (by rw[d1];decide)];rfl,rfl⟩
 ·have ix0:=fun k=>fD.eq (xs:=[aQ a,aQ b]) (sz:=3) 0 ac7 rfl k
  have ix1:=fun k=>fD.eq (xs:=[aQ a,aQ b]) (sz:=3) 1 ac7 rfl k
  simp only[List.getElem_cons_zero,List.getElem_cons_succ,aQ,Int.natCast_zero,Int.natCast_one]at ix0 ix1;have hal:=fun(G:Heap)=>BW 1 [a,b] ac7 p G
  have hva:bz a=true∧bz b=true:=by simpa using hall
  have hnu:=fun(g:FuncId) (o:Bool) (n:Int) hg (G:Heap)=>Gk g a b o n hg p G
  simp only[List.map_cons,List.map_nil,aQ]at hal hmy hnu;have hle:=fun G=>Co a b G
  simp only[aQ]at hle;have htr:=fun(x:Bool) G=>Bz x G
  have hc:gS op [a,b]=if op=6 then(if a.kind=b.kind then(dN (eqV a b),0)else nS 2)
    else if op=7 then(match nH a b with
     |some x=>(dN x,0)
     |none=>nS 2)
    else if op=8∨op=9∨op=10 then
     (if [a,b].all fun v=>v.kind==2 then(if op=8 then Ad (KN a.n b.n) (a.n+b.n)else if op=9 then Ad (M7 a.n b.n) (a.n - b.n)else Ad (JP a.n b.n) (a.n*b.n))else nS 2)
    else if([a,b].all fun v=>v.kind==1)=false then nS 2
    else if op=12 then(dN (a.n==1 && b.n==1),0)
    else(dN (a.n==1||b.n==1),0):=by
   unfold gS;rw[if_neg (by simp[hall,e11,hop.1,hop.2])]
   simp only[e11,if_false];rfl
  refine acZ Tryz.func316 111 [.cell 4 33,.tmp 5] fun hwf=>?_
  simp only[go_sem,List.map_cons,List.map_nil,aQ];intro i1 h1;simp only[go_sem];refine(hmy _).pthen ?_;rcases(show op=6∨op=7∨op=8∨op=9∨op=10∨op=12∨op=13 by omega)with rfl|rfl|rfl|rfl|rfl|rfl|rfl
  ·simp only[go_sem]
   refine⟨.of ac3,?_⟩;cases dk:(a.kind !=b.kind)
   case true=>
    simp only[go_sem,ix0,ix1,dk];exact .mk _ (.refl _) (.aj h1) ⟨by rw[hc,if_pos rfl,if_neg (by simpa using dk)];rfl,rfl⟩
   ·simp only[go_sem,ix0,ix1,dk]
    refine .calls cR [0,1,2,3,4,5,6,7,8,9] (fun _ _ e=>ads) ac3 rfl ?_
    simp only[go_sem,ix0,ix1];have htr1:=htr (eqV a b);simp only[eqV]at htr1;refine(htr1 _).pthen ?_;refine⟨fun _ _ e=>ads,?_⟩
    simp only[go_sem,aQ];refine⟨fun _ _ e=>ads,?_⟩
    exact .mk _ (.refl _) (.aj h1) ⟨by rw[hc,if_pos rfl,if_pos (by simpa using dk)];rfl,rfl⟩
  ·have hc7:gS 7 [a,b]=(match nH a b with
     |some x=>(dN x,0)
     |none=>nS 2):=by rw[hc];rfl
   simp only[go_sem];refine .quiet ac3 ?_;simp only[go_sem,ix0,ix1];refine⟨_,hle _,?_⟩;cases hl:nH a b with
   |none=>
    have e2:yN a b=2:=by simp[yN,hva]
    rw[hl]at hc7;simp only[go_sem,lg,hl,e2];exact .mk _ (.refl _) (.aj h1) ⟨by rw[hc7];rfl,rfl⟩
   |some x=>
    rw[hl]at hc7;simp only[go_sem,lg,hl];refine(htr x _).pthen ?_;simp only[go_sem,aQ];exact .mk _ (.refl _) (.aj h1) ⟨by rw[hc7];rfl,rfl⟩
  ·have hc8:gS 8 [a,b]=if [a,b].all (fun v=>v.kind==2)then Ad (KN a.n b.n) (a.n+b.n)else nS 2:=by rw[hc];rfl
   have hg:=hnu 322 _ _ (fun G=>Q3 a.n b.n G)
   rw[←hc8]at hg;obtain⟨⟨v,e⟩,ex⟩:∃x,gS 8 [a,b]=x:=⟨_,rfl⟩;exact ahJ
  ·have hc8:gS 9 [a,b]=if [a,b].all (fun v=>v.kind==2)then Ad (M7 a.n b.n) (a.n - b.n)else nS 2:=by rw[hc];rfl
   have hg:=hnu 323 _ _ (fun G=>St a.n b.n G)
   rw[←hc8]at hg;obtain⟨⟨v,e⟩,ex⟩:∃x,gS 9 [a,b]=x:=⟨_,rfl⟩;exact ahJ
  ·have hc8:gS 10 [a,b]=if [a,b].all (fun v=>v.kind==2)then Ad (JP a.n b.n) (a.n*b.n)else nS 2:=by rw[hc];rfl
   have hg:=hnu 324 _ _ (fun G=>R4 a.n b.n G)
   rw[←hc8]at hg;obtain⟨⟨v,e⟩,ex⟩:∃x,gS 10 [a,b]=x:=⟨_,rfl⟩;exact ahJ
  ·have hc12:gS 12 [a,b]=if([a,b].all fun v=>v.kind==1)=false then nS 2 else(dN (a.n==1 && b.n==1),0):=by rw[hc];rfl
   simp only[go_sem];refine(hal _).pthen ?_;cases d1:([a,b].all fun v=>v.kind==1)
   ·simp only[go_sem]
    exact .mk _ (.refl _) (.aj h1) ⟨by rw[hc12,if_pos d1];rfl,rfl⟩
   ·rw[if_neg (by rw[d1];decide)]at hc12
    cases da:(a.n==1)<;>cases db:(b.n==1)
    all_goals
     rw[da,db]at hc12;simp only[go_sem,ix0,ix1,da,db];refine(htr _ _).pthen ?_;simp only[go_sem,aQ];exact .mk _ (.refl _) (.aj h1) ⟨by rw[hc12];rfl,rfl⟩
  ·have hc13:gS 13 [a,b]=if([a,b].all fun v=>v.kind==1)=false then nS 2 else(dN (a.n==1||b.n==1),0):=by rw[hc];rfl
   simp only[go_sem];refine(hal _).pthen ?_;cases d1:([a,b].all fun v=>v.kind==1)
   ·simp only[go_sem]
    exact .mk _ (.refl _) (.aj h1) ⟨by rw[hc13,if_pos d1];rfl,rfl⟩
   ·rw[if_neg (by rw[d1];decide)]at hc13
    cases da:(a.n==1)<;>cases db:(b.n==1)
    all_goals
     rw[da,db]at hc13;simp only[go_sem,ix0,ix1,da,db];refine(htr _ _).pthen ?_;simp only[go_sem,aQ];exact .mk _ (.refl _) (.aj h1) ⟨by rw[hc13];rfl,rfl⟩
end Go.Proofs.YtfdgemhnlennbaaGreatDoor
namespace Go.Bf
open Go Go.Ab Go.Proofs.YtfdgemhnlennbaaGreatDoor
def bN(x:jy):AV:=.agg [.sl (x.bag.map aQ) .no,.i x.v.kind,.i x.v.n,.s x.v.s,.i x.e]
end Go.Bf
namespace Go.Proofs.YtfdgemhnlennbaaGreatDoor
open Go Go.Ab Go.Bf
theorem RN(x:jy)(n:Int)(h:Heap):ai Tryz.prog 271 [bN x,.i n] h fun r h' =>r= .b (isI x n)∧h' =h:=by
 refine acZ Tryz.func271 15 [.tmp 4] fun hwf=>?_
 simp only[go_sem,bN];exact ahF
theorem Ot(x:jy)(n:Int)(h:Heap):ai Tryz.prog 271 [.agg [.sl [] .full,.i x.v.kind,.i x.v.n,.s x.v.s,.i x.e],.i n] h fun r h' =>r= .b (isI x n)∧h' =h:=by
 refine acZ Tryz.func271 15 [.tmp 4] fun hwf=>?_
 simp only[go_sem];exact ahF
theorem vE(b:Bool)(h:Heap):ai Tryz.prog 314 [.b b] h fun r h' =>r=bN (iX b)∧h' =h:=by
 refine acZ Tryz.func314 10 [.cell 2 361] fun hwf=>?_
 simp only[go_sem];intro i1 h1;simp only[go_sem];intro i2 h2;have n21:=aH h2;have n2:=aB h2;cases b
 all_goals
  simp only[go_sem,ak,n21.symm];refine .mk (bN (iX _)) ?_ ((((Sub.refl h).put h1 _).put n2 _).put h1 _) ⟨rfl,rfl⟩;refine .agg _ _ rfl fun i a b=>?_
  rcases i with _|_|_|_|_|i
  ·exact afH
  all_goals first|exact .refl _|(simp at a;omega)
theorem FF(op:Int)(h:Heap):ai Tryz.prog 298 [.i op] h fun r h' =>r= .i (opsOf op:Nat)∧h' =h:=by
 refine acZ Tryz.func298 11 [.tmp 2] fun hwf=>?_
 cases d1:(op==1)
 case true=>simp only[go_sem,d1];exact .same (.refl _) ⟨by rw[opsOf,if_pos (.inl ac1)];rfl,rfl⟩
 cases d2:(op==2)
 case true=>simp only[go_sem,d1,d2];exact .same (.refl _) ⟨by rw[opsOf,if_pos (.inr ac1)];rfl,rfl⟩
 have e1:¬(op=1∨op=2):=ac1;cases d3:(op==3)
 case true=>simp only[go_sem,d1,d2,d3];exact .same (.refl _) ⟨by rw[opsOf,if_neg e1,if_pos (.inl ac1)];rfl,rfl⟩
 cases d4:(op==4)
 case true=>simp only[go_sem,d1,d2,d3,d4];exact .same (.refl _) ⟨by rw[opsOf,if_neg e1,if_pos (.inr (.inl ac1))];rfl,rfl⟩
 cases d5:(op==11)
 case true=>simp only[go_sem,d1,d2,d3,d4,d5];exact .same (.refl _) ⟨by rw[opsOf,if_neg e1,if_pos (.inr (.inr ac1))];rfl,rfl⟩
 have e2:¬(op=3∨op=4∨op=11):=ac1;simp only[go_sem,d1,d2,d3,d4,d5];exact .same (.refl _) ⟨by rw[opsOf,if_neg e1,if_neg e2];rfl,rfl⟩
theorem F5(vs:List br)(hl:vs.length≤1000000000)(x:br)(p:Perm)(h:Heap):
  ai Tryz.prog 326 [.sl (vs.map aQ) p,aQ x] h fun r h' =>r= .i (ixD (fun y=>eqV x y) vs)∧h' =h:=by
 refine acZ Tryz.func326 19 [.tmp 4] fun hwf=>?_
 simp only[go_sem,aQ];intro i1 h1;simp only[go_sem,acQ];refine .intro (fun m ρ G=>G=upd h i1 (some (.obj [.i x.kind,.i x.n,.s x.s] 33))∧∃i:Nat,i≤vs.length∧m=vs.length - i∧(∀j (hj:j<i) (h2:j<vs.length),eqV x vs[j]=false)∧lk ρ 0=some (.sl (vs.map aQ) p)∧lk ρ 3=some (.ptr i1 0)∧lk ρ 7=some (.i vs.length)∧lk ρ 8=some (.i i)) vs.length ?_ ?_
 ·refine⟨rfl,0,ac0,rfl,fun j hj=>ac0,?_,?_,?_,?_⟩<;>simp only[go_sem]
 ·rintro m ρ G ⟨rfl,i,hi,rfl,hc,r0,r3,r7,r8⟩
  simp only[go_sem,r7,r8];refine .intro (fun e=>?_) (fun e=>?_)
  ·have hlt:i<vs.length:=acX e
   have w1:IntKind.i64.wrap ((i:Int)+1)=((i+1:Nat):Int):=adf;have ix:=fun k=>fD.eq (xs:=vs.map aQ) (sz:=3) i ac1 adi k
   rw[acR]at ix;have hci:=fun(d:eqV x vs[i]=false)=>(fun j (hj:j<i+1) (h2:j<vs.length)=>(by
    grind:eqV x vs[j]=false))
   have hat:=fun(d:eqV x vs[i]=true)=>nU (q:=fun y=>eqV x y) hlt d fun j hj=>hc j hj ac0
   obtain⟨v,ev⟩:∃v,vs[i]=v:=⟨_,rfl⟩;rw[ev]at ix hci hat;simp only[aQ]at ix;simp only[go_sem,r0,r3,r8];refine⟨.of ac3,?_⟩;cases d1:eqV x v
   ·have d2:=d1
    simp only[eqV]at d2;simp only[go_sem,r8,ix,d2,w1];refine⟨_,?_,rfl,i+1,ac0,rfl,hci d1,?_,?_,?_,?_⟩
    ·omega
    all_goals simp only[go_sem,r0,r3,r7]
   ·have d2:=d1
    simp only[eqV]at d2;simp only[go_sem,ix,d2];exact .mk _ (.refl _) (.aj h1) ⟨ag5,rfl⟩
  ·have hge:i=vs.length:=by grind
   simp only[go_sem];exact .mk _ (.refl _) (.aj h1) ⟨adv,rfl⟩
theorem NV{vs:List br}{x:br}:decide ((0:Int)≤ixD (fun y=>eqV x y) vs)=vs.any fun v=>eqV v x:=by
 have hsy:(fun v=>eqV v x)=fun v=>eqV x v:=by simp[funext,eqV,BEq.comm]
 rw[uJ,hsy]
theorem PD(vs:List br)(hl:vs.length≤1000000000)(x:br)(p:Perm)(h:Heap):ai Tryz.prog 315 [.sl (vs.map aQ) p,aQ x] h fun r h' =>r= .b (vs.any fun v=>eqV v x)∧h' =h:=by
 have h1:∀G,ai Tryz.prog 318 [.sl (vs.map aQ) p,aQ x] G fun r h' =>r= .b (vs.any fun v=>eqV v x)∧h' =G:=fun G=>by
  have hq:=fun K=>F5 vs hl x p K
  refine acZ Tryz.func318 9 [.tmp 4] fun hwf=>?_
  simp only[go_sem,aQ];intro i1 h1;simp only[go_sem];refine(hq _).pthen ?_;simp only[go_sem,NV];exact adj
 refine acZ Tryz.func315 8 [.tmp 4] fun hwf=>?_
 simp only[go_sem,aQ];intro i1 h1';simp only[go_sem];refine(h1 _).pthen ?_;simp only[go_sem];exact .mk _ (.refl _) (.aj h1') ⟨rfl,rfl⟩
theorem lf{L:List AV}{x:jy}(hL:L=x.bag.map aQ)(q:Perm):Weak (.agg [.sl L q,.i x.v.kind,.i x.v.n,.s x.v.s,.i x.e]) (bN x):=by
 subst hL;refine .agg _ _ rfl fun i a b=>?_
 rcases i with _|_|_|_|_|i
 ·exact afH
 all_goals first|exact .refl _|(simp at a;omega)
theorem tU(op:Int):opsOf op≤2:=by
 grind [opsOf]
theorem vi{gs:List bp}{op:Int}{val:br}{attr:qe}{l:List jy}{x:jy}(h1:op≠1)(h2:op≠2)(hno:¬((op=12∨op=13)∧(l.any fun x=>isI x (op - 12))=true))(hx:l.find? (fun x=>x.e !=0)=some x):lq gs ⟨op,val,attr⟩ l=⟨[],aq,x.e⟩:=by
 simp_all [lq,if_neg]
theorem vh{gs:List bp}{op:Int}{val:br}{attr:qe}{l:List jy}(h1:op≠1)(h2:op≠2)(hno:¬((op=12∨op=13)∧(l.any fun x=>isI x (op - 12))=true))(hx:l.find? (fun x=>x.e !=0)=none):lq gs ⟨op,val,attr⟩ l=(if op=3 then(match (l.headD ⟨[],aq,0⟩).bag with
    | [v]=>⟨[],v,0⟩
    |_=>⟨[],aq,4⟩)
   else if op=4 then⟨[],⟨2,(l.headD ⟨[],aq,0⟩).bag.length,[]⟩,0⟩
   else if op=5 then iX ((l.headD ⟨[],aq,0⟩).bag.any fun v=>eqV v (l.getD 1 ⟨[],aq,0⟩).v)
   else Go.Bf.As (gS op (l.map (·.v)))):=by
 unfold lq;simp only[if_neg h1,if_neg h2,if_neg hno,hx]
 all_goals rfl
theorem OR{h:Heap}{y:AV}(n:aP)(hop:1≤n.op∧n.op≤13)(l:List jy)(hb:Rd h 5 y (l.map bN))(hl:l.length=opsOf n.op)(hbag:∀x∈l,x.bag.length≤1000000)(gs:List bp)(hf:rQ gs):
  ai Tryz.prog 299 [dI n,y,bI gs] h fun r h' =>r=bN (lq gs n l)∧h' =h:=by
 obtain⟨op,val,attr⟩:=n;simp only at hop hl;have hl2:l.length≤2:=by rw[hl];exact tU op
 have uV:(U 33).sz=3:=ada;have hg:=fun G=>HB gs attr.cat attr.name attr.must (by have:=hf.1;omega) hf.2 G
 simp only[bI]at hg;refine acZ Tryz.func299 122 [.cell 6 361] fun hwf=>?_
 simp only[go_sem,dI,bI];intro i3 h3;simp only[go_sem];intro i6 h6;have n63:=aH h6;have n6' :=aB h6;obtain⟨H0,eH⟩:∃H0,upd (upd h i3 (some (.obj [.i op,.i val.kind,.i val.n,.s val.s,.i attr.cat,.s attr.name,.b attr.must] 215))) i6 (some (.obj [.sl [] .full,.i 0,.i 0,.s [],.i 0] 361))=H0:=⟨_,rfl⟩;have hH0:Ab.Sub h H0:=af1;have g3:H0 i3=some (.obj [.i op,.i val.kind,.i val.n,.s val.s,.i attr.cat,.s attr.name,.b attr.must] 215):=by rw[←eH,ag _ _ n63.symm,ah]
 have g6:H0 i6=some (.obj [.sl [] .full,.i 0,.i 0,.s [],.i 0] 361):=aeu;rw[eH];clear eH;cases d1:(op==1)
 case true=>
  have e1:op=1:=af2;simp only[go_sem,d1,g3,g6];exact .mk (bN ⟨[],val,0⟩) (lf (x:=⟨[],val,0⟩) rfl _) (hH0.put n6' _) ⟨by unfold lq;simp only[e1,if_true],rfl⟩
 have hp1' :op≠1:=af2;cases d2:(op==2)
 case true=>
  have e2:op=2:=by simpa using d2
  simp only[go_sem,d1,d2,g3];refine(hg _).pthen ?_
  by_cases hh:xX gs attr= []∧attr.must=true
  ·have hh2:Go.Bf.getD gs attr.cat attr.name= []∧attr.must=true:=hh
   simp only[go_sem,Jn,if_pos hh2,g6];exact .mk (bN ⟨[],aq,4⟩) (lf (x:=⟨[],aq,4⟩) rfl _) (hH0.put n6' _) ⟨by unfold lq;simp only[e2,if_neg (show¬(2:Int)=1 by decide),if_true,if_pos hh],rfl⟩
  ·have hh2:¬(Go.Bf.getD gs attr.cat attr.name= []∧attr.must=true):=hh
   simp only[go_sem,Jn,if_neg hh2,g6];exact .mk (bN ⟨xX gs attr,aq,0⟩) (lf (x:=⟨xX gs attr,aq,0⟩) rfl _) (hH0.put n6' _) ⟨by unfold lq;simp only[e2,if_neg (show¬(2:Int)=1 by decide),if_true,if_neg hh],rfl⟩
 have hp2' :op≠2:=by simpa using d2
 have his:=fun(x:jy) (m:Int) (G:Heap)=>RN x m G
 simp only[bN]at his;cases d12:(op==12)
 case true=>
  have e12:op=12:=by simpa using d12
  have htr:=fun G=>vE false G
  simp only[bN]at htr;obtain⟨a,b,hab⟩:∃a b,l= [a,b]:=xD (by rw[hl,e12];rfl)
  have wk:IntKind.i64.wrap (op - 12)=0:=afI;have han:(l.any fun x=>isI x (op - 12))=(isI a 0||isI b 0):=by rw[hab,e12];simp
  have hb0:l.map bN= [bN a,bN b]:=by rw[hab];rfl
  have q3:(op==3)=false:=afI;have q4:(op==4)=false:=afI;have q5:(op==5)=false:=afI;have hbH:=hb.sub hH0;simp only[go_sem,d2,d1,d12,g3,wk];refine hbH.idx (e:=361) 0 rfl afd ada ac4 fun p hp1=>?_
  have hld:=hp1.all (U:=U) (ty:=361) ada aeb aeb;simp only[go_sem,hld,hb0,List.getElem_cons_zero,bN];refine(his a 0 _).pthen ?_;cases da:isI a 0
  ·simp only[go_sem]
   refine hbH.idx (e:=361) 1 rfl afd ada ac4 fun p hp1=>?_
   have hld:=hp1.all (U:=U) (ty:=361) ada adL adL;simp only[go_sem,hld,hb0,List.getElem_cons_succ,List.getElem_cons_zero,bN];refine(his b 0 _).pthen ?_;cases db:isI b 0
   ·exact ahe
   ·simp only[go_sem]
    refine(htr _).pthen ?_;simp only[go_sem,g6];exact .mk (bN (iX false)) (lf (x:=(iX false)) rfl _) (hH0.put n6' _) ⟨by unfold lq;rw[han,da,db];simp[e12]<;>rfl,rfl⟩
  ·simp only[go_sem]
   refine(htr _).pthen ?_;simp only[go_sem,g6];exact .mk (bN (iX false)) (lf (x:=(iX false)) rfl _) (hH0.put n6' _) ⟨by unfold lq;rw[han,da];simp[e12]<;>rfl,rfl⟩
 have hn12:op≠12:=by simpa using d12
 cases d13:(op==13)
 case true=>
  have e12:op=13:=by simpa using d13
  have htr:=fun G=>vE true G
  simp only[bN]at htr;obtain⟨a,b,hab⟩:∃a b,l= [a,b]:=xD (by rw[hl,e12];rfl)
  have wk:IntKind.i64.wrap (op - 12)=1:=afI;have han:(l.any fun x=>isI x (op - 12))=(isI a 1||isI b 1):=by rw[hab,e12];simp
  have hb0:l.map bN= [bN a,bN b]:=by rw[hab];rfl
  have q3:(op==3)=false:=afI;have q4:(op==4)=false:=afI;have q5:(op==5)=false:=afI;have hbH:=hb.sub hH0;simp only[go_sem,d1,d2,d12,d13,g3,wk];refine hbH.idx (e:=361) 0 rfl afd ada ac4 fun p hp1=>?_
  have hld:=hp1.all (U:=U) (ty:=361) ada aeb aeb;simp only[go_sem,hld,hb0,List.getElem_cons_zero,bN];refine(his a 1 _).pthen ?_;cases da:isI a 1
  ·simp only[go_sem]
   refine hbH.idx (e:=361) 1 rfl afd ada ac4 fun p hp1=>?_
   have hld:=hp1.all (U:=U) (ty:=361) ada adL adL;simp only[go_sem,hld,hb0,List.getElem_cons_succ,List.getElem_cons_zero,bN];refine(his b 1 _).pthen ?_;cases db:isI b 1
   ·exact ahe
   ·simp only[go_sem]
    refine(htr _).pthen ?_;simp only[go_sem,g6];exact .mk (bN (iX true)) (lf (x:=(iX true)) rfl _) (hH0.put n6' _) ⟨by unfold lq;rw[han,da,db];simp[e12]<;>rfl,rfl⟩
  ·simp only[go_sem]
   refine(htr _).pthen ?_;simp only[go_sem,g6];exact .mk (bN (iX true)) (lf (x:=(iX true)) rfl _) (hH0.put n6' _) ⟨by unfold lq;rw[han,da];simp[e12]<;>rfl,rfl⟩
 have hn13:op≠13:=by simpa using d13
 have hno:¬((op=12∨op=13)∧(l.any fun x=>isI x (op - 12))=true):=fun hh=>hh.1.elim hn12 hn13
 simp only[go_sem,d1,d2,d12,d13,g3,hb.len,acQ];refine .intro (fun m ρ H=>∃(i:Nat) (z:AV),Acc U 33 H0 H z ((l.take i).map fun x=>aQ x.v)∧i≤l.length∧m=l.length - i∧(∀j (h1:j<l.length),j<i→l[j].e=0)∧lk ρ 1=some y∧lk ρ 3=some (.ptr i3 0)∧lk ρ 6=some (.ptr i6 0)∧lk ρ 10=some z∧lk ρ 55=some y∧lk ρ 56=some (.i l.length)∧lk ρ 57=some (.i i)) l.length ?_ ?_
 ·refine⟨0,.sl [] .full,.full (.refl _),ac0,rfl,fun j _ hj=>ac0,?_,?_,?_,?_,?_,?_,?_⟩<;>simp only[go_sem]
 ·rintro m ρ H ⟨i,z,hz,hi,rfl,hc,r1,r3,r6,r10,r55,r56,r57⟩
  have hsH:=hH0.trans hz.1;have hbH:=hb.sub hsH;have k3:=hz.1 _ _ g3;have k6:=hz.1 _ _ g6;simp only[go_sem,r56,r57];refine .intro (fun e=>?_) (fun e=>?_)
  ·have hlt:i<l.length:=acX e
   have w1:=acW i ac0;have hsn:(l.take (i+1)).map (fun x=>aQ x.v)=(l.take i).map (fun x=>aQ x.v)++ [aQ l[i].v]:=aef
   simp only[go_sem,r55,r57];refine hbH.idx (e:=361) i rfl adr ada ac4 fun p hp1=>?_
   have hld:=hp1.all (U:=U) (ty:=361) ada adG adG;obtain⟨x,ex⟩:∃x,l[i]=x:=⟨_,rfl⟩;rw[ex]at hsn;simp only[go_sem,hld,acR,ex,bN];intro i12 h12;have n126:i12≠i6:=fun e=>ae3
   cases dx:(x.e !=0)
   ·have dx' :x.e=0:=by simpa using dx
    simp only[go_sem,r10,dx];refine(hz.sub (.aj h12)).app (zs:=[aQ x.v]) ac5 ac5 (fun k hk=>hk) aek aeB adk fun z' H' hz' kp=>?_
    simp only[go_sem,r57,w1];refine⟨_,?_,i+1,z',by rw[hsn];exact hz',ac0,rfl,fun j h1 hj=>?_,?_,?_,?_,?_,?_,?_,?_⟩
    ·omega
    ·by_cases hji:j=i
     ·subst hji;rw[ex];exact dx'
     ·exact hc j h1 ac0
    all_goals simp only[go_sem,r1,r3,r6,r55,r56]
   ·have hfi:l.find? (fun x=>x.e !=0)=some x:=by rw[←ex];exact List.find?_eq_some_iff_getElem.2 ⟨by rw[ex];exact dx,i,hlt,rfl,fun j hj=>agy⟩
    simp only[go_sem,r6,dx,ak,n126.symm,k6];exact .mk (bN ⟨[],aq,x.e⟩) (lf (x:=⟨[],aq,x.e⟩) rfl _) ((hsH.trans (.aj h12)).put n6' _) ⟨agl,rfl⟩
  ·have hge:i=l.length:=by have:=acT e;omega
   subst hge;have hfi:l.find? (fun x=>x.e !=0)=none:=List.find?_eq_none.2 fun x hx=>by
    obtain⟨j,hj,rfl⟩:=List.mem_iff_getElem.1 hx;rw[hc j hj hj];decide
   have hnd:=vh (gs:=gs) (val:=val) (attr:=attr) hp1' hp2' hno hfi;rw[List.take_length]at hz;obtain⟨qz,eqz⟩:=hz.row;subst eqz;have hcl:=fun G=>B0 op (l.map (·.v)) agd qz G
   rw[List.map_map]at hcl;have hcl:∀G,ai Tryz.prog 316 [.i op,.sl (l.map fun x=>aQ x.v) qz] G fun r h' =>r=rA (gS op (l.map (·.v)))∧h' =G:=hcl
   cases d3:(op==3)
   case true=>
    have e3:op=3:=agX;obtain⟨a,ha⟩:∃a,l= [a]:=List.length_eq_one_iff.1 (by rw[hl,e3];rfl)
    have hb0:l.map bN= [bN a]:=by rw[ha];rfl
    simp only[e3,if_true,ha,List.headD_cons]at hnd;simp only[go_sem,r1,r3,k3,d3];refine hbH.idx (e:=361) 0 rfl afd ada ac4 fun p hp1=>?_
    (try simp only[go_sem])
    refine hp1.field (f:=0) (off:=0) (t:=179) rfl adQ fun p2 hp2=>?_
    have hld:=hp2.part (U:=U) (ty:=179) adQ ad2;simp only[hb0,List.getElem_cons_zero,bN,AV.cells]at hld;cases db:((a.bag.length:Int) !=1)
    ·have hb1:(a.bag.length:Int)=1:=by simpa using db
     obtain⟨v,hv⟩:=List.length_eq_one_iff.1 (show a.bag.length=1 by omega)
     rw[hv]at hnd hld;have iv:=fun K=>fD.eq (xs:=[aQ v]) (sz:=3) 0 ac7 rfl K
     simp only[List.getElem_cons_zero,aQ,Int.natCast_zero]at iv;simp only[go_sem,r1,hld,List.map_cons,List.map_nil,aQ];refine hbH.idx (e:=361) 0 rfl afd ada ac4 fun p hp1=>?_
     (try simp only[go_sem])
     refine hp1.field (f:=0) (off:=0) (t:=179) rfl adQ fun p2 hp2=>?_
     have hld:=hp2.part (U:=U) (ty:=179) adQ ad2;simp only[hb0,List.getElem_cons_zero,bN,AV.cells,hv,List.map_cons,List.map_nil,aQ]at hld;simp only[go_sem,hld,iv,r6,k6];exact .mk (bN ⟨[],v,0⟩) (lf (x:=⟨[],v,0⟩) rfl _) (hsH.put n6' _) ⟨by rw[e3,ha,hnd]<;>rfl,rfl⟩
    ·simp only[go_sem,hld,acQ,db,r6,k6]
     refine .mk (bN ⟨[],aq,4⟩) (lf (x:=⟨[],aq,4⟩) rfl _) (hsH.put n6' _) ⟨?_,rfl⟩;rw[e3,ha,hnd]
     congr 1
     split
     ·rename_i v hv;rw[hv]at db;simp at db
     ·rfl
   cases d4:(op==4)
   case true=>
    have e4:op=4:=by simpa using d4
    obtain⟨a,ha⟩:∃a,l= [a]:=List.length_eq_one_iff.1 (by rw[hl,e4];rfl)
    have hb0:l.map bN= [bN a]:=by rw[ha];rfl
    simp only[go_sem,r1,r3,k3,d3,d4];refine hbH.idx (e:=361) 0 rfl afd ada ac4 fun p hp1=>?_
    (try simp only[go_sem])
    refine hp1.field (f:=0) (off:=0) (t:=179) rfl adQ fun p2 hp2=>?_
    have hld:=hp2.part (U:=U) (ty:=179) adQ ad2;simp only[hb0,List.getElem_cons_zero,bN,AV.cells]at hld;simp only[go_sem,hld,acQ,r6,k6];exact .mk (bN ⟨[],⟨2,a.bag.length,[]⟩,0⟩) (lf (x:=⟨[],⟨2,a.bag.length,[]⟩,0⟩) rfl _) (hsH.put n6' _) ⟨by rw[hnd,e4,ha];rfl,rfl⟩
   cases d5:(op==5)
   case true=>
    have e5:op=5:=by simpa using d5
    obtain⟨a,b,hab⟩:∃a b,l= [a,b]:=xD (by rw[hl,e5];rfl)
    have hb0:l.map bN= [bN a,bN b]:=by rw[hab];rfl
    have hvh:=fun G=>PD a.bag (by have:=hbag a (by rw[hab];simp);omega) b.v .no G
    simp only[aQ]at hvh;have htr:=fun G=>vE (a.bag.any fun v=>eqV v b.v) G
    simp only[bN]at htr;simp only[go_sem,r3,k3,d3,d4,d5];refine .calls h [0,1,2,3,4,5,6,7,8,9,10] hsH ac3 rfl ?_;simp only[go_sem,r1];refine hb.idx (e:=361) 0 rfl afd ada ac4 fun p hp1=>?_
    simp only[go_sem];refine hp1.field (f:=0) (off:=0) (t:=179) rfl adQ fun p2 hp2=>?_
    have hld:=hp2.part (U:=U) (ty:=179) adQ ad2;simp only[hb0,List.getElem_cons_zero,bN,AV.cells]at hld;simp only[go_sem,hld,r1];refine hb.idx (e:=361) 1 rfl afd ada ac4 fun p hp3=>?_
    simp only[go_sem];refine hp3.field (f:=1) (off:=1) (t:=33) rfl adQ fun p4 hp4=>?_
    have hld4:=hp4.part (U:=U) (ty:=33) adQ (by simp only[go_sem,hb0,List.getElem_cons_succ,List.getElem_cons_zero];exact acP rfl)
    simp only[hb0,List.getElem_cons_succ,List.getElem_cons_zero,bN,AV.cells]at hld4;simp only[go_sem,hld4];refine(hvh _).pthen ?_;refine⟨hsH,?_⟩;simp only[go_sem];refine(htr _).pthen ?_;refine⟨hsH,?_⟩;simp only[go_sem,r6,k6];refine⟨hsH.put n6' _,?_⟩;exact .mk (bN (iX (a.bag.any fun v=>eqV v b.v))) (lf (x:=(iX (a.bag.any fun v=>eqV v b.v))) rfl _) (hsH.put n6' _) ⟨by rw[hnd,e5,hab];rfl,rfl⟩
   obtain⟨⟨v,e⟩,ev⟩:∃x,gS op (l.map (·.v))=x:=⟨_,rfl⟩
   rw[ev]at hcl;simp only[go_sem,r3,r10,k3,d3,d4,d5];refine(hcl _).pthen ?_;simp only[go_sem,rA,aQ];intro i13 h13;have n136:i13≠i6:=fun e=>agG
   simp only[go_sem,r6,ak,n136.symm,k6];exact .mk (bN ⟨[],v,e⟩) (lf (x:=⟨[],v,e⟩) rfl _) ((hsH.trans (.aj h13)).put n6' _) ⟨by rw[hnd];simp only[if_neg (show¬op=3 by simpa using d3),if_neg (show¬op=4 by simpa using d4),if_neg (show¬op=5 by simpa using d5)];rw[ev]<;>rfl,rfl⟩
end Go.Proofs.YtfdgemhnlennbaaGreatDoor
namespace Go.Bf
open Go Go.Ab Go.Proofs.YtfdgemhnlennbaaGreatDoor
theorem CC{t:ga}(h:lG t=0):NL t:=by
 obtain⟨h1,h2⟩:=Bw h;refine⟨ac0,fun x hx=>?_⟩
 grind [AB,AA]
theorem M6.turn{m:aS}(h:M6 m):M6 (EW m):=by
 exact ahQ
theorem M6.indet{m:aS}(h:M6 m):M6 (gJ m):=by
 exact ahQ
theorem M6.first{l:List aS}(h:∀m∈l,M6 m):M6 (firstM l):=by
 unfold firstM;cases hf:l.find? fun m=>decide (m≠naM)with
 |none=>decide
 |some m=>grind
theorem M6.only:∀(l:List aS) (j:aS),(∀m∈l,M6 m)→M6 j→M6 (oK l j)
 | [],j,_,hj=>hj
 |m::r,j,h,hj=>by
  simp only[oK];split
  ·decide
  ·refine M6.only r _ ac1 ?_
   split
   ·grind
   ·split
    ·decide
    omega
theorem Hl{alg:Int}{l:List aS}(h:∀m∈l,M6 m):M6 (gU alg l):=by
 unfold gU;split
 ·exact HY _
 ·split
  ·exact M6.turn (HY _)
  ·split
   ·exact .first h
   ·split
    ·exact .only _ _ h ac4
    ·split
     ·split<;>decide
     ·split
      ·split<;>decide
      decide
theorem AM(r:cQ)(t c:Nat):M6 (ny r t c).1:=by
 unfold ny;cases r.deny
 all_goals
  simp only[if_true,Bool.false_eq_true,if_false];split
  ·decide
  ·split
   ·decide
   ·first|(show M6 aZ;decide)|(show M6 cE;decide)
theorem Ov(alg:Int)(obls:List cB)(t:Nat){parts:List jL}(h:∀x∈parts,M6 x.1):M6 (pU alg obls t parts).1:=by
 have hc:M6 (gU alg (parts.map (·.1))):=Hl fun m hm=>by
  grind
 unfold pU;simp only;split
 ·decide
 ·split
  ·exact hc.indet
  ·split
   ·exact hc
   ·exact hc
mutual
theorem B9(gs:List bp):∀p:bH,M6 (fF gs p).1
 |.mk id set alg tgt rules kids obls=>by
  have ih:=Di gs kids;simp only[fF];split
  ·decide
  ·refine Ov alg obls _ fun x hx=>?_
   rcases List.mem_append.1 hx with hx|hx
   ·obtain⟨r,_,rfl⟩:=List.mem_map.1 hx
    exact AM _ _ _
   ·exact ih x hx
theorem Di(gs:List bp):∀l:List bH,∀x∈mH gs l,M6 x.1
 | [],x,hx=>by simp[mH]at hx
 |k::r,x,hx=>by
  have h1:=B9 gs k;have h2:=Di gs r;simp only[mH,List.mem_cons]at hx;rcases hx with rfl|hx
  ·exact h1
  ·exact h2 x hx
end
theorem KT{gs:List bp}(h:PJ gs):rQ gs:=⟨by have:=h.len;omega,fun g hg=>by have:=(h.each g hg).2.2.2.1;omega⟩
theorem Hw{α:Type}(B:Nat):∀(L:List (List α)),(∀x∈L,x.length≤B)→L.flatten.length≤L.length*B
 | [],_=>ac7
 |x::L,h=>by
  have h1:=h x ac7;have h2:=Hw B L fun y hy=>h y ac1
  rw[List.flatten_cons,acU,List.length_cons,Nat.add_mul];omega
theorem ua{alg:Int}{m:aS}{parts:List jL}{B:Nat}(hp:∀x∈parts,x.2.length≤B)(hn:parts.length≤32):(eR alg m parts).length≤32*B+B:=by
 unfold eR;split
 ·cases hf:parts.find? fun x=>x.1==m with
  |none=>simp
  |some x=>grind
 ·have h1:=Hw B (((parts.filter fun x=>x.1==m).map (·.2))) fun x hx=>by
   grind
  have h2:((parts.filter fun x=>x.1==m).map (·.2)).length≤32:=by
   grind
  have:=Nat.mul_le_mul_right B h2;omega
theorem kO(l:List cB)(m:aS):(eO l m).length≤l.length:=List.length_filter_le _ _
theorem AL(r:cQ)(t c:Nat):(ny r t c).2.length≤r.obls.length:=by
 unfold ny
 all_goals
  grind [kO]
def oB:Nat→Nat
 |0=>8
 |n+1=>8+33*oB n
theorem U7(n:Nat):8≤oB n:=by
 cases n with
 |zero=>decide
 |succ n=>grind [oB]
theorem B8(gs:List bp):∀(n d:Nat) (p:bH),d+n=5→mQ d p→(fF gs p).2.length≤oB n
 |0,d,.mk id set alg tgt rules kids obls,hd,h=>by grind [mQ]
 |n+1,d,.mk id set alg tgt rules kids obls,hd,h=>by
  simp only[mQ,qM]at h;obtain⟨_,_,_,_,_,_,g2,g3,g4,g5,g6,g7⟩:=h;have hob:=(kE g3).1;have h8:=U7 n;simp only[fF];split
  ·simp
  ·unfold pU
   simp only;split
   ·simp
   ·split
    ·simp
    ·split
     ·simp
     ·have h1:=ua (alg:=alg) (m:=gU alg ((rules.map (ic gs)++mH gs kids).map (·.1))) (parts:=rules.map (ic gs)++mH gs kids) (B:=oB n) (fun x hx=>by
       rcases List.mem_append.1 hx with hx|hx
       ·obtain⟨r,hr,rfl⟩:=List.mem_map.1 hx
        have:=AL r (mP gs r.tgt) (qv gs r.cond);have:=(kE (g6 r hr).2.2.2).1
        show(ny r (mP gs r.tgt) (qv gs r.cond)).2.length≤_
        omega
       ·rw[tD]at hx
        obtain⟨k,hk,rfl⟩:=List.mem_map.1 hx;exact B8 gs n (d+1) k ac0 (g7 k hk)) (by grind [acU,acQ,tD])
      have h2:=kO obls (gU alg ((rules.map (ic gs)++mH gs kids).map (·.1)))
      simp only[acU,oB];omega
theorem Lv(gs:List bp){p:bH}(h:mQ 1 p):(fF gs p).2.length≤10000000:=Nat.le_trans (B8 gs 4 1 p rfl h) ac4
theorem Kw{op:Int}{w:List Bool}(hw:iF op=some w):w.length=opsOf op∧1≤op∧op≤13:=by
 have h1:1≤op∧op≤13:=by
  grind [iF]
 refine⟨?_,h1⟩;rcases(show op=1∨op=2∨op=3∨op=4∨op=5∨op=6∨op=7∨op=8∨op=9∨op=10∨op=11∨op=12∨op=13 by omega)with rfl|rfl|rfl|rfl|rfl|rfl|rfl|rfl|rfl|rfl|rfl|rfl|rfl
 all_goals (simp[iF]at hw;subst hw;rfl)
theorem Kk{bs bs' :List Bool}{n:aP}(h:iE bs n=some bs'):(1≤n.op∧n.op≤13)∧opsOf n.op≤bs.length∧bs'.length=bs.length - opsOf n.op+1:=by
 unfold iE at h;cases hw:iF n.op with
 |none=>grind
 |some w=>
  grind [Kw,acU,List.length_take,List.length_singleton]
theorem Pk{l:List aP}{z bs:List Bool}{i:Nat}(hl:fT [] l=some z)(hi:i<l.length)(hb:fT [] (l.take i)=some bs):∃bs',iE bs l[i]=some bs'∧fT [] (l.take (i+1))=some bs' :=by
 have h1:=jZ [] l i;rw[hl,hb,List.drop_eq_getElem_cons hi]at h1;simp only[fT]at h1;cases hs:iE bs l[i]with
 |none=>rw[hs]at h1;cases h1
 |some bs' =>
  rw[jZ [] _ i,List.take_take,Nat.min_eq_left ac0,hb,List.take_succ_eq_append_getElem hi,List.drop_append_of_le_length ac1,List.drop_of_length_le ac1]
  grind [fT]
theorem Mj{gs:List bp}(hf:rQ gs)(n:aP)(l:List jy):(lq gs n l).bag.length≤1000000:=by
 unfold lq As iX
 repeat' split
 all_goals first|exact hf.bag _|simp
def UW(x:jy):AV:=.tup [aQ x.v,.i x.e]
end Go.Bf
namespace Go.Proofs.YtfdgemhnlennbaaGreatDoor
open Go Go.Ab Go.Bf
theorem Lw(l:List aP)(hn:l≠ [])(he:j7 l=0)(gs:List bp)(hf:rQ gs)(h:Heap):ai Tryz.prog 270 [fq l,bI gs] h fun r h' =>r=UW (wC gs l)∧h' =h:=by
 obtain⟨h32,hst⟩:=ym he hn;have hex:=fun G=>Ht l G
 rw[he]at hex;simp only[fq]at hex;have dl:((l.length:Int)==0)=false:=ag6;refine acZ Tryz.func270 51 [.cell 4 33,.tmp 5] fun hwf=>?_
 simp only[go_sem,fq,bI];intro i4 h4;simp only[go_sem,acQ,dl];refine(hex _).pthen ?_;simp only[go_sem,acQ];obtain⟨H0,eH⟩:∃H0,upd h i4 (some (.obj [.i 0,.i 0,.s []] 33))=H0:=⟨_,rfl⟩;have hH0:Ab.Sub h H0:=by rw[←eH];exact .aj h4
 have g4:H0 i4=some (.obj [.i 0,.i 0,.s []] 33):=aeu;rw[eH];clear eH;refine .intro (fun m ρ H=>∃(i:Nat) (y:AV) (st:List jy) (bs:List Bool),OwE 361 H0 H 5 y (st.map bN)∧Ab.Sub H0 H∧(l.take i).foldl (zF gs) []=st∧fT [] (l.take i)=some bs∧bs.length=st.length∧(∀x∈st,x.bag.length≤1000000)∧i≤l.length∧m=l.length - i∧lk ρ 1=some (.sl (gs.map ld) .no)∧lk ρ 4=some (.ptr i4 0)∧lk ρ 6=some y∧lk ρ 19=some (.sl (l.map dI) .no)∧lk ρ 20=some (.i l.length)∧lk ρ 21=some (.i i)) l.length ?_ ?_
 ·refine⟨0,_,[],[],.inl ⟨rfl,rfl⟩,.refl _,rfl,rfl,rfl,fun x hx=>ac1,ac0,rfl,?_,?_,?_,?_,?_,?_⟩<;>simp only[go_sem]
 ·rintro m ρ H ⟨i,y,st,bs,hw,hsH,hfo,hbs,hlen,hbag,hi,rfl,r1,r4,r6,r19,r20,r21⟩
  have hsl:bs.length≤i:=by have:=si _ _ _ hbs;simpa[Nat.min_eq_left hi]using this
  simp only[go_sem,r20,r21];refine .intro (fun e=>?_) (fun e=>?_)
  ·have hlt:i<l.length:=acX e
   have w1:IntKind.i64.wrap ((i:Int)+1)=((i+1:Nat):Int):=adf;obtain⟨bs',hb1,hb2⟩:=Pk hst hlt hbs;have hfs:(l.take (i+1)).foldl (zF gs) []=zF gs st l[i]:=by grind [List.take_succ_eq_append_getElem]
   have ix:=fun k=>fD.eq (xs:=l.map dI) (sz:=7) i ac1 adi k
   rw[acR]at ix;obtain⟨n,en⟩:∃n,l[i]=n:=⟨_,rfl⟩;rw[en]at hb1 hfs ix;obtain⟨hop,hle,hln⟩:=Kk hb1;rw[hlen]at hle;obtain⟨k,ek⟩:∃k,st.length - opsOf n.op=k:=⟨_,rfl⟩;have wk:IntKind.i64.wrap ((st.length:Int) - (opsOf n.op:Int))=(k:Int):=adf;have hstep:zF gs st n=st.take k++ [lq gs n (st.drop k)]:=by grind [zF]
   simp only[dI]at ix;simp only[go_sem,r19,r21,ix];intro i8 h8;obtain⟨H8,eH⟩:∃H8,upd H i8 (some (.obj [.i n.op,.i n.val.kind,.i n.val.n,.s n.val.s,.i n.attr.cat,.s n.attr.name,.b n.attr.must] 215))=H8:=⟨_,rfl⟩;have hs8:Ab.Sub H H8:=by rw[←eH];exact .aj h8
   have k8:H8 i8=some (.obj [.i n.op,.i n.val.kind,.i n.val.n,.s n.val.s,.i n.attr.cat,.s n.attr.name,.b n.attr.must] 215):=aeu;have hw8:=hw.sub hs8;simp only[go_sem,r6,hw8.rd.len,acQ];refine(FF n.op _).pthen ?_;rw[eH];clear eH;simp only[go_sem,wk];refine .calls (hm1 i8 (.obj [.i n.op,.i n.val.kind,.i n.val.n,.s n.val.s,.i n.attr.cat,.s n.attr.name,.b n.attr.must] 215)) [0,1,2,3,4,5,6,7,8,9,10,11] (.hm1 k8) ac3 rfl ?_;simp only[go_sem,r6];refine hw8.cut (U:=U) (x:=.i64) k adg rfl ac1 adg ac4 fun z hz hzy=>?_
   simp only[go_sem,r6,gh];refine hw8.from (U:=U) (x:=.i64) k adg rfl ac1 adg ac4 fun z2 hz2=>?_
   rw[←List.map_drop]at hz2;rw[←List.map_take]at hz;have hnd:=OR n hop (st.drop k) hz2 ac1 (fun x hx=>hbag x (List.mem_of_mem_drop hx)) gs hf
   have hnb:=Mj hf n (st.drop k);obtain⟨x,ex⟩:∃x,lq gs n (st.drop k)=x:=⟨_,rfl⟩;rw[ex]at hnd hnb hstep;simp only[dI,bI,bN]at hnd;simp only[go_sem,r1];refine hnd.pthen ?_;refine⟨.hm1 k8,?_⟩;simp only[go_sem];have hone:Rd H8 5 (.sl [bN x] .full) [bN x]:=.sl (fun z hz=>afW) .full
   simp only[bN]at hone;refine OwE.app (U:=U) (tb:=361) hz (hsH.trans hs8) hone adg ac4 ac4 adg ac7 adk fun id y' H' hid hor how hoth=>?_
   have n8:i8≠id:=by
    intro e8;rcases hor with ho|⟨lz,cz,ez⟩
    ·grind
    ·exact lV (hz.nid (id:=id) (by rw[ez];rfl)).2.2 k8 ac4 e8.symm
   have hsub' :Ab.Sub H0 H' :=fun j b hj=>by rw[hoth j (fun e=>ac1)];exact(hsH.trans hs8) _ _ hj
   refine⟨.hm1 ac1,?_⟩;simp only[go_sem,r21,w1];refine⟨_,?_,i+1,y',zF gs st n,bs',.inr ⟨id,hid,by rw[hstep,List.map_append];exact how⟩,hsub',hfs,hb2,ac1,fun w hw=>?_,ac0,rfl,?_,?_,?_,?_,?_,?_⟩
   ·omega
   ·grind
   all_goals simp only[go_sem,r1,r4,r19,r20]
  ·have hge:i=l.length:=by grind
   subst hge;rw[List.take_length]at hbs hfo;rw[hst]at hbs;cases hbs;obtain⟨x,rfl⟩:=List.length_eq_one_iff.1 hlen.symm;have hit:wC gs l=x:=by simp_all [wC,if_neg]
   obtain⟨id,hid,how⟩:=hw.ow ac7;have hwp:Rd (pick H [id]) 5 y [bN x]:=(how.same (bC (List.mem_singleton.2 rfl))).rd;have n4:i4≠id:=fun e=>ac1
   have k4:=hsH _ _ g4;simp only[go_sem];refine .calls (pick H [id]) [0,1,2,3,4,5,6,7,8,9] bR ac3 rfl ?_;simp only[go_sem,r6];refine hwp.idx (U:=U) (e:=361) 0 rfl ac7 adg ac4 fun p hp1=>?_
   simp only[go_sem];refine hp1.field (f:=1) (off:=1) (t:=33) rfl ac4 fun p2 hp2=>?_
   have hld:=hp2.part (U:=U) (ty:=33) ac4 afs;simp only[List.getElem_cons_zero,bN,AV.cells]at hld;simp only[go_sem,r6,hld];refine hwp.idx (U:=U) (e:=361) 0 rfl ac7 adg ac4 fun p3 hp3=>?_
   simp only[go_sem];refine hp3.field (f:=2) (off:=4) (t:=24) rfl ac4 fun p4 hp4=>?_
   have hld4:=hp4.part (U:=U) (ty:=24) ac4 afs;simp only[List.getElem_cons_zero,bN,AV.cells]at hld4;simp only[go_sem,r4,hld4,k4];refine⟨bR.put (by grind [pick]) _,?_⟩
   exact .mk _ (.refl _) ((hH0.trans hsH).put h4 _) ⟨by rw[hit];rfl,rfl⟩
theorem N6(l:List aP)(he:j7 l=0)(gs:List bp)(hf:rQ gs)(h:Heap):ai Tryz.prog 243 [fq l,bI gs] h fun r h' =>r= .i (qv gs l:Nat)∧h' =h:=by
 by_cases hn:l= []
 ·subst hn
  refine acZ Tryz.func243 26 [.tmp 4] fun hwf=>?_
  simp only[go_sem,fq,bI,List.map_nil,List.length_nil];exact ac9
 have hv:=fun G=>Lw l hn he gs hf G
 have hcd:qv gs l=if isI (wC gs l) 1 then 2 else if isI (wC gs l) 0 then 0 else 1:=by
  simp_all [qv,if_neg]
 obtain⟨x,ex⟩:∃x,wC gs l=x:=⟨_,rfl⟩;rw[ex]at hv hcd;simp only[fq,bI,UW,aQ]at hv;have hi1:∀(m:Int) G,ai Tryz.prog 271 [.agg [.sl [] .full,.i x.v.kind,.i x.v.n,.s x.v.s,.i x.e],.i m] G fun r h' =>r= .b (isI x m)∧h' =G:=fun m G=>Ot x m G
 have dl:((l.length:Int)==0)=false:=ag6;refine acZ Tryz.func243 26 [.tmp 4] fun hwf=>?_
 simp only[go_sem,fq,bI,acQ,dl];refine(hv _).pthen ?_;simp only[go_sem];intro i5 h5;simp only[go_sem];intro i7 h7;have n7:=aB h7;have hs:∀x y,Ab.Sub h (upd (upd h i5 x) i7 y):=fun x y=>((Sub.refl h).put h5 x).put n7 y
 simp only[go_sem];refine(hi1 1 _).pthen ?_;cases d1:isI x 1
 case true=>
  rw[d1]at hcd;simp only[go_sem];exact .mk _ (.refl _) (hs _ _) ⟨by rw[hcd];rfl,rfl⟩
 simp only[go_sem];refine(hi1 0 _).pthen ?_;cases d0:isI x 0
 all_goals
  rw[d1,d0]at hcd;simp only[go_sem];exact .mk _ (.refl _) (hs _ _) ⟨by rw[hcd];rfl,rfl⟩
end Go.Proofs.YtfdgemhnlennbaaGreatDoor
namespace Go.Bf
open Go Go.Ab Go.Proofs.YtfdgemhnlennbaaGreatDoor
def jS(l:List aS)(p:Perm):AV:=.sl (l.map aN) p
theorem M9.na:M9 naM:=ac4
theorem Ck(l:List aS)(i:Nat)(h:i<l.length):(l.take (i+1)).foldl oD naM=oD ((l.take i).foldl oD naM) l[i]:=by
 grind [List.take_succ_eq_append_getElem]
theorem Jc{l:List aS}{q:aS→Bool}(hq:∀m,q m=decide (m≠naM))(h:l.findIdx q<l.length):firstM l=l[l.findIdx q]:=by
 unfold firstM;have e:q=fun m=>decide (m≠naM):=funext hq
 subst e;rw[show l.find? (fun m=>decide (m≠naM))=some l[l.findIdx fun m=>decide (m≠naM)]from List.find?_eq_some_iff_getElem.2 ⟨List.findIdx_getElem (w:=h),_,h,rfl,fun j hj=>ac1⟩]
 rfl
theorem Jd{l:List aS}{q:aS→Bool}(hq:∀m,q m=decide (m≠naM))(h:¬l.findIdx q<l.length):firstM l=naM:=by
 unfold firstM;rw[List.find?_eq_none.2 fun x hx=>ac1]
 rfl
def wV(j m:aS):aS:=if j=naM then m else if m≠naM then mL else j
theorem Mo{l:List aS}{i:Nat}(h:i<l.length)(j:aS):oK (l.drop i) j=if zG l[i]=false then mL else oK (l.drop (i+1)) (wV j l[i]):=by
 rw[List.drop_eq_getElem_cons h];rfl
end Go.Bf
namespace Go.Proofs.YtfdgemhnlennbaaGreatDoor
open Go Go.Ab Go.Bf
theorem Vy:(U 31).sz=1:=adg
theorem JF(ms:List aS)(hl:ms.length≤1000000000)(q:aS→Bool)(g:FuncId)(cap:List AV)(p:Perm)(h:Heap)(hp:∀m∈ms,ai Tryz.prog g (aN m::cap) h fun r h' =>r= .b (q m)∧h' =h):
  ai Tryz.prog 302 [jS ms p,.fn g cap] h fun r h' =>r= .i (ixD q ms)∧h' =h:=by
 refine acZ Tryz.func302 19 [.tmp 4] fun hwf=>?_
 simp only[go_sem,jS,acQ];refine .intro (fun m ρ h' =>h' =h∧∃i:Nat,i≤ms.length∧m=ms.length - i∧(∀j (hj:j<i) (h2:j<ms.length),q ms[j]=false)∧lk ρ 0=some (.sl (ms.map aN) p)∧lk ρ 1=some (.fn g cap)∧lk ρ 7=some (.i ms.length)∧lk ρ 8=some (.i i)) ms.length ?_ ?_
 ·refine⟨rfl,0,ac0,rfl,fun j hj=>ac0,?_,?_,?_,?_⟩<;>simp only[go_sem]
 ·rintro m ρ h' ⟨rfl,i,hi,rfl,hc,r0,r1,r7,r8⟩
  simp only[go_sem,r7,r8];refine .intro (fun e=>?_) (fun e=>?_)
  ·have hlt:i<ms.length:=acX e
   have w1:IntKind.i64.wrap ((i:Int)+1)=((i+1:Nat):Int):=adf;have ix:=fun k=>fD.eq (xs:=ms.map aN) (sz:=1) i ac1 adi k
   rw[acR]at ix;have hg:=hp ms[i] (acV hlt);have hci:=fun(d:q ms[i]=false)=>(fun j (hj:j<i+1) (h2:j<ms.length)=>(by
    grind:q ms[j]=false))
   have hat:=fun(d:q ms[i]=true)=>nU hlt d fun j hj=>hc j hj ac0
   obtain⟨m,em⟩:∃m,ms[i]=m:=⟨_,rfl⟩;rw[em]at ix hg hci hat;simp only[aN]at ix;simp only[go_sem,r0,r1,r8,ix];refine(show ai Tryz.prog g (.v (.complex .f64 (hbit m.1) (hbit m.2))::cap) _ _ from hg).pthen ?_
   cases d1:q m
   ·simp only[go_sem,r8,w1]
    refine⟨_,?_,rfl,i+1,ac0,rfl,hci d1,?_,?_,?_,?_⟩
    ·omega
    all_goals simp only[go_sem,r0,r1,r7]
   ·simp only[go_sem]
    exact .same (.refl _) ⟨ag5,rfl⟩
  ·have hge:i=ms.length:=by grind
   simp only[go_sem];exact .same (.refl _) ⟨adv,rfl⟩
theorem F4(ms:List aS)(hl:ms.length≤1000000000)(hmm:∀m∈ms,M9 m)(x:aS)(hx:M9 x)(p:Perm)(h:Heap):
  ai Tryz.prog 317 [jS ms p,aN x] h fun r h' =>r= .i (ixD (fun y=>x==y) ms)∧h' =h:=by
 refine acZ Tryz.func317 19 [.tmp 4] fun hwf=>?_
 simp only[go_sem,jS,acQ];refine .intro (fun m ρ h' =>h' =h∧∃i:Nat,i≤ms.length∧m=ms.length - i∧(∀j (hj:j<i) (h2:j<ms.length),(x==ms[j])=false)∧lk ρ 0=some (.sl (ms.map aN) p)∧lk ρ 1=some (aN x)∧lk ρ 7=some (.i ms.length)∧lk ρ 8=some (.i i)) ms.length ?_ ?_
 ·refine⟨rfl,0,ac0,rfl,fun j hj=>ac0,?_,?_,?_,?_⟩<;>simp only[go_sem]
 ·rintro m ρ h' ⟨rfl,i,hi,rfl,hc,r0,r1,r7,r8⟩
  simp only[go_sem,r7,r8];refine .intro (fun e=>?_) (fun e=>?_)
  ·have hlt:i<ms.length:=acX e
   have w1:IntKind.i64.wrap ((i:Int)+1)=((i+1:Nat):Int):=adf;have ix:=fun k=>fD.eq (xs:=ms.map aN) (sz:=1) i ac1 adi k
   rw[acR]at ix;have hm9:=hmm ms[i] (acV hlt);have hci:=fun(d:(x==ms[i])=false)=>(fun j (hj:j<i+1) (h2:j<ms.length)=>(by
    grind:(x==ms[j])=false))
   have hat:=fun(d:(x==ms[i])=true)=>nU (q:=fun y=>x==y) hlt d fun j hj=>hc j hj ac0
   obtain⟨m,em⟩:∃m,ms[i]=m:=⟨_,rfl⟩;rw[em]at ix hm9 hci hat;simp only[aN]at ix r1;have ne:=yY hx hm9;cases d1:(x==m)
   ·simp only[go_sem,r0,r1,r8,ix,ne,d1,w1]
    refine⟨_,?_,rfl,i+1,ac0,rfl,hci d1,?_,?_,?_,?_⟩
    ·omega
    all_goals simp only[go_sem,r0,r1,r7,aN]
   ·simp only[go_sem,r0,r1,r8,ix,ne,d1]
    exact .same (.refl _) ⟨ag5,rfl⟩
  ·have hge:i=ms.length:=by grind
   simp only[go_sem];exact .same (.refl _) ⟨adv,rfl⟩
theorem FW(ms:List aS)(hl:ms.length≤1000000000)(hmm:∀m∈ms,M9 m)(x:aS)(hx:M9 x)(p:Perm)(h:Heap):
  ai Tryz.prog 306 [jS ms p,aN x] h fun r h' =>r= .b (decide (x∈ms))∧h' =h:=by
 refine acZ Tryz.func306 9 [.tmp 4] fun hwf=>?_
 simp only[go_sem];refine(F4 ms hl hmm x hx p _).pthen ?_;simp only[go_sem];exact .same (.refl _) ⟨by rw[uJ,show(ms.any fun y=>x==y)=decide (x∈ms) by grind];rfl,rfl⟩
theorem Fg(m:aS)(hmm:M9 m)(h:Heap):ai Tryz.prog 303 [aN m] h fun r h' =>r= .b (!(m==naM))∧h' =h:=by
 have n:=(nb hmm).nna;refine acZ Tryz.func303 5 [.tmp 2] fun hwf=>?_
 simp only[go_sem,aN,n];exact ac9
theorem Pp(m:aS)(hmm:M9 m)(h:Heap):ai Tryz.prog 304 [aN m] h fun r h' =>r= .b (zG m)∧h' =h:=by
 obtain⟨n1,n2,n3,_⟩:=nb hmm;refine acZ Tryz.func304 13 [.tmp 2] fun hwf=>?_
 have es:zG m=(m==naM||(m==aZ||m==cE)):=by
  unfold zG
  grind
 rw[es];cases d1:(m==naM)<;>cases d2:(m==aZ)<;>cases d3:(m==cE)
 all_goals
  simp only[go_sem,aN,n1,n2,n3,d1,d2,d3];exact ac9
theorem LB(ms:List aS)(hl:ms.length≤1000000000)(hmm:∀m∈ms,M9 m)(p:Perm)(h:Heap):ai Tryz.prog 276 [jS ms p] h fun r h' =>r=aN (firstM ms)∧h' =h:=by
 refine acZ Tryz.func276 12 [.tmp 2] fun hwf=>?_
 simp only[go_sem,jS];refine(JF ms hl (fun m=> !(m==naM)) _ [] p _ fun m h=>Fg m (hmm m h) _).pthen ?_
 have hq:∀m:aS,(!(m==naM))=decide (m≠naM):=fun m=>ac1
 by_cases hx:ms.findIdx (fun m=> !(m==naM))<ms.length
 ·obtain⟨i,ei⟩:∃i,ms.findIdx (fun m=> !(m==naM))=i:=⟨_,rfl⟩
  have ef:=Jc hq hx;have e1:ixD (fun m=> !(m==naM)) ms=(i:Nat):=by rw[ixD,ei];omega
  simp only[ei]at ef;have d1:decide ((0:Int)≤((i:Nat):Int))=true:=decide_eq_true ac0;have ix:=fun k=>fD.eq (xs:=ms.map aN) (sz:=1) i ac1 adi k
  rw[acR,←ef]at ix;rw[e1];simp only[go_sem,d1,ix];exact ac9
 ·have e1:ixD (fun m=> !(m==naM)) ms= -1:=by simp_all [ixD,if_neg]
  have d1:decide ((0:Int)≤ -1)=false:=rfl;rw[e1];simp only[go_sem,d1];exact .same (.refl _) ⟨by rw[Jd hq hx];rfl,rfl⟩
theorem M4(j m:aS)(hj:M9 j)(hmm:M9 m)(h:Heap):ai Tryz.prog 305 [.i 4,aN j,aN m] h fun r h' =>r=aN (wV j m)∧h' =h:=by
 have n1:=(nb hj).na;have n2:=(nb hmm).nna;refine acZ Tryz.func305 31 [.tmp 6] fun hwf=>?_
 cases d1:(j==naM)
 case true=>
  simp only[go_sem,aN,n1,d1];exact .same (.refl _) ⟨by rw[wV,if_pos ac1];rfl,rfl⟩
 cases d2:(m==naM)
 ·simp only[go_sem,aN,n1,n2,d1,d2]
  exact .same (.refl _) ⟨by rw[wV,if_neg ac1,if_pos ac1];rfl,rfl⟩
 ·simp only[go_sem,aN,n1,n2,d1,d2]
  exact .same (.refl _) ⟨by rw[wV,if_neg ac1,if_neg ac1];rfl,rfl⟩
theorem M9.step{j m:aS}(hj:M9 j)(hmm:M9 m):M9 (wV j m):=by
 unfold wV
 repeat' split
 ·omega
 ·decide
 omega
theorem OY(ms:List aS)(hl:ms.length≤1000000000)(hmm:∀m∈ms,M9 m)(p:Perm)(h:Heap):ai Tryz.prog 277 [jS ms p] h fun r h' =>r=aN (oK ms naM)∧h' =h:=by
 refine acZ Tryz.func277 20 [.tmp 2] fun hwf=>?_
 simp only[go_sem,jS,acQ];refine .intro (fun m ρ h' =>h' =h∧∃(i:Nat) (j:aS),i≤ms.length∧m=ms.length - i∧M9 j∧oK (ms.drop i) j=oK ms naM∧lk ρ 3=some (aN j)∧lk ρ 6=some (.sl (ms.map aN) p)∧lk ρ 7=some (.i ms.length)∧lk ρ 8=some (.i i)) ms.length ?_ ?_
 ·refine⟨rfl,0,naM,ac0,rfl,.na,rfl,?_,?_,?_,?_⟩<;>simp only[go_sem,aN,naM,hbit]
 ·rintro m ρ h' ⟨rfl,i,j,hi,rfl,hj,ho,r3,r6,r7,r8⟩
  simp only[go_sem,r7,r8];refine .intro (fun e=>?_) (fun e=>?_)
  ·have hlt:i<ms.length:=acX e
   have w1:IntKind.i64.wrap ((i:Int)+1)=((i+1:Nat):Int):=adf;have ix:=fun k=>fD.eq (xs:=ms.map aN) (sz:=1) i ac1 adi k
   rw[acR]at ix;have hm9:=hmm ms[i] (acV hlt);rw[Mo hlt]at ho;obtain⟨m,em⟩:∃m,ms[i]=m:=⟨_,rfl⟩;rw[em]at ix hm9 ho;have hsu:=fun G=>Pp m hm9 G
   have hst:=fun G=>M4 j m hj hm9 G
   simp only[aN]at ix hsu hst r3;simp only[go_sem,r6,r8,ix];refine(hsu _).pthen ?_;cases d1:zG m
   ·rw[if_pos d1]at ho
    simp only[go_sem];exact .same (.refl _) ⟨by rw[←ho];rfl,rfl⟩
   ·rw[if_neg ac1]at ho
    simp only[go_sem,r3];refine(hst _).pthen ?_;simp only[go_sem,r8,w1];refine⟨_,?_,rfl,i+1,wV j m,ac0,rfl,M9.step hj hm9,ho,?_,?_,?_,?_⟩
    ·omega
    all_goals simp only[go_sem,r6,r7,aN]
  ·have hge:i=ms.length:=by grind
   subst hge;rw[List.drop_length]at ho;simp only[go_sem,r3];exact .same (.refl _) ⟨by rw[←ho];rfl,rfl⟩
theorem BA(ms:List aS)(hl:ms.length≤1000000000)(hmm:∀m∈ms,M9 m)(a b:aS)(hb:M9 b)(p:Perm)(h:Heap):ai Tryz.prog 278 [jS ms p,aN a,aN b] h fun r h' =>r=aN (if b∈ms then b else a)∧h' =h:=by
 refine acZ Tryz.func278 12 [.tmp 6] fun hwf=>?_
 simp only[go_sem];refine(FW ms hl hmm b hb p _).pthen ?_
 by_cases d:b∈ms
 ·simp only[go_sem,decide_eq_true d,if_pos d]
  exact ac9
 ·simp only[go_sem,decide_eq_false d,if_neg d]
  exact ac9
theorem Q5(alg:Int)(ha:1≤alg∧alg≤6)(ms:List aS)(hl:ms.length≤1000000000)(hmm:∀m∈ms,M6 m)(p:Perm)(h:Heap):ai Tryz.prog 244 [.i alg,jS ms p] h fun r h' =>r= .tup [aN (gU alg ms),.i 0]∧h' =h:=by
 have hm9:=fun m h=>(hmm m h).m9
 refine acZ Tryz.func244 49 [.tmp 4,.tmp 5] fun hwf=>?_
 simp only[go_sem,jS,acQ];refine .intro (fun m ρ h' =>h' =h∧∃i:Nat,i≤ms.length∧m=ms.length - i∧M9 ((ms.take i).foldl oD naM)∧lk ρ 0=some (.i alg)∧lk ρ 1=some (.sl (ms.map aN) p)∧lk ρ 6=some (aN ((ms.take i).foldl oD naM))∧lk ρ 9=some (.sl (ms.map aN) p)∧lk ρ 10=some (.i ms.length)∧lk ρ 11=some (.i i)) ms.length ?_ ?_
 ·refine⟨rfl,0,ac0,rfl,.na,?_,?_,?_,?_,?_,?_⟩<;>simp only[go_sem,aN,naM,hbit,List.take_zero,List.foldl_nil]
 ·rintro m ρ h' ⟨rfl,i,hi,rfl,hj,r0,r1,r6,r9,r10,r11⟩
  obtain⟨j,ej⟩:∃j,(ms.take i).foldl oD naM=j:=⟨_,rfl⟩;rw[ej]at hj r6;simp only[go_sem,r10,r11];refine .intro (fun e=>?_) (fun e=>?_)
  ·have hlt:i<ms.length:=acX e
   have w1:IntKind.i64.wrap ((i:Int)+1)=((i+1:Nat):Int):=adf;have ix:=fun k=>fD.eq (xs:=ms.map aN) (sz:=1) i ac1 adi k
   rw[acR]at ix;have hm6:=hmm ms[i] (acV hlt);have hsn:=Ck ms i hlt;rw[ej]at hsn;obtain⟨m,em⟩:∃m,ms[i]=m:=⟨_,rfl⟩;rw[em]at ix hm6 hsn;have hri:=fun G=>Cp m hm6 G
   have hjo:=fun G=>Oy j m hj hm6.m9 G
   simp only[aN]at ix hri hjo r6;simp only[go_sem,r9,r11,ix];refine(hri _).pthen ?_;simp only[go_sem,r6];refine(hjo _).pthen ?_;simp only[go_sem,r11,w1];refine⟨_,?_,rfl,i+1,ac0,rfl,by grind [M9.join],?_,?_,?_,?_,?_,?_⟩
   ·omega
   all_goals simp only[go_sem,r0,r1,r9,r10,aN,hsn]
  ·have hge:i=ms.length:=by grind
   subst hge;rw[List.take_length]at ej;have ej' :xC ms=j:=ej;have hov:=fun G=>HZ j hj G
   have htu:=fun(x:aS) (G:Heap)=>Pt x G
   have hov2:=fun G=>HZ (EW j) ⟨hj.2,hj.1⟩ G
   have h1:=LB ms hl hm9 p;have h2:=OY ms hl hm9 p;have h3:=BA ms hl hm9 cE aZ ac4 p;have h4:=BA ms hl hm9 aZ cE ac4 p;simp only[jS]at h1 h2 h3 h4;rcases(show alg=1∨alg=2∨alg=3∨alg=4∨alg=5∨alg=6 by omega)with rfl|rfl|rfl|rfl|rfl|rfl
   ·simp only[go_sem,r0,r6]
    refine(hov _).pthen ?_;simp only[go_sem];exact .same (.refl _) ⟨by simp only[gU,ej',if_true];rfl,rfl⟩
   ·simp only[go_sem,r0,r6]
    refine(htu _ _).pthen ?_;simp only[go_sem];refine(hov2 _).pthen ?_;simp only[go_sem];refine(htu _ _).pthen ?_;simp only[go_sem];exact .same (.refl _) ⟨by simp only[gU,ej'];rfl,rfl⟩
   ·simp only[go_sem,r0,r1]
    refine(h1 _).pthen ?_;exact ahu
   ·simp only[go_sem,r0,r1]
    refine(h2 _).pthen ?_;exact ahu
   ·simp only[go_sem,r0,r1]
    refine(h3 _).pthen ?_;exact ai1
   ·simp only[go_sem,r0,r1]
    refine(h4 _).pthen ?_;exact ai1
end Go.Proofs.YtfdgemhnlennbaaGreatDoor
namespace Go.Bf
open Go Go.Ab Go.Proofs.YtfdgemhnlennbaaGreatDoor
theorem tF{α:Type}(f:α→Nat):∀(l:List α) (a:Nat),l.foldl (fun a x=>min a (f x)) a≤a∧∀x∈l,l.foldl (fun a x=>min a (f x)) a≤f x
 | [],a=>ac7
 |y::l,a=>by
  obtain⟨h1,h2⟩:=tF f l (min a (f y))
  grind
theorem OA{gs:List bp}:∀ {t:ga} {m:bO},oE t=some m→jT gs m=0→mP gs t=0:=by
 intro t;have main:∀(t:ga) (m:bO),oE t=some m→jT gs m=0→∃x∈t,zW gs x=0:=by
  intro t
  induction t with
  |nil=>intro m h;cases h
  |cons x r ih=>
   intro m h h0
   match x,h with
   | [],h=>obtain⟨y,hy,e⟩:=ih m h h0;exact⟨y,List.mem_cons_of_mem _ hy,e⟩
   | [l],h=>
    simp only[oE]at h;cases hf:l.find? fun m=>m.op==1 && !m.attr.must with
    |none=>rw[hf]at h;obtain⟨y,hy,e⟩:=ih m h h0;exact⟨y,List.mem_cons_of_mem _ hy,e⟩
    |some k=>
     rw[hf]at h;cases h;have hm:=List.mem_of_find?_eq_some hf;have hall:CQ gs l=0:=by
      have:=(tF (jT gs) l 2).2 _ hm;rw[h0]at this;exact Nat.le_zero.1 this
     exact⟨[l],List.mem_cons_self ..,by grind [zW]⟩
   |a::b::c,h=>obtain⟨y,hy,e⟩:=ih m h h0;exact⟨y,List.mem_cons_of_mem _ hy,e⟩
 intro m h h0;obtain⟨x,hx,e⟩:=main t m h h0;have:=(tF (zW gs) t 2).2 x hx;rw[e]at this;exact Nat.le_zero.1 this
theorem OS{gs:List bp}{p:bH}(h:sJ gs p=false):fF gs p=(naM,[]):=by
 obtain⟨id,set,alg,tgt,rules,kids,obls⟩:=p;unfold sJ at h;simp only[sO]at h;cases hk:oE tgt with
 |none=>grind
 |some m=>
  simp_all [jT,fF,OA,if_true]
theorem Ox(j:aS):oD j naM=j:=by simp[oD,naM]
inductive Drop:List jL→List jL→Prop
 |nil:Drop [] []
 |keep (x:jL) {a b:List jL} (h:Drop a b):Drop (x::a) (x::b)
 |skip {a b:List jL} (h:Drop a b):Drop a ((naM,[])::b)
theorem Drop.app{a b c:List jL}(h:Drop a b):Drop (c++a) (c++b):=by
 induction c with
 |nil=>exact h
 |cons x c ih=>grind [keep]
theorem Drop.join{a b:List jL}(h:Drop a b):∀j,(a.map (·.1)).foldl oD j=(b.map (·.1)).foldl oD j:=by
 induction h with
 |nil=>simp
 |keep x h ih=>grind
 |skip h ih=>grind [Ox]
theorem Drop.first{a b:List jL}(h:Drop a b):firstM (a.map (·.1))=firstM (b.map (·.1)):=by
 unfold firstM
 congr 1
 induction h with
 |nil=>rfl
 |keep x h ih=>grind
 |skip h ih=>simpa using ih
theorem Drop.only{a b:List jL}(h:Drop a b):∀j,oK (a.map (·.1)) j=oK (b.map (·.1)) j:=by
 induction h with
 |nil=>simp
 |keep x h ih=>grind [oK]
 |skip h ih=>
  intro j;have hs:zG naM=true:=ac4;simp only[List.map_cons,oK,hs,Bool.true_eq_false,if_false];rw[←ih]
  congr 1
  simp
theorem Drop.mem{a b:List jL}(h:Drop a b){m:aS}(hm:m≠naM):m∈a.map (·.1)↔m∈b.map (·.1):=by
 exact aik
theorem Drop.comb{a b:List jL}(h:Drop a b)(alg:Int):gU alg (a.map (·.1))=gU alg (b.map (·.1)):=by
 unfold gU xC;rw[h.join,h.first,h.only];simp only[h.mem (show aZ≠naM by decide),h.mem (show cE≠naM by decide)]
theorem Drop.parts{a b:List jL}(h:Drop a b)(alg:Int){m:aS}(hm:m≠naM):eR alg m a=eR alg m b:=by
 have h1:(a.find? fun x=>x.1==m)=b.find? fun x=>x.1==m:=by
  exact aik
 have h2:(a.filter fun x=>x.1==m)=b.filter fun x=>x.1==m:=by
  clear h1;exact aik
 simp only[eR,h1,h2]
theorem Drop.pU{a b:List jL}(h:Drop a b)(alg:Int)(obls:List cB)(t:Nat):pU alg obls t a=pU alg obls t b:=by
 unfold Go.Bf.pU;simp only[h.comb alg]
 by_cases hp:gU alg (b.map (·.1))=aZ
 ·rw[hp,h.parts alg ac4]
 ·by_cases hd:gU alg (b.map (·.1))=cE
  ·rw[hd,h.parts alg ac4]
  grind
mutual
theorem Bc(gs:List bp):∀p:bH,fF gs (lB gs p)=fF gs p
 |.mk id set alg tgt rules kids obls=>by
  simp only[lB,fF]
  by_cases h:mP gs tgt=0
  ·simp only[h,if_true]
  ·simp only[h,if_false]
   exact(Bd gs kids).app.pU alg obls _
theorem Bd(gs:List bp):∀l:List bH,Drop (mH gs (kg gs l)) (mH gs l)
 | []=>by simp only[kg,mH];exact .nil
 |k::r=>by
  have ih1:=Bc gs k;have ih2:=Bd gs r;simp only[kg,mH]
  by_cases h:sJ gs k=true
  ·simp only[h,if_true,mH,ih1]
   exact .keep _ ih2
  ·have h:sJ gs k=false:=by simpa using h
   simp only[h,Bool.false_eq_true,if_false,OS h];exact .skip ih2
end
def rsA(r:jL):AV:=.agg [aN r.1,aA r.2]
theorem I1(l:List cB)(m:aS)(i:Nat)(h:i<l.length):eO (l.take (i+1)) m=eO (l.take i) m++(if(l[i].on==1 && m==aZ||l[i].on==2 && m==cE)=true then [l[i]]else []):=by
 grind [eO,List.take_succ_eq_append_getElem]
theorem rf(l:List cB)(m:aS){L:List AV}(hL:L=l.map bt)(q:Perm):Weak (.agg [aN m,.sl L q]) (rsA (m,l)):=by
 subst hL;refine .agg _ _ rfl fun i a b=>?_
 rcases i with _|_|i
 ·exact ael
 ·exact afH
 grind
theorem zg(alg:Int)(m:aS)(l:List jL)(i:Nat)(h:i<l.length)(h3:alg≠3):eR alg m (l.take (i+1))=eR alg m (l.take i)++(if(l[i].1==m)=true then l[i].2 else []):=by
 unfold eR;rw[if_neg h3,if_neg h3,List.take_succ_eq_append_getElem h,List.filter_append,List.map_append,List.flatten_append]
 grind
theorem zf{m:aS}{l:List jL}(h:∀x∈l,(x.1==m)=false):eR 3 m l= []:=by
 unfold eR;rw[if_pos rfl,List.find?_eq_none.2 fun x hx=>ac1]
 rfl
theorem wP{m:aS}{l:List jL}(i:Nat)(h:i<l.length)(h1:(l[i].1==m)=true)(h2:∀j (hj:j<i),((l[j]'ac0).1==m)=false):eR 3 m l=l[i].2:=by
 unfold eR;rw[if_pos rfl,show(l.find? fun x=>x.1==m)=some l[i]from List.find?_eq_some_iff_getElem.2 ⟨h1,i,h,rfl,fun j hj=>ac1⟩]
 rfl
end Go.Bf
namespace Go.Proofs.YtfdgemhnlennbaaGreatDoor
open Go Go.Ab Go.Bf
theorem Vz:(U 131).sz=3:=adg
theorem VA:(U 107).sz=2:=adg
theorem rF(l:List cB)(hl:l.length≤1000000)(m:aS)(hpd:m=aZ∨m=cE)(h:Heap):ai Tryz.prog 246 [aA l,aN m] h fun r h' =>r=aA (eO l m)∧h' =h:=by
 have h9:M9 m:=by rcases hpd with rfl|rfl<;>decide
 have pe:=(nb h9).pe;have de:=(nb h9).de;have uO:=Vz;obtain⟨b,b1,b2⟩:∃b,(m==aZ)=b∧(m==cE)= !b:=by
  rcases hpd with rfl|rfl
  ·exact⟨true,ac4,ac4⟩
  ·exact⟨false,ac4,ac4⟩
 refine acZ Tryz.func246 36 [.tmp 4] fun hwf=>?_
 simp only[go_sem,aA,aN,acQ];refine .intro (fun q ρ H=>∃(i:Nat) (y:AV),Acc U 131 h H y ((eO (l.take i) m).map bt)∧i≤l.length∧q=l.length - i∧lk ρ 1=some (.v (.complex .f64 (hbit m.1) (hbit m.2)))∧lk ρ 5=some y∧lk ρ 8=some (.sl (l.map bt) .no)∧lk ρ 9=some (.i l.length)∧lk ρ 10=some (.i i)) l.length ?_ ?_
 ·refine⟨0,.sl [] .full,by simpa[eO]using Acc.full (.refl _),ac0,rfl,?_,?_,?_,?_,?_⟩<;>simp only[go_sem]
 ·rintro q ρ H ⟨i,y,hy,hi,rfl,r1,r5,r8,r9,r10⟩
  obtain⟨qy,eqy⟩:=hy.row;subst eqy;simp only[go_sem,r9,r10];refine .intro (fun e=>?_) (fun e=>?_)
  ·have hlt:i<l.length:=acX e
   have w1:=acW i ac0;have hsn:=I1 l m i hlt;have ix:=fun k=>fD.eq (xs:=l.map bt) (sz:=3) i adr adi k
   rw[acR]at ix;obtain⟨o,eo⟩:∃o,l[i]=o:=⟨_,rfl⟩;rw[eo]at ix hsn;simp only[bt]at ix;simp only[go_sem,r8,r10,ix];intro i7 h7;cases b
   ·cases a3:(o.on==2)
    ·cases a1:(o.on==1)
     ·simp only[go_sem,r10,a1,a3,w1]
      exact ahx
     ·simp only[go_sem,r1,r10,a1,a3,b1,pe,w1]
      exact ahx
    ·cases a1:(o.on==1)
     ·simp only[go_sem,r1,r5,a1,a3,b2,de]
      exact ahl
     ·simp only[go_sem,r1,r5,a1,a3,b1,b2,pe,de]
      exact ahl
   ·cases a1:(o.on==1)
    ·cases a3:(o.on==2)
     ·simp only[go_sem,r10,a1,a3,w1]
      exact ahx
     ·simp only[go_sem,r1,r10,a1,a3,b2,de,w1]
      exact ahx
    ·cases a3:(o.on==2)
     ·simp only[go_sem,r1,r5,a1,b1,pe]
      exact ahl
     ·simp only[go_sem,r1,r5,a1,b1,pe]
      exact ahl
  ·have hge:i=l.length:=by have:=acT e;omega
   subst hge;rw[List.take_length]at hy;simp only[go_sem,r5];exact .mk (aA (eO l m)) (by rw[List.take_length];exact .sl _ _) hy.1 ⟨rfl,rfl⟩
theorem tri{t:Nat}(h:t≤2):t=0∨t=1∨t=2:=ac0
theorem I2(r:cQ)(hr:r.obls.length≤1000000)(t c:Nat)(ht:t≤2)(hc:c≤2)(h:Heap):ai Tryz.prog 242 [aC r,.i t,.i c] h fun x h' =>x=rsA (ny r t c)∧h' =h:=by
 obtain⟨id,deny,tgt,cond,obls⟩:=r;simp only at hr;have hdp:=fun G=>rF obls hr aZ (.inl rfl) G
 have hdd:=fun G=>rF obls hr cE (.inr rfl) G
 have hip:=fun G=>yH aZ ac4 G
 have hid:=fun G=>yH cE ac4 G
 simp only[aN,aZ,cE,hbit,aA]at hdp hdd hip hid;refine acZ Tryz.func242 38 [.cell 6 107] fun hwf=>?_
 simp only[go_sem,aC];intro i3 h3;simp only[go_sem];intro i6 h6;have n63:=aH h6;have n6:=aB h6;have hs:∀x y,Ab.Sub h (upd (upd h i3 x) i6 y):=fun x y=>((Sub.refl h).put h3 x).put n6 y
 have hs2:∀x y z,Ab.Sub h (upd (upd (upd h i3 x) i6 y) i6 z):=fun x y z=>(hs x y).put n6 z
 cases deny
 ·rcases tri ht with rfl|rfl|rfl
  ·exact ah1
  ·exact aim
  ·rcases tri hc with rfl|rfl|rfl
   ·exact ah1
   ·exact aim
   ·simp only[go_sem,ak,n63.symm,aA]
    refine(hdp _).pthen ?_;simp only[go_sem];exact .mk (rsA (aZ,eO obls aZ)) (rf _ aZ rfl _) (hs _ _) ⟨rfl,rfl⟩
 ·rcases tri ht with rfl|rfl|rfl
  ·exact ah1
  ·exact ain
  ·rcases tri hc with rfl|rfl|rfl
   ·exact ah1
   ·exact ain
   ·simp only[go_sem,ak,n63.symm,aA]
    refine(hdd _).pthen ?_;simp only[go_sem];exact .mk (rsA (cE,eO obls cE)) (rf _ cE rfl _) (hs _ _) ⟨rfl,rfl⟩
theorem Me(gs:List bp)(t:ga):mP gs t≤2:=(tF (zW gs) t 2).1
theorem Lg(gs:List bp)(l:List aP):qv gs l≤2:=by
 grind [qv]
theorem I3(r:cQ)(hr:EA r)(gs:List bp)(hf:rQ gs)(h:Heap):ai Tryz.prog 207 [aC r,bI gs] h fun x h' =>x=rsA (ic gs r)∧h' =h:=by
 have hob:=(kE hr.2.2.2).1;have hmt:=fun G=>Mf r.tgt (CC hr.2.1) gs hf G
 have hcd:=fun G=>N6 r.cond hr.2.2.1 gs hf G
 have hef:=fun G=>I2 r ac0 (mP gs r.tgt) (qv gs r.cond) (Me _ _) (Lg _ _) G
 simp only[aC,bI]at hmt hcd hef;refine acZ Tryz.func207 15 [.cell 4 107] fun hwf=>?_
 simp only[go_sem,aC,bI];intro i2 h2;simp only[go_sem];intro i4 h4;have n42:=aH h4;have n4:=aB h4;obtain⟨H,eH⟩:∃H,upd (upd h i2 (some (.obj [.s r.id,.b r.deny,aV r.tgt,fq r.cond,aA r.obls] 210))) i4 (some (.obj [.v (.complex .f64 0 0),.sl [] .full] 107))=H:=⟨_,rfl⟩;have hH:Ab.Sub h H:=by rw[←eH];exact((Sub.refl h).put h2 _).put n4 _
 have g2:H i2=some (.obj [.s r.id,.b r.deny,aV r.tgt,fq r.cond,aA r.obls] 210):=agK;have g4:H i4=some (.obj [.v (.complex .f64 0 0),.sl [] .full] 107):=aeu;simp only[go_sem];rw[eH];clear eH;refine .calls (hm1 i2 (.obj [.s r.id,.b r.deny,aV r.tgt,fq r.cond,aA r.obls] 210)) [0,1,2,3,5,6,7,4,8,9,10] (.hm1 g2) ac3 rfl ?_;simp only[go_sem,gh];refine(hmt _).pthen ?_;refine⟨.hm1 g2,?_⟩;simp only[go_sem];refine(hcd _).pthen ?_;refine⟨.hm1 g2,?_⟩;simp only[go_sem];refine(hef _).pthen ?_;refine⟨.hm1 g2,?_⟩;simp only[go_sem,rsA,aA,aN,g4];refine⟨.hm1 (by rw[ag _ _ n42.symm];exact g2),?_⟩
 exact .mk _ (.refl _) (hH.put n4 _) ⟨rfl,rfl⟩
theorem Bo(l:List jL):Sized 2 (l.map rsA):=bw (f:=rsA) (fun _=>rfl) l
theorem F6{id:Txt}{set:Bool}{alg:Int}(ha:1≤alg∧alg≤6){tgt:ga}{rules:List cQ}{kids:List bH}{obls:List cB}(ho:obls.length≤1000000)(t:Nat)(ht:t=1∨t=2)(parts:List jL)(hp:∀x∈parts,M6 x.1)(hn:parts.length≤32){B:Nat}(hB:B≤10000000)(hpb:∀x∈parts,x.2.length≤B)(q:Perm)(h:Heap):
  ai Tryz.prog 208 [aM (.mk id set alg tgt rules kids obls),.i t,.sl (parts.map rsA) q] h fun r h' =>r=rsA (pU alg obls t parts)∧h' =h:=by
 have hm6:∀m∈parts.map (·.1),M6 m:=fun m hm=>by
  obtain⟨x,hx,rfl⟩:=List.mem_map.1 hm;exact hp x hx
 have hc6:M6 (gU alg (parts.map (·.1))):=Hl hm6
 have uR:=VA;have uO:=Vz;have uM:=Vy;have hall:=fun(p:Perm) (G:Heap)=>Q5 alg ha (parts.map (·.1)) (by rw[acQ];omega) hm6 p G
 simp only[jS]at hall;refine acZ Tryz.func208 84 [.cell 6 107] fun hwf=>?_
 simp only[go_sem,aM];intro i3 h3;simp only[go_sem];intro i6 h6;have n63:=aH h6;have n6' :=aB h6;obtain⟨H0,eH⟩:∃H0,upd (upd h i3 (some (.obj [.s id,.b set,.i alg,aV tgt,.sl (rules.map aC) .no,.sl (fG kids) .no,aA obls] 61))) i6 (some (.obj [.v (.complex .f64 0 0),.sl [] .full] 107))=H0:=⟨_,rfl⟩;have hH0:Ab.Sub h H0:=af1;have g3:H0 i3=some (.obj [.s id,.b set,.i alg,aV tgt,.sl (rules.map aC) .no,.sl (fG kids) .no,aA obls] 61):=by rw[←eH,ag _ _ n63.symm,ah]
 have g6:H0 i6=some (.obj [.v (.complex .f64 0 0),.sl [] .full] 107):=aeu;simp only[go_sem,acQ];rw[eH];clear eH;refine .intro (fun m ρ H=>∃(i:Nat) (y:AV),Acc U 31 H0 H y (((parts.map (·.1)).take i).map aN)∧i≤parts.length∧m=parts.length - i∧lk ρ 1=some (.i t)∧lk ρ 2=some (.sl (parts.map rsA) q)∧lk ρ 3=some (.ptr i3 0)∧lk ρ 6=some (.ptr i6 0)∧lk ρ 7=some y∧lk ρ 15=some (.sl (parts.map rsA) q)∧lk ρ 16=some (.i parts.length)∧lk ρ 17=some (.i i)) parts.length ?_ ?_
 ·refine⟨0,.sl [] .full,.full (.refl _),ac0,rfl,?_,?_,?_,?_,?_,?_,?_,?_⟩<;>simp only[go_sem]
 ·rintro m ρ H ⟨i,y,hy,hi,rfl,r1,r2,r3,r6,r7,r15,r16,r17⟩
  obtain⟨qy,eqy⟩:=hy.row;subst eqy;simp only[go_sem,r16,r17];refine .intro (fun e=>?_) (fun e=>?_)
  ·have hlt:i<parts.length:=acX e
   have w1:=acW i ac0;have hsn:((parts.map (·.1)).take (i+1)).map aN=((parts.map (·.1)).take i).map aN++ [aN parts[i].1]:=by
    rw[List.take_succ_eq_append_getElem adr,List.map_append,acR];rfl
   have ix:=fun k=>fD.eq (xs:=parts.map rsA) (sz:=2) i adr adi k
   rw[acR]at ix;obtain⟨x,ex⟩:∃x,parts[i]=x:=⟨_,rfl⟩;rw[ex]at ix hsn;simp only[rsA,aN,aA]at ix;simp only[go_sem,r15,r17,ix];intro i9 h9;simp only[go_sem,r7];refine(hy.sub (.aj h9)).app (zs:=[aN x.1]) (by rw[uM];decide) ac5 (fun k hk=>hk) (by rw[uM];exact bw (f:=aN) (fun _=>rfl) _) (by rw[uM];intro z hz;rw[List.mem_singleton.1 hz];rfl) adk fun y' H' hy' kp=>?_
   simp only[go_sem,r17,w1];refine⟨_,?_,i+1,y',by rw[hsn];exact hy',ac0,rfl,?_,?_,?_,?_,?_,?_,?_,?_⟩
   ·omega
   all_goals simp only[go_sem,r1,r2,r3,r6,r15,r16]
  ·have hge:i=parts.length:=by have:=acT e;omega
   subst hge;have htl:(parts.map (·.1)).take parts.length=parts.map (·.1):=List.take_of_length_le ac7
   rw[htl]at hy;have k3:=hy.1 _ _ g3;have k6:=hy.1 _ _ g6;have hsH:=hH0.trans hy.1;have hjp:pU alg obls t parts=if t=0 then(naM,[])else if t=1 then(gJ (gU alg (parts.map (·.1))),[])else if gU alg (parts.map (·.1))≠aZ∧gU alg (parts.map (·.1))≠cE then(gU alg (parts.map (·.1)),[])
     else(gU alg (parts.map (·.1)),eR alg (gU alg (parts.map (·.1))) parts++eO obls (gU alg (parts.map (·.1)))):=rfl
   have hple:(eR alg (gU alg (parts.map (·.1))) parts).length≤32*B+B:=ua hpb hn
   have hal:=fun G=>hall qy G
   obtain⟨m,em⟩:∃m,gU alg (parts.map (·.1))=m:=⟨_,rfl⟩
   rw[em]at hc6 hjp hal hple;have hin:=fun G=>yH m hc6.m9 G
   have npe:=(nb hc6.m9).npe;have nde:=(nb hc6.m9).nde;simp only[aN]at hal hin;rw[htl]at r7;simp only[go_sem,r3,r7,k3];refine(hal _).pthen ?_;rcases ht with rfl|rfl
   ·simp only[go_sem,r1]
    refine(hin _).pthen ?_;simp only[go_sem,r6,k6];exact .mk (rsA (gJ m,[])) (rf [] (gJ m) rfl _) (hsH.put n6' _) ⟨by rw[hjp];rfl,rfl⟩
   have k6H:=k6;cases dp:(m==aZ)
   case true=>
    have e1:m=aZ:=by simpa using dp
    have hne:¬(m≠aZ∧m≠cE):=fun hh=>hh.1 e1
    have hdu:=fun G=>rF obls ho m (.inl e1) G
    simp only[aA,aN]at hdu;simp only[go_sem,r1,npe,dp];exact ahc
   case false=>
    cases dd:(m==cE)
    case true=>
     have e1:m=cE:=by simpa using dd
     have hne:¬(m≠aZ∧m≠cE):=fun hh=>hh.2 e1
     have hdu:=fun G=>rF obls ho m (.inr e1) G
     simp only[aA,aN]at hdu;simp only[go_sem,r1,npe,nde,dp,dd];exact ahc
    case false=>
     have e1:m≠aZ:=by simpa using dp
     have e2:m≠cE:=by simpa using dd
     simp only[go_sem,r1,r6,npe,nde,dp,dd,k6];exact .mk (rsA (m,[])) (rf [] m rfl _) (hsH.put n6' _) ⟨by rw[hjp,if_neg ac4,if_neg ac4,if_pos ⟨e1,e2⟩],rfl⟩
theorem AJ:∀(n d:Nat),d+n=5→∀(p:bH),mQ d p→∀(gs:List bp),rQ gs→∀(h:Heap),ai Tryz.prog 163 [aM p,bI gs] h fun r h' =>r=rsA (fF gs p)∧h' =h
 |0,d,hd,.mk id set alg tgt rules kids obls,hE,gs,hf,h=>by
  simp only[mQ]at hE;omega
 |n+1,d,hd,.mk id set alg tgt rules kids obls,hE,gs,hf,h=>by
  have ih:=AJ n (d+1) ac0;simp only[mQ,qM]at hE;obtain⟨_,_,ha1,ha2,_,_,hT,hO,hR,hK,hRE,hKE⟩:=hE;have hob:=(kE hO).1;have hmt:=fun G=>Mf tgt (CC hT) gs hf G
  have hev:fF gs (.mk id set alg tgt rules kids obls)=if mP gs tgt=0 then(naM,[])else pU alg obls (mP gs tgt) (rules.map (ic gs)++kids.map (fF gs)):=by simp only[fF,tD]
  have hjo:=fun(ht:mP gs tgt=1∨mP gs tgt=2) (q:Perm) (G:Heap)=>F6 (id:=id) (set:=set) (alg:=alg) ⟨ha1,ha2⟩ (tgt:=tgt) (rules:=rules) (kids:=kids) (obls:=obls) ac0 (mP gs tgt) ht (rules.map (ic gs)++kids.map (fF gs)) (fun x hx=>by
   rcases List.mem_append.1 hx with hx|hx
   ·obtain⟨r,_,rfl⟩:=List.mem_map.1 hx;exact AM _ _ _
   ·obtain⟨r,_,rfl⟩:=List.mem_map.1 hx;exact B9 gs r) adH (B:=10000000) (Nat.le_refl _) (fun x hx=>by
   rcases List.mem_append.1 hx with hx|hx
   ·obtain⟨r,hr,rfl⟩:=List.mem_map.1 hx
    have h1:=AL r (mP gs r.tgt) (qv gs r.cond);have h2:=(kE (hRE r hr).2.2.2).1
    show(ny r (mP gs r.tgt) (qv gs r.cond)).2.length≤_
    omega
   ·obtain⟨r,hr,rfl⟩:=List.mem_map.1 hx
    have h1:=B8 gs n (d+1) r ac0 (hKE r hr);have h2:oB n≤oB 4:=by
     have:n≤4:=ac0;rcases(show n=0∨n=1∨n=2∨n=3∨n=4 by omega)with rfl|rfl|rfl|rfl|rfl<;>decide
    exact Nat.le_trans h1 (Nat.le_trans h2 ac4)) q G
  have hrl:=fun(r:cQ) (hr:EA r) (G:Heap)=>I3 r hr gs hf G
  have hml:=Me gs tgt;obtain⟨t,et⟩:∃t,mP gs tgt=t:=⟨_,rfl⟩;rw[et]at hmt hjo hev hml;simp only[aM,bI,aX,aV,aA]at hmt hjo hrl;have uR:=VA;refine acZ Tryz.func163 50 [.cell 4 107] fun hwf=>?_
  simp only[go_sem,aM,bI,aX,aV,aA];intro i2 h2;simp only[go_sem];intro i4 h4;have n42:=aH h4;have n4' :=aB h4;obtain⟨H0,eH⟩:∃H0,upd (upd h i2 (some (.obj [.s id,.b set,.i alg,.sl (tgt.map cU) .no,.sl (rules.map aC) .no,.sl (kids.map aM) .no,.sl (obls.map bt) .no] 61))) i4 (some (.obj [.v (.complex .f64 0 0),.sl [] .full] 107))=H0:=⟨_,rfl⟩;have hH0:Ab.Sub h H0:=af0;have g2:H0 i2=some (.obj [.s id,.b set,.i alg,.sl (tgt.map cU) .no,.sl (rules.map aC) .no,.sl (kids.map aM) .no,.sl (obls.map bt) .no] 61):=agK;have g4:H0 i4=some (.obj [.v (.complex .f64 0 0),.sl [] .full] 107):=aeu;simp only[go_sem,ak,n42.symm];rw[eH];clear eH;refine(hmt _).pthen ?_;cases dt:((t:Int)==0)
  case true=>
   have e0:t=0:=by have:(t:Int)=0:=(by simpa using dt);omega
   simp only[go_sem,dt,g4];exact .mk (rsA (naM,[])) (rf [] naM rfl _) (hH0.put n4' _) ⟨by rw[hev,if_pos e0],rfl⟩
  have ht0:t≠0:=by rintro rfl;simp at dt
  have ht12:t=1∨t=2:=ac0;rw[if_neg ht0]at hev;simp only[go_sem,dt,g2,acQ];refine .intro (fun m ρ H=>∃(i:Nat) (y:AV),Acc U 107 H0 H y (((rules.map (ic gs)).take i).map rsA)∧i≤rules.length∧m=rules.length - i∧lk ρ 1=some (.sl (gs.map ld) .no)∧lk ρ 2=some (.ptr i2 0)∧lk ρ 4=some (.ptr i4 0)∧lk ρ 5=some (.i t)∧lk ρ 6=some y∧lk ρ 19=some (.sl (rules.map aC) .no)∧lk ρ 20=some (.i rules.length)∧lk ρ 21=some (.i i)) rules.length ?_ ?_
  ·refine⟨0,.sl [] .full,.full (.refl _),ac0,rfl,?_,?_,?_,?_,?_,?_,?_,?_⟩<;>simp only[go_sem]
  ·rintro m ρ H ⟨i,y,hy,hi,rfl,r1,r2,r4,r5,r6,r19,r20,r21⟩
   obtain⟨qy,eqy⟩:=hy.row;subst eqy;simp only[go_sem,r20,r21];refine .intro (fun e=>?_) (fun e=>?_)
   ·have hlt:i<rules.length:=acX e
    have w1:=acW i ac0;have hsn:((rules.map (ic gs)).take (i+1)).map rsA=((rules.map (ic gs)).take i).map rsA++ [rsA (ic gs rules[i])]:=by
     rw[List.take_succ_eq_append_getElem adr,List.map_append,acR];rfl
    have ix:=fun k=>fD.eq (xs:=rules.map aC) (sz:=5) i adr adi k
    rw[acR]at ix;have hre:=hRE _ (acV hlt);obtain⟨x,ex⟩:∃x,rules[i]=x:=⟨_,rfl⟩;rw[ex]at ix hsn hre;have hr1:=hrl x hre;simp only[aC,aV,aA]at ix hr1;simp only[go_sem,r19,r21,ix];intro i8 h8;simp only[go_sem,r1,r6];refine(hr1 _).pthen ?_;simp only[go_sem,rsA,aN,aA];refine(hy.sub (.aj h8)).app (zs:=[rsA (ic gs x)]) (by rw[uR];decide) ac5 (fun k hk=>hk) (by rw[uR];exact Bo _) afB adk fun y' H' hy' kp=>?_
    simp only[go_sem,r21,w1];refine⟨_,?_,i+1,y',by rw[hsn];exact hy',ac0,rfl,?_,?_,?_,?_,?_,?_,?_,?_⟩
    ·omega
    all_goals simp only[go_sem,r1,r2,r4,r5,r19,r20]
   ·have hge:i=rules.length:=by have:=acT e;omega
    subst hge;have htl:(rules.map (ic gs)).take rules.length=rules.map (ic gs):=List.take_of_length_le ac7;rw[htl]at hy r6;have k2:=hy.1 _ _ g2;simp only[go_sem,r2,k2,acQ];refine .intro (fun m ρ H=>∃(i:Nat) (y:AV),Acc U 107 H0 H y ((rules.map (ic gs)++(kids.map (fF gs)).take i).map rsA)∧i≤kids.length∧m=kids.length - i∧lk ρ 1=some (.sl (gs.map ld) .no)∧lk ρ 2=some (.ptr i2 0)∧lk ρ 4=some (.ptr i4 0)∧lk ρ 5=some (.i t)∧lk ρ 6=some y∧lk ρ 33=some (.sl (kids.map aM) .no)∧lk ρ 34=some (.i kids.length)∧lk ρ 35=some (.i i)) kids.length ?_ ?_
    ·refine⟨0,_,by rw[List.take_zero,List.append_nil];exact hy,ac0,rfl,?_,?_,?_,?_,?_,?_,?_,?_⟩<;>simp only[go_sem,r1,r2,r4,r5,r6]
    ·rintro m ρ2 H2 ⟨i,y,hy,hi,rfl,s1,s2,s4,s5,s6,s33,s34,s35⟩
     obtain⟨qy,eqy⟩:=hy.row;subst eqy;simp only[go_sem,s34,s35];refine .intro (fun e=>?_) (fun e=>?_)
     ·have hlt:i<kids.length:=acX e
      have w1:=acW i ac0;have hsn:(rules.map (ic gs)++(kids.map (fF gs)).take (i+1)).map rsA=(rules.map (ic gs)++(kids.map (fF gs)).take i).map rsA++ [rsA (fF gs kids[i])]:=by
       rw[List.take_succ_eq_append_getElem adr,←List.append_assoc,List.map_append,acR];rfl
      have ix:=fun k=>fD.eq (xs:=kids.map aM) (sz:=7) i adr (by rw[acR,js]) k
      rw[acR]at ix;have hke:=hKE _ (acV hlt);obtain⟨x,ex⟩:∃x,kids[i]=x:=⟨_,rfl⟩;rw[ex]at ix hsn hke;have hr1:=ih x hke gs hf;obtain⟨kid,kset,kalg,ktgt,krules,kkids,kobls⟩:=x;simp only[aM,aV,aA,bI,aX]at ix hr1;simp only[go_sem,s33,s35,ix];intro i10 h10;simp only[go_sem,s1,s6];refine(hr1 _).pthen ?_;simp only[go_sem,rsA,aN,aA];refine(hy.sub (.aj h10)).app (zs:=[rsA (fF gs (.mk kid kset kalg ktgt krules kkids kobls))]) (by rw[uR];decide) ac5 (fun k hk=>hk) (by rw[uR];exact Bo _) afB (by simp only[go_sem,acQ,List.length_take,List.length_cons,List.length_nil,acU];omega) fun y' H' hy' kp=>?_
      simp only[go_sem,s35,w1];refine⟨_,?_,i+1,y',by rw[hsn];exact hy',ac0,rfl,?_,?_,?_,?_,?_,?_,?_,?_⟩
      ·omega
      all_goals simp only[go_sem,s1,s2,s4,s5,s33,s34]
     ·have hge:i=kids.length:=by have:=acT e;omega
      subst hge;have htl:(kids.map (fF gs)).take kids.length=kids.map (fF gs):=List.take_of_length_le ac7;rw[htl]at hy s6;have k2:=hy.1 _ _ g2;have k4:=hy.1 _ _ g4;have hj:=fun G=>hjo ht12 qy G
      rw[←hev]at hj;obtain⟨z,ez⟩:∃z,fF gs (.mk id set alg tgt rules kids obls)=z:=⟨_,rfl⟩;rw[ez]at hj;simp only[go_sem,s2,s5,s6,k2];refine(hj _).pthen ?_;simp only[go_sem,s4,rsA,aN,aA,k4];exact .mk (rsA z) (.refl _) ((hH0.trans hy.1).put n4' _) ⟨by rw[ez];rfl,rfl⟩
theorem Dg(p:bH)(hp:gy p=0)(gs:List bp)(hf:rQ gs)(h:Heap):ai Tryz.prog 104 [aM p,bI gs] h fun r h' =>r= .tup [rsA (fF gs p),.i 0]∧h' =h:=by
 have hd:=fun G=>AJ 4 1 rfl p (ri hp) gs hf G
 have hr:=fun G=>uo p G
 rw[hp]at hr;obtain⟨id,set,alg,tgt,rules,kids,obls⟩:=p;refine acZ Tryz.func104 13 [.cell 4 107,.tmp 5] fun hwf=>?_
 simp only[go_sem,aM,bI,aV,aA];intro i2 h2;simp only[go_sem];intro i4 h4;have n42:=aH h4;have n4:=aB h4;have hs:∀x y,Ab.Sub h (upd (upd h i2 x) i4 y):=fun x y=>((Sub.refl h).put h2 x).put n4 y
 simp only[go_sem,ak,n42.symm];refine(hr _).pthen ?_;simp only[go_sem,ak,n42.symm];refine(hd _).pthen ?_;simp only[go_sem,rsA,aN,aA];exact aeD
end Go.Proofs.YtfdgemhnlennbaaGreatDoor
namespace Go.Bf
open Go Go.Ab Go.Proofs.YtfdgemhnlennbaaGreatDoor
structure gY where
 err:Int
 mark:aS
 glass:Bool
 val:br
 hidden:Bool
 at_:Int
structure qf where
 op:OpD
 version:Int
 mark:aS
 glass:Bool
 obls:List cB
def PF:OpD:=⟨0,[],[],[],[],aq,0,[],[],false⟩
def xM:qf:=⟨PF,0,naM,false,[]⟩
def Ce:Txt:=[103,108,97,115,115]
def qV(s:an)(r:qg):Bool:=r.isOpen && decide (100≤s.tick - r.tick)
def L2(s:an)(subj:Txt):Bool:=s.reviews.any fun r=>r.subj==subj && qV s r
def tg(s:an)(o:OpD)(m:aS):Bool:=o.glass && (m==cE||m==naM) && yC s.roles ⟨o.subj,Ce⟩ && !L2 s o.subj
def Bp(s:an)(o:OpD)(reason:Txt):qg:=⟨(s.reviews.length:Int)+1,s.tick,o.subj,o.case,iH o.kind,reason,true⟩
def cc(s:an)(o:OpD)(reason:Txt):an:={s with reviews:=s.reviews++ [Bp s o reason]}
def jQ(l:List cB)(field:Txt):Bool:=l.any fun x=>x.kind==2 && x.arg==field
def iK(cs:List aL)(id:Txt):Nat:=cs.findIdx fun c=>c.id==id
def iS(s:an)(o:OpD)(what:Txt):an:=
 if iK s.cases o.case<s.cases.length∧o.kind≠6 then {s with cases:=s.cases.modify (iK s.cases o.case) fun c=>jo s c o.subj what} else s
def fE(o:OpD)(done:Bool)(s:an)(x:cB):an:=
 if x.kind=1∧done=true then iS s o x.arg
 else if x.kind=3 then cc s o x.arg
 else if x.kind=4 then {s with notices:=s.notices++ [⟨s.tick,o.case,x.arg⟩]}
 else s
def dG(s:an)(o:OpD)(l:List cB)(done:Bool):an:=l.foldl (fE o done) s
def sd(s:an):Bool:=decide (256<s.reviews.length)||decide (256<s.notices.length)||s.cases.any fun c=>decide (256<c.log.length)
def gK(s:an)(o:OpD):jL:=fF (fH s o) s.policy
def j5(s:an)(o:OpD):Int×Int:=if bL s o=0∧o.kind=7 then((aR o.text).2.1,(aR o.text).2.2)else(bL s o,0)
def fI(s:an)(o:OpD):Bool:=tg s o (gK s o).1
def tj(s:an)(o:OpD):Bool:=decide ((gK s o).1=aZ)||fI s o
def cZ(s:an)(o:OpD):an:=
 let s1:=if fI s o then cc s o o.reason else s
 dG (if tj s o then dS aR s1 o else s1) o (gK s o).2 (tj s o)
def pK(s:an)(o:OpD):gY:=
 ⟨if tj s o then 0 else 12,(gK s o).1,fI s o,if tj s o && o.kind==2 && !jQ (gK s o).2 o.field then eP (bx s.cases o.case).fields o.field else aq,tj s o && o.kind==2 && jQ (gK s o).2 o.field,0⟩
def aT(s:an)(o:OpD):an×gY×qf×Int:=
 if(j5 s o).1≠0 then(s,⟨(j5 s o).1,naM,false,aq,false,(j5 s o).2⟩,xM,(j5 s o).1)
 else if sd (cZ s o)then(s,⟨6,naM,false,aq,false,0⟩,xM,6)
 else(cZ s o,pK s o,⟨o,s.version,(gK s o).1,fI s o,(gK s o).2⟩,0)
theorem yS(s:an)(o:OpD)(w:Txt):(iS s o w).tick=s.tick∧(iS s o w).roles=s.roles∧(iS s o w).policy=s.policy∧(iS s o w).version=s.version∧(iS s o w).reviews=s.reviews∧(iS s o w).notices=s.notices:=by
 grind [iS]
theorem Dc(o:OpD)(done:Bool)(s:an)(x:cB):(fE o done s x).tick=s.tick∧(fE o done s x).roles=s.roles∧(fE o done s x).policy=s.policy∧(fE o done s x).version=s.version:=by
 unfold fE;split
 ·grind [yS]
 ·split
  ·exact⟨rfl,rfl,rfl,rfl⟩
  grind
theorem FB(o:OpD)(done:Bool):∀(l:List cB) (s:an),(dG s o l done).tick=s.tick∧(dG s o l done).roles=s.roles∧(dG s o l done).policy=s.policy∧(dG s o l done).version=s.version
 | [],s=>⟨rfl,rfl,rfl,rfl⟩
 |x::l,s=>by
  obtain⟨a1,a2,a3,a4⟩:=Dc o done s x;obtain⟨b1,b2,b3,b4⟩:=FB o done l (fE o done s x);exact⟨b1.trans a1,b2.trans a2,b3.trans a3,b4.trans a4⟩
def gI(o:OpD)(a b:List qg):Prop:=∃c,b=a++c∧∀i (h:i<c.length),c[i].id=((a.length+i+1:Nat):Int)∧c[i].isOpen=true∧c[i].subj=o.subj
theorem gI.refl(o:OpD)(a:List qg):gI o a a:=⟨[],ac7,fun i h=>adU⟩
theorem gI.trans{o:OpD}{a b c:List qg}(h1:gI o a b)(h2:gI o b c):gI o a c:=by
 obtain⟨x,rfl,hx⟩:=h1;obtain⟨y,rfl,hy⟩:=h2;refine⟨x++y,ac7,fun i h=>?_⟩
 grind
theorem gI.open(s:an)(o:OpD)(w:Txt):gI o s.reviews (cc s o w).reviews:=⟨[Bp s o w],rfl,fun i h=>by
 have:i=0:=ac1;subst this;exact⟨adg,rfl,rfl⟩⟩
theorem gI.duties(o:OpD)(done:Bool):∀(l:List cB) (s:an),gI o s.reviews (dG s o l done).reviews
 | [],s=> .refl o _
 |x::l,s=>by
  have:gI o s.reviews (fE o done s x).reviews:=by
   unfold fE;split
   ·grind [yS,refl]
   ·split
    ·exact .open s o _
    grind [refl]
  exact this.trans (gI.duties o done l _)
structure GY (c:aL):Prop where
 id:bl c.id=true
 owner:bl c.owner=true
 state:c.state∈pN
 asc:E7 c.fields
 nfields:c.fields.length≤16
 field:∀f∈c.fields,bl f.name=true∧bz f.val=true∧eqV f.val aq=false
 log1:1≤c.log.length
 actor:∀x∈c.log,bl x.actor=true∧i64 x.tick
theorem uB.w{c:aL}(h:uB c):GY c:=⟨h.id,h.owner,h.state,h.asc,h.nfields,h.field,h.log1,h.actor⟩
theorem GY.ok{c:aL}(h:GY c)(hl:c.log.length≤256):uB c:=⟨h.id,h.owner,h.state,h.asc,h.nfields,h.field,h.log1,hl,h.actor⟩
structure lM (k:Nat) (s:an):Prop where
 tick:0≤s.tick∧s.tick≤1099511627776
 asc:Asc s.cases
 ncases:s.cases.length≤64
 case:∀c∈s.cases,GY c
 roles:s.roles.length≤64
 role:∀r∈s.roles,bl r.subj=true∧bl r.role=true
 pol:gy s.policy=0
 ver:0≤s.version∧s.version≤k
theorem dD.w{k:Nat}{s:an}(h:dD k s):lM k s:=⟨h.tick,h.asc,h.ncases,fun c hc=>(h.case c hc).w,h.roles,h.role,h.pol,h.ver⟩
theorem lM.ok{k:Nat}{s:an}(h:lM k s)(ho:sd s=false):dD k s:=by
 unfold sd at ho;simp only[Bool.or_eq_false_iff,decide_eq_false_iff_not]at ho;refine⟨h.tick,h.asc,h.ncases,fun c hc=>(h.case c hc).ok ?_,ac0,ac0,h.roles,h.role,h.pol,h.ver⟩
 grind
theorem GN{k:Nat}{s:an}(o:OpD)(w:Txt)(h:lM k s):lM k (cc s o w):={h with}
theorem GM{k:Nat}{s:an}{o:OpD}(hn:bl o.subj=true)(w:Txt)(h:lM k s):lM k (iS s o w):=by
 unfold iS;split
 ·refine {h with asc:=BY (kD fun x=>rfl) h.asc,ncases:=by simpa using h.ncases,case:= ?_}
  intro d hd;rcases mem_modify hd with hd|⟨hi,rfl⟩
  ·exact h.case d hd
  ·have hc:=h.case _ (acV hi)
   refine⟨hc.id,hc.owner,hc.state,hc.asc,hc.nfields,hc.field,ahb,?_⟩;intro x hx;simp only[jo,List.mem_append,List.mem_singleton]at hx;rcases hx with hx|rfl
   ·exact hc.actor x hx
   ·exact⟨hn,by have:=h.tick;constructor<;>simp only<;>omega⟩
 omega
theorem GL{k:Nat}{o:OpD}(hn:bl o.subj=true)(done:Bool){s:an}(x:cB)(h:lM k s):lM k (fE o done s x):=by
 unfold fE;split
 ·grind [GM]
 ·split
  ·grind [GN]
  ·split
   ·exact {h with}
   omega
theorem uq{k:Nat}{o:OpD}(hn:bl o.subj=true)(done:Bool):∀(l:List cB) {s:an},lM k s→lM k (dG s o l done)
 | [],s,h=>h
 |x::l,s,h=>uq hn done l (GL hn done x h)
theorem Ct{k:Nat}{s:an}(o:OpD)(w:Txt)(h:dD k s)(hr:s.reviews.length≤999):dD k (cc s o w):={h with nrev:=by grind [cc]}
structure kM (k:Nat) (s:an):Prop extends dD k s where
 ids:∀i (h:i<s.reviews.length),s.reviews[i].id=((i+1:Nat):Int)
 nr:s.reviews.length≤256
 nn:s.notices.length≤256
theorem Jt:kM 0 yZ:={Kl with ids:=fun i h=>adU,nr:=ac4,nn:=ac4}
theorem uf{s:an}{o:OpD}(h:(j5 s o).1=0):bL s o=0∧cV o=true∧(o.kind=7→(aR o.text).2.1=0):=by
 unfold j5 at h;have hr:bL s o=0:=by
  grind
 have hf:cV o=true:=by
  unfold bL at hr
  grind
 exact⟨hr,hf,fun hk=>ac1⟩
theorem K6{k:Nat}{s:an}{o:OpD}(h:kM k s)(hp:(j5 s o).1=0):lM (k+1) (cZ s o):=by
 have hn:=(tG (uf hp).2.1).subj;have h1:dD k (if fI s o then cc s o o.reason else s):=by
  split
  ·exact Ct o _ h.todD (by have:=h.nr;omega)
  ·exact h.todD
 refine uq hn _ _ ?_;split
 ·exact(pO o h1).w
 ·have:=h1.w
  exact {this with ver:=⟨this.ver.1,by have:=this.ver.2;omega⟩}
def shut(r:qg):qg:={r with isOpen:=false}
theorem uS(par:Txt→bH×Int×Int)(s:an)(o:OpD):(dS par s o).reviews=if bL s o=0∧o.kind=5 then s.reviews.modify (o.review - 1).toNat shut else s.reviews:=by
 unfold dS
 by_cases hr:bL s o=0
 ·rw[if_pos hr]
  unfold doD
  by_cases k1:o.kind=1
  ·grind
  ·by_cases k3:o.kind=3
   ·grind
   ·by_cases k4:o.kind=4
    ·grind
    ·by_cases k5:o.kind=5
     ·simp[k5,hr];rfl
     grind
 grind
theorem yw{o:OpD}(h:cV o=true)(hg:o.glass=true):1≤o.kind∧o.kind≤4:=by
 simp_all [cV,Bool.and_eq_true,me,if_true,vl,decide_eq_true_eq]
theorem Ds{s:an}{o:OpD}(h:fI s o=true):o.glass=true:=by
 simp_all [fI,tg,Bool.and_eq_true]
structure Fa (s:an) (o:OpD) (t:an) (r:gY) (e:Int):Prop where
 len:s.reviews.length≤t.reviews.length
 old:∀i (h:i<s.reviews.length) (h' :i<t.reviews.length),(e=0∧r.err=0∧o.kind=5∧o.review=((i+1:Nat):Int)→o.subj≠s.reviews[i].subj∧s.reviews[i].isOpen=true∧t.reviews[i].isOpen=false∧t.reviews[i].id=s.reviews[i].id)∧
  (¬(e=0∧r.err=0∧o.kind=5∧o.review=((i+1:Nat):Int))→t.reviews[i]=s.reviews[i])
 new:∀i (h:i<t.reviews.length),s.reviews.length≤i→t.reviews[i].id=((i+1:Nat):Int)∧t.reviews[i].isOpen=true∧t.reviews[i].subj=o.subj
 glass:r.glass=true→∃h:s.reviews.length<t.reviews.length,t.reviews[s.reviews.length].reason=o.reason
theorem Fa.same(s:an)(o:OpD)(e:Int)(r:gY)(he:e≠0)(hg:r.glass=false):Fa s o s r e:=
 ⟨Nat.le_refl _,fun i h h' =>⟨fun hc=>(he hc.1).elim,fun _=>rfl⟩,fun i h h' =>ac0,fun h=>ac1⟩
theorem HW{o:OpD}{a b:List qg}(h:gI o a b):a.length≤b.length∧(∀i (h1:i<a.length) (h2:i<b.length),b[i]=a[i])∧∀i (h1:i<b.length),a.length≤i→b[i].id=((i+1:Nat):Int)∧b[i].isOpen=true∧b[i].subj=o.subj:=by
 obtain⟨c,rfl,hc⟩:=h;refine⟨ac7,fun i h1 h2=>ac1,fun i h1 h2=>?_⟩
 grind
theorem C3{s:an}{o:OpD}(hr:bL s o=0)(hf:cV o=true)(hk:o.kind=5):1≤o.review∧∃h:(o.review - 1).toNat<s.reviews.length,s.reviews[(o.review - 1).toNat].isOpen=true∧s.reviews[(o.review - 1).toNat].subj≠o.subj:=by
 have F:=tG hf;have hok:=F.ok;unfold okD at hok;simp only[hk,show¬(5:Int)=1 by decide,show¬((5:Int)=2∨(5:Int)=6) by decide,show¬(5:Int)=3 by decide,show¬(5:Int)=4 by decide,if_false,if_true,decide_eq_true_eq]at hok
 unfold bL at hr;simp only[hk,Bool.true_eq_false,show¬(5:Int)=1 by decide,show¬(2≤(5:Int)∧(5:Int)≤4) by decide,if_false,if_true]at hr
 unfold fP wQ at hr;rw[if_pos (by omega:1≤o.review)]at hr
 refine⟨ac0,?_⟩;cases hx:s.reviews[(o.review - 1).toNat]? with
 |none=>simp_all
 |some r=>
  rw[hx]at hr;obtain⟨h,rfl⟩:=List.getElem?_eq_some_iff.1 hx;refine⟨h,?_,?_⟩
  ·grind
  ·intro e
   simp only[e,if_true]at hr;omega
theorem Gu{k:Nat}{s:an}{o:OpD}(h:kM k s):Fa s o (aT s o).1 (aT s o).2.1 (aT s o).2.2.2:=by
 unfold aT
 by_cases hp:(j5 s o).1=0
 ·rw[if_neg ac0]
  by_cases ho:sd (cZ s o)=true
  ·rw[if_pos ho];exact .same _ _ _ _ ac7 rfl
  ·rw[if_neg ho]
   obtain⟨hr,hf,_⟩:=uf hp;simp only
   by_cases hk:o.kind=5
   ·have hg:fI s o=false:=by
     cases hg:fI s o with
     |false=>rfl
     |true=>have:=yw hf (Ds hg);omega
    obtain⟨hv1,hlt,hop,hsu⟩:=C3 hr hf hk
    by_cases hd:tj s o=true
    ·have hb:cZ s o=dG (dS aR s o) o (gK s o).2 true:=by
      grind [cZ]
     have hrev:(dS aR s o).reviews=s.reviews.modify (o.review - 1).toNat shut:=by
      simp_all [uS,if_pos]
     have hon:=gI.duties o true (gK s o).2 (dS aR s o);rw[←hb,hrev]at hon;obtain⟨a1,a2,a3⟩:=HW hon;have hlm:(s.reviews.modify (o.review - 1).toNat shut).length=s.reviews.length:=ac7;rw[hlm]at a1;refine⟨a1,fun i h1 h2=>⟨fun hc=>?_,fun hc=>?_⟩,fun i h1 h2=>a3 i h1 ac0,fun hgl=>?_⟩
     ·have hi:(o.review - 1).toNat=i:=by omega
      subst hi;rw[a2 _ ac0 h2,List.getElem_modify,if_pos rfl];exact⟨fun e=>hsu e.symm,hop,rfl,rfl⟩
     ·have hi:(o.review - 1).toNat≠i:=fun e=>hc ⟨rfl,by simp[pK,hd],hk,ac0⟩
      rw[a2 _ ac0 h2,List.getElem_modify,if_neg hi]
     simp_all [pK]
    ·have hd:tj s o=false:=by grind
     have hb:cZ s o=dG s o (gK s o).2 false:=by
      grind [cZ]
     have hon:=gI.duties o false (gK s o).2 s;rw[←hb]at hon;obtain⟨a1,a2,a3⟩:=HW hon;refine⟨a1,fun i h1 h2=>⟨fun hc=>?_,fun hc=>a2 i h1 h2⟩,a3,fun hgl=>?_⟩
     ·simp_all [pK]
     simp_all [pK]
   ·have hs1:gI o s.reviews (if fI s o then cc s o o.reason else s).reviews:=by
     split
     ·exact .open s o _
     ·exact .refl o _
    have hs2:(if tj s o then dS aR (if fI s o then cc s o o.reason else s) o else(if fI s o then cc s o o.reason else s)).reviews=(if fI s o then cc s o o.reason else s).reviews:=by
     split
     ·simp_all [uS,if_neg]
     ·rfl
    have hd:=gI.duties o (tj s o) (gK s o).2 (if tj s o then dS aR (if fI s o then cc s o o.reason else s) o else(if fI s o then cc s o o.reason else s))
    rw[hs2]at hd;have hon:gI o s.reviews (cZ s o).reviews:=hs1.trans hd;obtain⟨a1,a2,a3⟩:=HW hon;refine⟨a1,fun i h1 h2=>⟨fun hc=>(hk hc.2.2.1).elim,fun hc=>a2 i h1 h2⟩,a3,fun hgl=>?_⟩
    have hg:fI s o=true:=hgl;have hd' :=hd;simp only[hg,↓reduceIte]at hd';obtain⟨b1,b2,_⟩:=HW hd';have hb:(cZ s o)=dG (if tj s o then dS aR (cc s o o.reason) o else cc s o o.reason) o (gK s o).2 (tj s o):=by
     grind [cZ]
    rw[←hb]at b1 b2;have hl:(cc s o o.reason).reviews.length=s.reviews.length+1:=by simp[cc]
    refine⟨ac0,?_⟩
    grind [cc,Bp]
 ·rw[if_pos ac0]
  exact .same _ _ _ _ ac0 rfl
theorem kM.up{k:Nat}{s:an}(h:kM k s):kM (k+1) s:={h with ver:=⟨h.ver.1,by have:=h.ver.2;omega⟩}
theorem FT{k:Nat}{s:an}(o:OpD)(h:kM k s):kM (k+1) (aT s o).1:=by
 have hrl:=Gu (o:=o) h;unfold aT at hrl⊢
 by_cases hp:(j5 s o).1=0
 ·rw[if_neg ac0]at hrl⊢
  by_cases ho:sd (cZ s o)=true
  ·rw[if_pos ho];exact h.up
  ·rw[if_neg ho]at hrl⊢
   have ho:sd (cZ s o)=false:=ac1;have hw:=(K6 h hp).ok ho;unfold sd at ho;refine {hw with ids:=fun i hi=>?_,nr:=ac1,nn:=ac1}
   by_cases hlt:i<s.reviews.length
   ·obtain⟨h1,h2⟩:=hrl.old i hlt hi
    by_cases hc:(0:Int)=0∧(pK s o).err=0∧o.kind=5∧o.review=((i+1:Nat):Int)
    ·rw[(h1 hc).2.2.2];exact h.ids i hlt
    ·rw[h2 hc];exact h.ids i hlt
   ·exact(hrl.new i hi ac0).1
 ·rw[if_pos ac0];exact h.up
structure VN (s:an) (o:OpD):Prop where
 err:(aT s o).2.2.2≠0→(aT s o).1=s∧(aT s o).2.1.err=(aT s o).2.2.2∧(aT s o).2.1.mark=naM
 ok:(aT s o).2.2.2=0→(aT s o).2.1.mark=(gK s o).1∧(aT s o).2.2.1=⟨o,s.version,(gK s o).1,fI s o,(gK s o).2⟩∧(aT s o).2.1.glass=fI s o∧(aT s o).1=cZ s o∧(aT s o).2.1=pK s o
theorem yf(o:OpD)(done:Bool):∀(l:List cB) (s:an),(dG s o l done).cases.length=s.cases.length
 | [],s=>rfl
 |x::l,s=>by
  have:(fE o done s x).cases.length=s.cases.length:=by
   unfold fE;split
   ·grind [iS]
   ·split
    ·rfl
    grind
  exact(yf o done l _).trans this
def rep(n:Nat)(t:Txt):Txt:=(List.replicate n t).flatten
def MLe(a b:eu):Prop:=(∀x∈a.met,x∈b.met)∧a.rules≤b.rules
theorem MLe.refl(a:eu):MLe a a:=⟨fun _ h=>h,Nat.le_refl _⟩
theorem MLe.trans{a b c:eu}(h1:MLe a b)(h2:MLe b c):MLe a c:=⟨fun x h=>h2.1 x (h1.1 x h),Nat.le_trans h1.2 h2.2⟩
theorem HP{a b b' :eu}{s:Txt}(h:MLe a b)(hm:jg b s=some b'):∃a',jg a s=some a'∧MLe a' b' :=by
 unfold jg at hm⊢;split at hm
 ·rename_i hc
  cases hm;refine⟨_,if_pos ⟨fun hx=>hc.1 (h.1 s hx),hc.2⟩,fun x hx=>?_,h.2⟩
  rcases List.mem_append.1 hx with hx|hx
  ·exact List.mem_append.2 (.inl (h.1 x hx))
  grind
 grind
theorem HQ{b b' :eu}{s:Txt}(hm:jg b s=some b'):MLe b b' :=by
 unfold jg at hm;split at hm
 ·cases hm;exact⟨fun x hx=>List.mem_append.2 (.inl hx),Nat.le_refl _⟩
 grind
theorem oH{e:Int}{w:Went}{m:eu}(h:need e w= .ok m):e=0∧w= .ok m:=by
 grind [need]
theorem Pa{a b b' :eu}{r:cQ}(h:MLe a b)(hr:gu b r= .ok b'):(∃a',gu a r= .ok a'∧MLe a' b')∧MLe b b' :=by
 unfold gu at hr⊢;cases hm:jg b r.id with
 |none=>grind
 |some m=>
  rw[hm]at hr;obtain⟨a',ha,hl⟩:=HP h hm;simp only at hr;split at hr
  ·grind
  ·obtain⟨e1,hr⟩:=oH hr
   obtain⟨e2,hr⟩:=oH hr;obtain⟨e3,hr⟩:=oH hr;cases hr;have hup:=HQ hm;refine⟨⟨⟨a'.met,a'.rules+1⟩,?_,hl.1,by have:=hl.2;simp only;omega⟩,hup.1,by have:=hup.2;simp only;omega⟩
   rw[ha];have:=hl.2;simp only[e1,e2,e3,need,if_true];rw[if_neg ac0]
theorem EC:∀(l:List cQ) {a b b' :eu},MLe a b→fA b l= .ok b'→(∃a',fA a l= .ok a'∧MLe a' b')∧MLe b b'
 | [],a,b,b',h,hr=>by
  cases hr;exact⟨⟨a,rfl,h⟩,.refl _⟩
 |r::l,a,b,b',h,hr=>by
  simp only[fA]at hr⊢;cases hw:gu b r with
  |bad e=>grind
  |ok m=>
   rw[hw]at hr;obtain⟨⟨a',ha,hl⟩,hu⟩:=Pa h hw;obtain⟨⟨a'',ha',hl'⟩,hu'⟩:=EC l hl hr;exact⟨⟨a'',ac1,hl'⟩,hu.trans hu'⟩
theorem Oq{a b b' :eu}{id:Txt}{set:Bool}{alg:Int}{tgt:ga}{nr nk nk' :Nat}{obls:List cB}(h:MLe a b)(hk:nk'≤nk)(hr:fj b id set alg tgt nr nk obls= .ok b'):(∃a',fj a id set alg tgt nr nk' obls= .ok a'∧MLe a' b')∧MLe b b' :=by
 unfold fj at hr⊢;cases hm:jg b id with
 |none=>rw[hm]at hr;cases hr
 |some m=>
  rw[hm]at hr;obtain⟨a',ha,hl⟩:=HP h hm;simp only at hr;split at hr
  ·cases hr
  ·rename_i h1
   split at hr
   ·cases hr
   ·rename_i h2
    obtain⟨e1,hr⟩:=oH hr;obtain⟨e2,hr⟩:=oH hr;split at hr
    ·cases hr
    ·rename_i h3
     cases hr;refine⟨⟨a',?_,hl⟩,HQ hm⟩;rw[ha];have h2' :¬(set=true∧nr>0∨set=false∧(nk' >0∨alg=4)):=by
      rintro(⟨p,q⟩|⟨p,q|q⟩)
      ·exact h2 (.inl ⟨p,q⟩)
      ·exact h2 (.inr ⟨p,.inl ac0⟩)
      ·exact h2 (.inr ⟨p,.inr q⟩)
     simp only[if_neg h1,if_neg h2',e1,e2,need,if_true];rw[if_neg ac0]
theorem Eh(gs:List bp):∀l:List bH,(kg gs l).length≤l.length
 | []=>by simp[kg]
 |k::r=>by
  have:=Eh gs r;simp only[kg];split<;>simp<;>omega
mutual
theorem Ej(gs:List bp):∀(p:bH) (d:Nat) {a b b' :eu},MLe a b→kG b d p= .ok b'→(∃a',kG a d (lB gs p)= .ok a'∧MLe a' b')∧MLe b b'
 |.mk id set alg tgt rules kids obls,d,a,b,b',h,hr=>by
  simp only[kG,lB]at hr⊢;split at hr
  ·cases hr
  ·rename_i hd
   rw[if_neg hd];cases hh:fj b id set alg tgt rules.length kids.length obls with
   |bad e=>rw[hh]at hr;cases hr
   |ok m=>
    rw[hh]at hr;simp only at hr;obtain⟨⟨a1,ha1,hl1⟩,hu1⟩:=Oq h (Eh gs kids) hh;cases hw:fA m rules with
    |bad e=>rw[hw]at hr;cases hr
    |ok m2=>
     rw[hw]at hr;simp only at hr;obtain⟨⟨a2,ha2,hl2⟩,hu2⟩:=EC rules hl1 hw;obtain⟨⟨a3,ha3,hl3⟩,hu3⟩:=ve gs kids (d+1) hl2 hr;refine⟨⟨a3,?_,hl3⟩,(hu1.trans hu2).trans hu3⟩;rw[ha1];simp only[ha2];exact ha3
theorem ve(gs:List bp):∀(l:List bH) (d:Nat) {a b b' :eu},MLe a b→iR b d l= .ok b'→(∃a',iR a d (kg gs l)= .ok a'∧MLe a' b')∧MLe b b'
 | [],d,a,b,b',h,hr=>by
  simp only[iR,kg]at hr⊢;cases hr;exact⟨⟨a,rfl,h⟩,.refl _⟩
 |k::r,d,a,b,b',h,hr=>by
  simp only[iR]at hr;cases hw:kG b d k with
  |bad e=>rw[hw]at hr;cases hr
  |ok m=>
   rw[hw]at hr;simp only at hr;obtain⟨⟨a1,ha1,hl1⟩,hu1⟩:=Ej gs k d h hw;simp only[kg];split
   ·obtain⟨⟨a2,ha2,hl2⟩,hu2⟩:=ve gs r d hl1 hr
    refine⟨⟨a2,?_,hl2⟩,hu1.trans hu2⟩;simp only[iR,ha1];exact ha2
   ·obtain⟨⟨a2,ha2,hl2⟩,hu2⟩:=ve gs r d (h.trans hu1) hr
    exact⟨⟨a2,ha2,hl2⟩,hu1.trans hu2⟩
end
theorem Gv(gs:List bp){p:bH}(h:gy p=0):gy (lB gs p)=0:=by
 unfold gy at*;cases hw:kG ⟨[],0⟩ 1 p with
 |bad e=>
  have:=ue 4 1 _ _ e rfl hw;rw[hw]at h;exact(this h).elim
 |ok m=>
  obtain⟨⟨a,ha,_⟩,_⟩:=Ej gs p 1 (.refl _) hw;rw[ha];rfl
def VI:bO:=⟨⟨0,[],false⟩,0,aq⟩
def Oz(k:Option bO):AV:=match k with
 |some m=> .tup [dM m,.b true]
 |none=> .tup [dM VI,.b false]
theorem LZ{x:List (List bO)}{r:ga}(h:x.length≠1):oE (x::r)=oE r:=by
 match x,h with
 | [],_=>rfl
 | [l],h=>exact(h rfl).elim
 |a::b::c,_=>rfl
theorem LY{l:List bO}{r:ga}(h:(l.find? fun m=>m.op==1 && !m.attr.must)=none):oE ([l]::r)=oE r:=by
 grind [oE]
theorem L0{l:List bO}{r:ga}{m:bO}(h:(l.find? fun m=>m.op==1 && !m.attr.must)=some m):oE ([l]::r)=some m:=by
 grind [oE]
theorem Eg(gs:List bp):∀l:List bH,kg gs l=(l.filter (sJ gs)).map (lB gs)
 | []=>adg
 |k::r=>by
  simp only[kg,List.filter_cons,Eg gs r]
  grind
def ixP(gs:List bp)(l:List bH)(n:Nat):List Nat:=(List.range n).filter fun j=>sJ gs (l.getD j lP)
theorem DH(gs:List bp)(l:List bH){n:Nat}(h:n<l.length):ixP gs l (n+1)=ixP gs l n++(if sJ gs l[n]=true then [n]else []):=by
 grind [ixP,List.range_succ,List.getD,List.getElem?_eq_getElem]
theorem DI(gs:List bp)(l:List bH):∀n:Nat,n≤l.length→(ixP gs l n).map (fun j=>l.getD j lP)=(l.take n).filter (sJ gs)
 |0,_=>adg
 |n+1,h=>by
  have hlt:n<l.length:=ac0;rw[DH gs l hlt,List.map_append,DI gs l n ac0,List.take_succ_eq_append_getElem hlt,List.filter_append,List.filter_cons]
  congr 1
  grind
theorem RQ{gs:List bp}{l:List bH}{n j:Nat}(h:j∈ixP gs l n):j<n:=List.mem_range.1 (List.mem_filter.1 h).1
theorem HK(gs:List bp)(l:List bH)(n:Nat):(ixP gs l n).length≤n:=by
 grind [ixP,Nat.le_trans,List.length_filter_le]
theorem LS(gs:List bp)(l:List bH):(ixP gs l l.length).map (fun j=>lB gs (l.getD j lP))=kg gs l:=by
 rw[Eg,←List.take_length (l:=l),←DI gs l l.length (Nat.le_refl _),List.map_map,List.take_length];rfl
theorem oF(m:bO):dM m= .agg [.i m.attr.cat,.s m.attr.name,.b m.attr.must,.i m.op,.i m.val.kind,.i m.val.n,.s m.val.s]:=rfl
end Go.Bf
namespace Go.Proofs.YtfdgemhnlennbaaGreatDoor
open Go Go.Ab Go.Bf
theorem RT(t:ga)(ht:NL t)(h:Heap):ai Tryz.prog 209 [aV t] h fun r h' =>r=Oz (oE t)∧h' =h:=by
 have htl:=ht.1;refine acZ Tryz.func209 38 [.cell 2 265,.tmp 3] fun hwf=>?_
 simp only[go_sem,aV];intro i2 h2;simp only[go_sem,acQ];have hH0:∀x,Ab.Sub h (upd h i2 x):=fun x=> .aj h2
 refine .intro (fun m ρ H=>Ab.Sub h H∧H i2=some (.obj [.i 0,.s [],.b false,.i 0,.i 0,.i 0,.s []] 265)∧∃i:Nat,i≤t.length∧m=t.length - i∧oE (t.drop i)=oE t∧lk ρ 2=some (.ptr i2 0)∧lk ρ 8=some (.sl (t.map cU) .no)∧lk ρ 9=some (.i t.length)∧lk ρ 10=some (.i i)) t.length ?_ ?_
 ·refine⟨hH0 _,ah ..,0,ac0,rfl,rfl,?_,?_,?_,?_⟩<;>simp only[go_sem]
 ·rintro m ρ H ⟨hs,k2,i,hi,rfl,hk,r2,r8,r9,r10⟩
  simp only[go_sem,r9,r10];refine .intro (fun e=>?_) (fun e=>?_)
  ·have hlt:i<t.length:=acX e
   have w1:IntKind.i64.wrap ((i:Int)+1)=((i+1:Nat):Int):=adf;rw[List.drop_eq_getElem_cons hlt]at hk;have hxl:=(ht.2 _ (acV hlt)).2;have ix:=fun k=>fD.eq (xs:=t.map cU) (sz:=1) i ac1 adi k
   rw[acR]at ix;obtain⟨x,ex⟩:∃x,t[i]=x:=⟨_,rfl⟩;rw[ex]at ix hk hxl;simp only[cU]at ix;cases d1:((x.length:Int) !=1)
   case true=>
    have hx1:x.length≠1:=ac1;rw[LZ hx1]at hk;simp only[go_sem,r8,r10,ix,acQ,d1,w1];refine⟨_,?_,hs,k2,i+1,ac0,rfl,hk,?_,?_,?_,?_⟩
    ·omega
    all_goals simp only[go_sem,r2,r8,r9]
   have hx1:x.length=1:=ac1;obtain⟨l,rfl⟩:=List.length_eq_one_iff.1 hx1;have hll:=hxl l (List.mem_singleton.2 rfl);have iy:=fun k=>fD.eq (xs:=[iU l]) (sz:=1) 0 ac7 rfl k
   simp only[List.getElem_cons_zero,iU,Int.natCast_zero]at iy;simp only[go_sem,r8,r10,ix,acQ,List.length_cons,List.length_nil,List.map_cons,List.map_nil,iU,iy];refine .intro (fun m ρ2 H2=>Ab.Sub h H2∧H2 i2=some (.obj [.i 0,.s [],.b false,.i 0,.i 0,.i 0,.s []] 265)∧∃j:Nat,j≤l.length∧m=l.length - j∧(∀k (h1:k<l.length),k<j→(l[k].op==1 && !l[k].attr.must)=false)∧lk ρ2 2=some (.ptr i2 0)∧lk ρ2 8=some (.sl (t.map cU) .no)∧lk ρ2 9=some (.i t.length)∧lk ρ2 10=some (.i i)∧lk ρ2 19=some (.sl (l.map dM) .no)∧lk ρ2 20=some (.i l.length)∧lk ρ2 21=some (.i j)) l.length ?_ ?_
   ·refine⟨hs,k2,0,ac0,rfl,fun k _ hk=>ac0,?_,?_,?_,?_,?_,?_,?_⟩<;>simp only[go_sem,r2,r8,r9,r10]
   ·rintro m ρ2 H2 ⟨hs2,k2,j,hj,rfl,hc,s2,s8,s9,s10,s19,s20,s21⟩
    simp only[go_sem,s20,s21];refine .intro (fun e=>?_) (fun e=>?_)
    ·have hlt2:j<l.length:=acX e
     have w2:IntKind.i64.wrap ((j:Int)+1)=((j+1:Nat):Int):=adf;have iz:=fun k=>fD.eq (xs:=l.map dM) (sz:=7) j ac1 adi k
     rw[acR]at iz;have hci:=fun(d:(l[j].op==1 && !l[j].attr.must)=false)=>(fun k (h1:k<l.length) (hk:k<j+1)=>(by
      grind:(l[k].op==1 && !l[k].attr.must)=false))
     have hat:=fun(d:(l[j].op==1 && !l[j].attr.must)=true)=>(List.find?_eq_some_iff_getElem.2 ⟨d,j,hlt2,rfl,fun k hk=>ac1⟩:(l.find? fun m=>m.op==1 && !m.attr.must)=some l[j])
     obtain⟨z,ez⟩:∃z,l[j]=z:=⟨_,rfl⟩;rw[ez]at iz hci hat;simp only[oF]at iz;simp only[go_sem,s19,s21,iz];intro i7 h7;have n72:i7≠i2:=fun e=>ac1
     cases a1:(z.op==1)
     ·exact ahT
     ·cases a2:z.attr.must
      ·have hkk:=hk.symm.trans (L0 (hat ac1))
       simp only[go_sem,s2,a1,ak,n72.symm,k2];exact .mk _ (.refl _) ((hs2.trans (.aj h7)).put h2 _) ⟨by rw[hkk];simp only[Oz,oF,a2];rfl,rfl⟩
      ·exact ahT
    ·have hge:j=l.length:=by grind
     subst hge;rw[LY (List.find?_eq_none.2 fun z hz=>by
      obtain⟨k,hk,rfl⟩:=List.mem_iff_getElem.1 hz
      grind)]at hk
     simp only[go_sem,s10,w1];refine⟨_,?_,hs2,k2,i+1,ac0,rfl,hk,?_,?_,?_,?_⟩
     ·omega
     all_goals simp only[go_sem,s2,s8,s9]
  ·have hge:i=t.length:=by grind
   subst hge;rw[List.drop_length]at hk;simp only[go_sem,r2,k2];exact .mk _ (.refl _) (hs.put h2 _) ⟨by rw[←hk];rfl,rfl⟩
theorem JM{gs:List bp}{p:bH}(h:oE (sO p)=none):sJ gs p=true:=by grind [sJ]
theorem JN{gs:List bp}{p:bH}{m:bO}(h:oE (sO p)=some m):sJ gs p=decide (jT gs m≠0):=by grind [sJ]
def tP(n:Nat):AV:=.i n
theorem Mz(l:List bH)(hl:l.length≤1000)(ht:∀p∈l,NL (sO p))(gs:List bp)(hf:rQ gs)(h:Heap):ai Tryz.prog 164 [.sl (l.map aM) .no,bI gs] h fun r h' =>r= .sl ((ixP gs l l.length).map tP) .no∧h' =h:=by
 have hmt:=fun(m:bO) (G:Heap)=>A6 m gs hf G
 simp only[oF,bI]at hmt;have uI:(U 3).sz=1:=adg;refine acZ Tryz.func164 37 [.tmp 4] fun hwf=>?_
 simp only[go_sem,bI,acQ];refine .intro (fun m ρ H=>∃(i:Nat) (y:AV),Acc U 3 h H y ((ixP gs l i).map tP)∧i≤l.length∧m=l.length - i∧lk ρ 1=some (.sl (gs.map ld) .no)∧lk ρ 5=some y∧lk ρ 10=some (.sl (l.map aM) .no)∧lk ρ 11=some (.i l.length)∧lk ρ 12=some (.i i)) l.length ?_ ?_
 ·refine⟨0,.sl [] .full,.full (.refl _),ac0,rfl,?_,?_,?_,?_,?_⟩<;>simp only[go_sem]
 ·rintro m ρ H ⟨i,y,hy,hi,rfl,r1,r5,r10,r11,r12⟩
  obtain⟨qy,eqy⟩:=hy.row;subst eqy;simp only[go_sem,r11,r12];refine .intro (fun e=>?_) (fun e=>?_)
  ·have hlt:i<l.length:=acX e
   have w1:IntKind.i64.wrap ((i:Int)+1)=((i+1:Nat):Int):=adf;have hsn:=DH gs l hlt;have hpl:=HK gs l i;have ix:=fun k=>fD.eq (xs:=l.map aM) (sz:=7) i ac1 (by rw[acR,js]) k
   rw[acR]at ix;have hft:=ht _ (acV hlt);obtain⟨x,ex⟩:∃x,l[i]=x:=⟨_,rfl⟩;rw[ex]at ix hsn hft;have hky:=fun G=>RT (sO x) hft G
   have mn:=fun h=>JM (gs:=gs) (p:=x) h
   have ms:=fun m h=>JN (gs:=gs) (p:=x) (m:=m) h
   obtain⟨kid,kset,kalg,ktgt,krules,kkids,kobls⟩:=x;simp only[sO]at hky hft mn ms;simp only[aM,aV,aA,aX]at ix;simp only[aV]at hky;simp only[go_sem,r10,r12,ix];intro i7 h7;simp only[go_sem];refine(hky _).pthen ?_;have hkeep:sJ gs (.mk kid kset kalg ktgt krules kkids kobls)=true→ixP gs l (i+1)=ixP gs l i++ [i]:=fun e=>ac1
   have hdrop:sJ gs (.mk kid kset kalg ktgt krules kkids kobls)=false→ixP gs l (i+1)=ixP gs l i:=fun e=>ac1
   cases hk:oE ktgt with
   |none=>
    simp only[go_sem,Oz,oF];intro i8 h8;simp only[go_sem,r5];exact ahC
   |some m=>
    have hm2:=ms m hk;simp only[go_sem,Oz,oF];intro i8 h8;simp only[go_sem,r1];refine(hmt m _).pthen ?_;cases dm:((jT gs m:Int) !=0)
    ·have e0:jT gs m=0:=by grind
     simp only[go_sem,r12,dm,w1];refine⟨_,?_,i+1,_,by rw[hdrop ac1];exact(hy.sub (.aj h7)).sub (.aj h8),ac0,rfl,?_,?_,?_,?_,?_⟩
     ·omega
     all_goals simp only[go_sem,r1,r5,r10,r11]
    ·have e0:jT gs m≠0:=by grind
     simp only[go_sem,r5,dm];exact ahC
  ·have hge:i=l.length:=by grind
   subst hge;simp only[go_sem,r5];exact .mk _ (.sl _ _) hy.1 ⟨rfl,rfl⟩
theorem Vc{id:Txt}{set:Bool}{alg:Int}{tgt:ga}{rules:List cQ}{kids:List bH}{obls:List cB}{L:List AV}(hL:L=kids.map aM)(q:Perm):Weak (.agg [.s id,.b set,.i alg,.sl (tgt.map cU) .no,.sl (rules.map aC) .no,.sl L q,.sl (obls.map bt) .no]) (aM (.mk id set alg tgt rules kids obls)):=by
 subst hL;rw[aM,aX];refine .agg _ _ rfl fun i a b=>?_
 rcases i with _|_|_|_|_|_|_|i
 ·exact ael
 ·exact ael
 ·exact ael
 ·exact ael
 ·exact ael
 ·exact afH
 ·exact ael
 ·simp at a;omega
theorem Be:∀(n d:Nat),d+n=5→∀(p:bH),mQ d p→∀(gs:List bp),rQ gs→∀(h:Heap),ai Tryz.prog 105 [aM p,bI gs] h fun r h' =>r=aM (lB gs p)∧h' =h
 |0,d,hd,.mk id set alg tgt rules kids obls,hE,gs,hf,h=>by
  simp only[mQ]at hE;omega
 |n+1,d,hd,.mk id set alg tgt rules kids obls,hE,gs,hf,h=>by
  have ih:=Be n (d+1) ac0;simp only[mQ,qM]at hE;obtain⟨_,_,_,_,_,_,hT,hO,hR,hK,hRE,hKE⟩:=hE;have hpk:=fun G=>Mz kids ac0 (fun p hp=>by
   have h1:=hKE p hp;obtain⟨kid,kset,kalg,ktgt,krules,kkids,kobls⟩:=p;simp only[mQ]at h1;exact CC h1.2.2.2.2.2.2.1) gs hf G
  have hpe:lB gs (.mk id set alg tgt rules kids obls)= .mk id set alg tgt rules (kg gs kids) obls:=adg;have hfull:=LS gs kids;have hIlt:∀j∈ixP gs kids kids.length,j<kids.length:=fun j hj=>RQ hj
  have hIl:(ixP gs kids kids.length).length≤16:=Nat.le_trans (HK _ _ _) hK;obtain⟨I,eI⟩:∃I,ixP gs kids kids.length=I:=⟨_,rfl⟩;rw[eI]at hpk hfull hIlt hIl;simp only[bI]at hpk;have uP:(U 61).sz=7:=adg;refine acZ Tryz.func105 31 [.cell 4 61] fun hwf=>?_
  simp only[go_sem,aM,bI,aX,aV,aA];intro i2 h2;simp only[go_sem];intro i4 h4;have n42:=aH h4;have n4' :=aB h4;obtain⟨H0,eH⟩:∃H0,upd (upd h i2 (some (.obj [.s id,.b set,.i alg,.sl (tgt.map cU) .no,.sl (rules.map aC) .no,.sl (kids.map aM) .no,.sl (obls.map bt) .no] 61))) i4 (some (.obj [.s [],.b false,.i 0,.sl [] .full,.sl [] .full,.sl [] .full,.sl [] .full] 61))=H0:=⟨_,rfl⟩;have hH0:Ab.Sub h H0:=af0;have g2:H0 i2=some (.obj [.s id,.b set,.i alg,.sl (tgt.map cU) .no,.sl (rules.map aC) .no,.sl (kids.map aM) .no,.sl (obls.map bt) .no] 61):=agK;have g4:H0 i4=some (.obj [.s [],.b false,.i 0,.sl [] .full,.sl [] .full,.sl [] .full,.sl [] .full] 61):=aeu;simp only[go_sem,ak,n42.symm];rw[eH];clear eH;refine(hpk _).pthen ?_;simp only[go_sem,acQ];refine .intro (fun m ρ H=>∃(i:Nat) (y:AV),Acc U 61 H0 H y (((I.map fun j=>lB gs (kids.getD j lP)).take i).map aM)∧i≤I.length∧m=I.length - i∧lk ρ 1=some (.sl (gs.map ld) .no)∧lk ρ 2=some (.ptr i2 0)∧lk ρ 4=some (.ptr i4 0)∧lk ρ 5=some y∧lk ρ 11=some (.sl (I.map tP) .no)∧lk ρ 12=some (.i I.length)∧lk ρ 13=some (.i i)) I.length ?_ ?_
  ·refine⟨0,.sl [] .full,.full (.refl _),ac0,rfl,?_,?_,?_,?_,?_,?_,?_⟩<;>simp only[go_sem]
  ·rintro m ρ H ⟨i,y,hy,hi,rfl,r1,r2,r4,r5,r11,r12,r13⟩
   obtain⟨qy,eqy⟩:=hy.row;subst eqy;have k2:=hy.1 _ _ g2;simp only[go_sem,r12,r13];refine .intro (fun e=>?_) (fun e=>?_)
   ·have hlt:i<I.length:=acX e
    have w1:IntKind.i64.wrap ((i:Int)+1)=((i+1:Nat):Int):=adf;have hjlt:=hIlt _ (acV hlt);have hsn:((I.map fun j=>lB gs (kids.getD j lP)).take (i+1)).map aM=((I.map fun j=>lB gs (kids.getD j lP)).take i).map aM++ [aM (lB gs (kids.getD I[i] lP))]:=by
     grind [List.take_succ_eq_append_getElem]
    have ix:=fun k=>fD.eq (xs:=I.map tP) (sz:=1) i ac1 adi k
    rw[acR]at ix;obtain⟨j,ej⟩:∃j,I[i]=j:=⟨_,rfl⟩;rw[ej]at ix hsn hjlt;have iy:=fun k=>fD.eq (xs:=kids.map aM) (sz:=7) j ac1 (by rw[acR,js]) k
    rw[acR]at iy;rw[show kids.getD j lP=kids[j] by grind]at hsn
    have hke:=hKE _ (acV hjlt);obtain⟨x,ex⟩:∃x,kids[j]=x:=⟨_,rfl⟩;rw[ex]at iy hsn hke;have hr1:=ih x hke gs hf;obtain⟨z,ez⟩:∃z,lB gs x=z:=⟨_,rfl⟩;rw[ez]at hr1 hsn;obtain⟨kid,kset,kalg,ktgt,krules,kkids,kobls⟩:=x;obtain⟨zid,zset,zalg,ztgt,zrules,zkids,zobls⟩:=z;simp only[aM,aV,aA,aX,bI]at iy hr1;simp only[tP]at ix;simp only[go_sem,r1,r2,r5,r11,r13,ix,k2,iy];refine(hr1 _).pthen ?_;simp only[go_sem];refine hy.app (zs:=[aM (.mk zid zset zalg ztgt zrules zkids zobls)]) ac0 ac4 (fun k hk=>show k _ from(by simpa only[aM,aV,aA,aX]using hk)) (by grind [bw,aM,js]) (by rw[uP];intro z hz;grind [List.mem_singleton,js]) adk fun y' H' hy' kp=>?_
    simp only[go_sem,r13,w1];refine⟨_,?_,i+1,y',ac1,ac0,rfl,?_,?_,?_,?_,?_,?_,?_⟩
    ·omega
    all_goals simp only[go_sem,r1,r2,r4,r11,r12]
   ·have hge:i=I.length:=by grind
    subst hge;have htl:(I.map fun j=>lB gs (kids.getD j lP)).take I.length=kg gs kids:=by grind [List.take_of_length_le]
    rw[htl]at r5 hy;have k4:=hy.1 _ _ g4;have n24:i2≠i4:=n42.symm;simp only[go_sem,r2,r4,r5,k2,ak,n42,k4];refine .mk (aM (.mk id set alg tgt rules (kg gs kids) obls)) (Vc rfl _) (((hH0.trans hy.1).put h2 _).put n4' _) ⟨adg,rfl⟩
theorem DG(p:bH)(hp:gy p=0)(gs:List bp)(hf:rQ gs)(h:Heap):ai Tryz.prog 52 [aM p,bI gs] h fun r h' =>r= .tup [rsA (fF gs p),.i 0]∧h' =h:=by
 have hpk:=fun G=>Be 4 1 rfl p (ri hp) gs hf G
 have hev:=fun G=>Dg (lB gs p) (Gv gs hp) gs hf G
 have hr:=fun G=>uo p G
 rw[hp]at hr;rw[Bc]at hev;obtain⟨id,set,alg,tgt,rules,kids,obls⟩:=p;refine acZ Tryz.func52 17 [.cell 4 107,.tmp 5] fun hwf=>?_
 simp only[go_sem,aM,bI,aV,aA];intro i2 h2;simp only[go_sem];intro i4 h4;have n42:=aH h4;have n4:=aB h4;have hs:∀x y,Ab.Sub h (upd (upd h i2 x) i4 y):=fun x y=>((Sub.refl h).put h2 x).put n4 y
 simp only[go_sem,ak,n42.symm];refine(hr _).pthen ?_;simp only[go_sem,ak,n42.symm];refine(hpk _).pthen ?_;simp only[go_sem];refine(hev _).pthen ?_;simp only[go_sem,rsA,aN,aA];exact aeD
def OwR(h0 h:Heap)(y:AV)(rs:List gZ):Prop:=y=dY rs∨OwE 141 h0 h 2 y (rs.map eJ)
theorem OwR.rd{h0 h:Heap}{y:AV}{rs:List gZ}(hr:OwR h0 h y rs):Rd h 2 y (rs.map eJ):=by
 rcases hr with rfl|hr
 ·exact eS eJ 2 (fun _=>rfl) h rs
 ·exact hr.rd
theorem OwR.nid{h0 h:Heap}{y:AV}{rs:List gZ}(hr:OwR h0 h y rs){k:Nat}(e:Ab.nid y=some k):h0 k=none∧h k≠none:=by
 rcases hr with rfl|hr
 ·cases e
 ·exact⟨(hr.nid e).1,(hr.nid e).2.1⟩
theorem OwR.keep{h0 h h' :Heap}{y:AV}{rs:List gZ}(hr:OwR h0 h y rs)(hk:∀id,Ab.nid y=some id→h' id=h id):OwR h0 h' y rs:=by
 rcases hr with hr|hr
 ·exact .inl hr
 ·exact .inr (hr.keep hk)
theorem OwR.bJ{g h0 h:Heap}{y:AV}{rs:List gZ}(hr:OwR h0 h y rs)(hg:∀i,h0 i=none→g i=none):OwR g h y rs:=by
 rcases hr with hr|hr
 ·exact .inl hr
 ·exact .inr (hr.bJ hg)
theorem OwR.frz{g h:Heap}{y:AV}{rs:List gZ}(hr:OwR g h y rs):Frz g h y (dY rs):=by
 rcases hr with rfl|hr
 ·exact .pure (by simp only[dY,cL];exact bu (fun _=>rfl) _)
 ·exact hr.frz (bu (fun _=>rfl) _)
structure iG (h0 h:Heap) (y1 y2 y3 y4:AV) (s:an) (j:Nat):Prop where
 cs:lY h0 h [y1,y2,y3,y4] y1 s.cases j
 rv:OwE 135 h0 h 7 y2 (s.reviews.map iO)
 nt:OwE 138 h0 h 3 y3 (s.notices.map nc)
 rl:OwR h0 h y4 s.roles
 a12:apart y1 y2
 a13:apart y1 y3
 a14:apart y1 y4
 a23:apart y2 y3
 a24:apart y2 y4
 a34:apart y3 y4
def stC(s:an)(y1 y2 y3 y4:AV):List AV:=[.i s.tick,y1,y2,y3,y4]++fX s.policy++ [.i s.version]
theorem sZ.parts{h0 h:Heap}{x:AV}{s:an}{j:Nat}(ho:sZ h0 h x s j):∃y1 y2 y3 y4,x= .agg (stC s y1 y2 y3 y4)∧iG h0 h y1 y2 y3 y4 s j:=by
 obtain⟨y1,y2,y3,y4,e,a,b,c,d,r1,r2,r3,r4,r5,r6⟩:=ho;exact⟨y1,y2,y3,y4,e,a,b,c,.inr d,r1,r2,r3,r4,r5,r6⟩
theorem iG.rd{h0 h:Heap}{y1 y2 y3 y4:AV}{s:an}{j:Nat}(ho:iG h0 h y1 y2 y3 y4 s j):RdS h (.agg (stC s y1 y2 y3 y4)) s:=
 ⟨y1,y2,y3,y4,rfl,ho.cs.rd,ho.rv.rd,ho.nt.rd,ho.rl.rd⟩
theorem iG.frz{g h:Heap}{y1 y2 y3 y4:AV}{s:an}{j:Nat}(ho:iG g h y1 y2 y3 y4 s j):Frz g h (.agg (stC s y1 y2 y3 y4)) (cM s):=
 uY (ho.cs.frz (.refl _)) (ho.rv.frz (bu (fun _=>rfl) _)) (ho.nt.frz (bu (fun _=>rfl) _)) ho.rl.frz
theorem iG.bJ{g h0 h:Heap}{y1 y2 y3 y4:AV}{s:an}{j:Nat}(ho:iG h0 h y1 y2 y3 y4 s j)(hg:∀i,h0 i=none→g i=none):iG g h y1 y2 y3 y4 s j:=
 {ho with cs:=ho.cs.bJ hg,rv:=ho.rv.bJ hg,nt:=ho.nt.bJ hg,rl:=ho.rl.bJ hg}
theorem iG.keep{h0 h h' :Heap}{y1 y2 y3 y4:AV}{s:an}{j:Nat}(ho:iG h0 h y1 y2 y3 y4 s j)(hk:∀id,h0 id=none→h id≠none→h' id=h id):iG h0 h' y1 y2 y3 y4 s j:=
 {ho with cs:=ho.cs.keepb hk,rv:=ho.rv.keepb hk,nt:=ho.nt.keepb hk,rl:=ho.rl.keep fun id e=>hk id (ho.rl.nid e).1 (ho.rl.nid e).2}
theorem iG.mem{h0 h:Heap}{y1 y2 y3 y4:AV}{s:an}{j:Nat}(ho:iG h0 h y1 y2 y3 y4 s j){w:AV}(hw:w∈ [y1,y2,y3,y4]){k:Nat}(e:Ab.nid w=some k):h0 k=none∧h k≠none:=by
 obtain⟨xs,a,_⟩:=ho.cs;simp only[List.mem_cons,List.not_mem_nil,or_false]at hw;rcases hw with rfl|rfl|rfl|rfl
 ·exact⟨(a.nid e).1,(a.nid e).2.1⟩
 ·exact⟨(ho.rv.nid e).1,(ho.rv.nid e).2.1⟩
 ·exact⟨(ho.nt.nid e).1,(ho.nt.nid e).2.1⟩
 ·exact ho.rl.nid e
theorem iG.revs{h0 h h' :Heap}{y1 y2 y3 y4 z:AV}{s:an}{j:Nat}{rs:List qg}(ho:iG h0 h y1 y2 y3 y4 s j)(hz:OwE 135 h0 h' 7 z (rs.map iO))(hn:∀k,Ab.nid z=some k→h k=none∨Ab.nid y2=some k)
  (hk:∀id,h0 id=none→h id≠none→Ab.nid y2≠some id→h' id=h id):iG h0 h' y1 z y3 y4 {s with reviews:=rs} j:=by
 obtain⟨hcs,hrv,hnt,hrl,a12,a13,a14,a23,a24,a34⟩:=id ho;have ap:∀ {w:AV},w∈ [y1,y2,y3,y4]→apart w y2→apart w z:=fun hw ha k e1 e2=>(hn k e2).elim (fun h=>(ho.mem hw e1).2 h) (fun h=>ha k e1 h)
 refine⟨hcs.move (z:=y2) ac7 a12 hk fun w hw k e=>?_,hz,hnt.keep fun id e=>hk id (hnt.nid e).1 (hnt.nid e).2.1 fun e1=>a23 id e1 e,hrl.keep fun id e=>hk id (hrl.nid e).1 (hrl.nid e).2 fun e1=>a24 id e1 e,ap ac7 a12,a13,a14,(ap ac7 a23.symm).symm,(ap ac7 a24.symm).symm,a34⟩
 grind
theorem iG.nots{h0 h h' :Heap}{y1 y2 y3 y4 z:AV}{s:an}{j:Nat}{rs:List ID}(ho:iG h0 h y1 y2 y3 y4 s j)(hz:OwE 138 h0 h' 3 z (rs.map nc))(hn:∀k,Ab.nid z=some k→h k=none∨Ab.nid y3=some k)
  (hk:∀id,h0 id=none→h id≠none→Ab.nid y3≠some id→h' id=h id):iG h0 h' y1 y2 z y4 {s with notices:=rs} j:=by
 obtain⟨hcs,hrv,hnt,hrl,a12,a13,a14,a23,a24,a34⟩:=id ho;have ap:∀ {w:AV},w∈ [y1,y2,y3,y4]→apart w y3→apart w z:=fun hw ha k e1 e2=>(hn k e2).elim (fun h=>(ho.mem hw e1).2 h) (fun h=>ha k e1 h)
 refine⟨hcs.move (z:=y3) ac7 a13 hk fun w hw k e=>?_,hrv.keep fun id e=>hk id (hrv.nid e).1 (hrv.nid e).2.1 fun e1=>a23 id e e1,hz,hrl.keep fun id e=>hk id (hrl.nid e).1 (hrl.nid e).2 fun e1=>a34 id e1 e,a12,ap ac7 a13,a14,ap ac7 a23,a24,(ap ac7 a34.symm).symm⟩
 grind
end Go.Proofs.YtfdgemhnlennbaaGreatDoor
namespace Go.Bf
open Go Go.Ab Go.Proofs.YtfdgemhnlennbaaGreatDoor
def hY(s:an):Prop:=∀r∈s.reviews,0≤r.tick∧r.tick≤1099511627776
theorem Bx{s:an}(o:OpD)(w:Txt)(h:hY s)(ht:0≤s.tick∧s.tick≤1099511627776):hY (cc s o w):=fun r hr=>by
 simp only[cc,List.mem_append,List.mem_singleton]at hr;rcases hr with hr|rfl
 ·exact h r hr
 ·exact ht
theorem Kq{s:an}(o:OpD)(w:Txt)(h:hY s):hY (iS s o w):=fun r hr=>h r (by grind [yS])
theorem Kp{s:an}(o:OpD)(done:Bool)(x:cB)(h:hY s)(ht:0≤s.tick∧s.tick≤1099511627776):hY (fE o done s x):=by
 unfold fE;split
 ·grind [Kq]
 ·split
  ·grind [Bx]
  ·split<;>exact h
theorem wX(o:OpD)(done:Bool):∀(l:List cB) {s:an},hY s→(0≤s.tick∧s.tick≤1099511627776)→hY (dG s o l done)
 | [],s,h,_=>h
 |x::l,s,h,ht=>wX o done l (by grind [Kp]) (by grind [Dc])
theorem Nd{s:an}(par:Txt→bH×Int×Int)(o:OpD)(h:hY s):hY (dS par s o):=fun r hr=>by
 rw[uS]at hr;split at hr
 ·rcases mem_modify hr with hr|⟨hi,rfl⟩
  ·exact h r hr
  ·have h2:=h _ (acV hi)
   exact aha
 ·exact h r hr
theorem GP{k:Nat}{s:an}(o:OpD)(h:kM k s)(ht:hY s):hY (aT s o).1:=by
 unfold aT;split
 ·omega
 ·split
  ·omega
  ·show hY (cZ s o)
   have h1:dD k (if fI s o then cc s o o.reason else s):=by
    split
    ·exact Ct o _ h.todD (by have:=h.nr;omega)
    ·exact h.todD
   have t1:hY (if fI s o then cc s o o.reason else s):=by
    split
    ·exact Bx o _ ht h.tick
    omega
   refine wX o _ _ ?_ ?_
   ·grind [Nd]
   ·split
    ·exact(pO o h1).tick
    ·exact h1.tick
structure jl (k:Nat) (s:an):Prop extends kM k s where
 ticks:hY s
theorem yy:jl 0 yZ:={Jt with ticks:=fun r h=>adU}
theorem wq{k:Nat}{s:an}(o:OpD)(h:jl k s):jl (k+1) (aT s o).1:={FT o h.tokM with ticks:=GP o h.tokM h.ticks}
theorem Ou{cs:List aL}{id:Txt}(h:iK cs id<cs.length):cs[iK cs id].id=id:=by
 have:=List.findIdx_getElem (p:=fun c:aL=>c.id==id) (w:=h)
 exact eq_of_beq this
theorem F3{cs:List aL}(ha:Asc cs){id:Txt}(h:iK cs id<cs.length):findD cs id=iK cs id:=by
 have hid:=Ou h;have hin:bY cs id=true:=by grind [vD,List.any_eq_true,acV]
 have hir:Op.bytesLess id id=false:=by simpa[lt]using lt_irrefl id
 have h1:∃hl:findD cs id<cs.length,cs[findD cs id].id=id:=by
  unfold bY at hin
  grind
 rcases Nat.lt_trichotomy (findD cs id) (iK cs id)with hlt|heq|hgt
 ·exact absurd (List.not_of_lt_findIdx (p:=fun c:aL=>c.id==id) hlt) ac1
 ·exact heq
 ·have:=List.not_of_lt_findIdx (p:=fun c:aL=>geB c.id id) hgt
  exact absurd this (by grind [geB])
theorem LQ{cs ds:List aL}(h:ds.map (·.id)=cs.map (·.id))(id:Txt):iK ds id=iK cs id:=by
 have e:∀l:List aL,iK l id=(l.map (·.id)).findIdx fun x=>x==id:=fun l=>by
  rw[List.findIdx_map];rfl
 rw[e,e,h]
theorem JE(s:an)(o:OpD)(w:Txt)(id:Txt):iK (iS s o w).cases id=iK s.cases id∧(iS s o w).cases.length=s.cases.length:=by
 unfold iS;split
 ·exact⟨LQ (kD (f:=fun c=>jo s c o.subj w) (g:=fun c:aL=>c.id) fun c=>rfl) id,ac7⟩
 omega
theorem JD(o:OpD)(done:Bool)(s:an)(x:cB)(id:Txt):iK (fE o done s x).cases id=iK s.cases id∧(fE o done s x).cases.length=s.cases.length:=by
 unfold fE;split
 ·grind [JE]
 ·split
  ·exact⟨rfl,rfl⟩
  grind
end Go.Bf
namespace Go.Proofs.YtfdgemhnlennbaaGreatDoor
open Go Go.Ab Go.Bf
theorem LU{α:Type}(y:AV)(xs:List AV)(ds:List α)(q:α→Bool)(g:FuncId)(cap:List AV)(h:Heap)(hb:Rd h 7 y xs)(hn:xs.length=ds.length)(hl:xs.length≤1000000000)(hx:∀x∈xs,bA x=true)
  (hp:∀i (h1:i<xs.length) (h2:i<ds.length),ai Tryz.prog g (xs[i]::cap) h fun r h' =>r= .b (q ds[i])∧h' =h):
  ai Tryz.prog 213 [y,.fn g cap] h fun r h' =>r= .i (ixD q ds)∧h' =h:=by
 refine acZ Tryz.func213 19 [.tmp 4] fun hwf=>?_
 simp only[go_sem,hb.len];refine .intro (fun m ρ h' =>h' =h∧∃i:Nat,i≤xs.length∧m=xs.length - i∧(∀j (hj:j<i) (h2:j<ds.length),q ds[j]=false)∧lk ρ 0=some y∧lk ρ 1=some (.fn g cap)∧lk ρ 7=some (.i xs.length)∧lk ρ 8=some (.i i)) xs.length ?_ ?_
 ·refine⟨rfl,0,ac0,rfl,fun j hj=>ac0,?_,?_,?_,?_⟩<;>simp only[go_sem]
 ·rintro m ρ h' ⟨rfl,i,hi,rfl,hc,r0,r1,r7,r8⟩
  simp only[go_sem,r7,r8];refine .intro (fun e=>?_) (fun e=>?_)
  ·have hlt:i<xs.length:=acX e
   have hlt2:i<ds.length:=ac0;have w1:IntKind.i64.wrap ((i:Int)+1)=((i+1:Nat):Int):=adf;simp only[go_sem,r0,r1,r8];refine hb.idx (e:=135) i rfl hlt adg ac4 fun p hp1=>?_
   have hld:=hp1.all (U:=U) (ty:=135) ac4 adW aeQ;simp only[go_sem,hld];refine(show ai Tryz.prog g (xs[i]::cap) _ _ from hp i hlt hlt2).pthen ?_
   cases d1:q ds[i]
   ·simp only[go_sem,r8,w1]
    refine⟨_,?_,rfl,i+1,ac0,rfl,fun j hj h2=>?_,?_,?_,?_,?_⟩
    ·omega
    ·grind
    all_goals simp only[go_sem,r0,r1,r7]
   ·simp only[go_sem]
    exact .same (.refl _) ⟨adK,rfl⟩
  ·have hge:i=xs.length:=by grind
   simp only[go_sem];exact .same (.refl _) ⟨adv,rfl⟩
theorem LR{α:Type}(y:AV)(xs:List AV)(ds:List α)(q:α→Bool)(g:FuncId)(cap:List AV)(h:Heap)(hb:Rd h 3 y xs)(hn:xs.length=ds.length)(hl:xs.length≤1000000000)(hx:∀x∈xs,bA x=true)
  (hp:∀i (h1:i<xs.length) (h2:i<ds.length),ai Tryz.prog g (xs[i]::cap) h fun r h' =>r= .b (q ds[i])∧h' =h):
  ai Tryz.prog 174 [y,.fn g cap] h fun r h' =>r= .i (ixD q ds)∧h' =h:=by
 refine acZ Tryz.func174 19 [.tmp 4] fun hwf=>?_
 simp only[go_sem,hb.len];refine .intro (fun m ρ h' =>h' =h∧∃i:Nat,i≤xs.length∧m=xs.length - i∧(∀j (hj:j<i) (h2:j<ds.length),q ds[j]=false)∧lk ρ 0=some y∧lk ρ 1=some (.fn g cap)∧lk ρ 7=some (.i xs.length)∧lk ρ 8=some (.i i)) xs.length ?_ ?_
 ·refine⟨rfl,0,ac0,rfl,fun j hj=>ac0,?_,?_,?_,?_⟩<;>simp only[go_sem]
 ·rintro m ρ h' ⟨rfl,i,hi,rfl,hc,r0,r1,r7,r8⟩
  simp only[go_sem,r7,r8];refine .intro (fun e=>?_) (fun e=>?_)
  ·have hlt:i<xs.length:=acX e
   have hlt2:i<ds.length:=ac0;have w1:IntKind.i64.wrap ((i:Int)+1)=((i+1:Nat):Int):=adf;simp only[go_sem,r0,r1,r8];refine hb.idx (e:=131) i rfl hlt adg ac4 fun p hp1=>?_
   have hld:=hp1.all (U:=U) (ty:=131) ac4 adW aeQ;simp only[go_sem,hld];refine(show ai Tryz.prog g (xs[i]::cap) _ _ from hp i hlt hlt2).pthen ?_
   cases d1:q ds[i]
   ·simp only[go_sem,r8,w1]
    refine⟨_,?_,rfl,i+1,ac0,rfl,fun j hj h2=>?_,?_,?_,?_,?_⟩
    ·omega
    ·grind
    all_goals simp only[go_sem,r0,r1,r7]
   ·simp only[go_sem]
    exact .same (.refl _) ⟨adK,rfl⟩
  ·have hge:i=xs.length:=by grind
   simp only[go_sem];exact .same (.refl _) ⟨adv,rfl⟩
theorem Jx(y:AV)(ds:List qg)(q:qg→Bool)(g:FuncId)(cap:List AV)(h:Heap)(hb:Rd h 7 y (ds.map iO))(hl:ds.length≤1000000000)
  (hp:∀i (h2:i<ds.length),ai Tryz.prog g (iO ds[i]::cap) h fun r h' =>r= .b (q ds[i])∧h' =h):
  ai Tryz.prog 166 [y,.fn g cap] h fun r h' =>r= .b (ds.any q)∧h' =h:=by
 refine acZ Tryz.func166 9 [.tmp 4] fun hwf=>?_
 simp only[go_sem];refine(LU y _ ds q g cap h hb ac7 ac1 (oR (fun _=>rfl) _) fun i a b=>by rw[acR];exact hp i b).pthen ?_
 simp only[go_sem,uJ];exact ac9
theorem Jw(y:AV)(ds:List cB)(q:cB→Bool)(g:FuncId)(cap:List AV)(h:Heap)(hb:Rd h 3 y (ds.map bt))(hl:ds.length≤1000000000)
  (hp:∀i (h2:i<ds.length),ai Tryz.prog g (bt ds[i]::cap) h fun r h' =>r= .b (q ds[i])∧h' =h):
  ai Tryz.prog 118 [y,.fn g cap] h fun r h' =>r= .b (ds.any q)∧h' =h:=by
 refine acZ Tryz.func118 9 [.tmp 4] fun hwf=>?_
 simp only[go_sem];refine(LR y _ ds q g cap h hb ac7 ac1 (oR (fun _=>rfl) _) fun i a b=>by rw[acR];exact hp i b).pthen ?_
 simp only[go_sem,uJ];exact ac9
theorem FV(y:AV)(xs:List AV)(ds:List aL)(q:aL→Bool)(g:FuncId)(cap:List AV)(h:Heap)(hb:Rd h 5 y xs)(hn:xs.length=ds.length)(hl:xs.length≤1000000000)(hx:∀x∈xs,bA x=true)
  (hp:∀i (h1:i<xs.length) (h2:i<ds.length),ai Tryz.prog g (xs[i]::cap) h fun r h' =>r= .b (q ds[i])∧h' =h):
  ai Tryz.prog 124 [y,.fn g cap] h fun r h' =>r= .b (ds.any q)∧h' =h:=by
 refine acZ Tryz.func124 9 [.tmp 4] fun hwf=>?_
 simp only[go_sem];refine(vb y xs ds q g cap h hb hn hl hx hp).pthen ?_;simp only[go_sem,uJ];exact ac9
theorem L1{h:Heap}(r:qg){k1 k2:Nat}{subj:Txt}{s:an}(hk1:h k1=some (.obj [.s subj] 9))(hk2:h k2=some (.obj (sL s) 63))(ht:0≤s.tick∧s.tick≤1099511627776)(hr:0≤r.tick∧r.tick≤1099511627776):
  ai Tryz.prog 167 [iO r,.ptr k1 0,.ptr k2 0] h fun x h' =>x= .b (r.subj==subj && qV s r)∧h' =h:=by
 have w:IntKind.i64.wrap (s.tick - r.tick)=s.tick - r.tick:=bh _ ac0;obtain⟨tick,cs,rv,nt,ro,⟨pid,pset,palg,ptgt,prules,pkids,pobls⟩,ver⟩:=s;simp only[sL]at hk2;simp only at w;refine acZ Tryz.func167 21 [.tmp 4] fun hwf=>?_
 simp only[go_sem,iO];intro i3 h3;have n31:i3≠k1:=fun e=>ac1
 have n32:i3≠k2:=fun e=>ac1
 cases d1:(r.subj==subj)
 ·simp only[go_sem,ak,n31.symm,hk1,d1]
  exact afh
 cases d2:r.isOpen
 ·simp only[go_sem,ak,n31.symm,hk1,d1]
  exact .mk _ (.refl _) (.aj h3) ⟨by simp only[qV,d2];rfl,rfl⟩
 ·simp only[go_sem,ak,n31.symm,n32.symm,hk1,hk2,d1,w]
  exact .mk _ (.refl _) (.aj h3) ⟨by simp only[qV,d2];rfl,rfl⟩
theorem OC(s:an)(subj:Txt)(hn:s.reviews.length≤1000000)(ht:0≤s.tick∧s.tick≤1099511627776)(hr:hY s)(h:Heap):ai Tryz.prog 109 [cM s,.s subj] h fun x h' =>x= .b (L2 s subj)∧h' =h:=by
 have hl1:=fun(H:Heap) (k1 k2:Nat) (e1:H k1=some (.obj [.s subj] 9)) (e2:H k2=some (.obj (sL s) 63))=>Jx (kj s.reviews) s.reviews (fun r=>r.subj==subj && qV s r) 167 [.ptr k1 0,.ptr k2 0] H (eS iO 7 (fun _=>rfl) H _) ac0 fun i h2=>L1 _ e1 e2 ht (hr _ (acV h2))
 have hst:=vB s;obtain⟨tick,cs,rv,nt,ro,⟨pid,pset,palg,ptgt,prules,pkids,pobls⟩,ver⟩:=s;rw[hst];simp only[sL]at hl1⊢;refine acZ Tryz.func109 9 [.tmp 4] fun hwf=>?_
 simp only[go_sem];intro i2 h2;simp only[go_sem];intro i3 h3;have n32:=aH h3;have n3:=aB h3;have hs:∀x y,Ab.Sub h (upd (upd h i2 x) i3 y):=fun x y=>((Sub.refl h).put h2 x).put n3 y
 simp only[go_sem,ak,n32.symm];refine(hl1 _ i3 i2 (ah ..) (by grind [ag,ah])).pthen ?_
 simp only[go_sem];exact aeD
theorem IM(s:an)(o:OpD)(m:aS)(hm9:M9 m)(hn:s.reviews.length≤1000000)(hro:s.roles.length≤1000000)(ht:0≤s.tick∧s.tick≤1099511627776)(hr:hY s)(h:Heap):ai Tryz.prog 54 [cM s,opA o,aN m] h fun x h' =>x= .b (tg s o m)∧h' =h:=by
 have hla:=fun G=>OC s o.subj hn ht hr G
 have hha:=fun G=>FY (rdS G s) o.subj Ce ac0
 have hbd:tg s o m=(o.glass && (m==cE||m==naM) && yC s.roles ⟨o.subj,Ce⟩ && !L2 s o.subj):=rfl
 have de:=(nb hm9).de;have na:=(nb hm9).na;have hst:=vB s;obtain⟨tick,cs,rv,nt,ro,⟨pid,pset,palg,ptgt,prules,pkids,pobls⟩,ver⟩:=s;rw[hst]at hla hha⊢;simp only[sL,Ce]at hla hha hbd⊢;refine acZ Tryz.func54 30 [.tmp 6] fun hwf=>?_
 simp only[go_sem,opA,opC,aN];intro i3 h3;simp only[go_sem];intro i4 h4;have n43:=aH h4;have n4:=aB h4;have hs:∀x y,Ab.Sub h (upd (upd h i3 x) i4 y):=fun x y=>((Sub.refl h).put h3 x).put n4 y
 cases dg:o.glass
 ·simp only[go_sem]
  exact .mk _ (.refl _) (hs _ _) ⟨by rw[hbd,dg];rfl,rfl⟩
 cases d1:(m==cE)<;>cases d2:(m==naM)
 case false.false=>
  simp only[go_sem,de,na,d1,d2];exact .mk _ (.refl _) (hs _ _) ⟨by rw[hbd,dg,d1,d2];rfl,rfl⟩
 all_goals
  simp only[go_sem,ak,n43.symm,de,na,d1,d2];refine(hha _).pthen ?_;cases dh:yC ro ⟨o.subj,[103,108,97,115,115]⟩
  ·simp only[go_sem]
   exact .mk _ (.refl _) (hs _ _) ⟨by rw[hbd,dg,d1,d2,dh];rfl,rfl⟩
  ·simp only[go_sem,ak,n43.symm]
   refine(hla _).pthen ?_;simp only[go_sem];exact .mk _ (.refl _) (hs _ _) ⟨by rw[hbd,dg,d1,d2,dh];rfl,rfl⟩
theorem Jz{h:Heap}(x:cB){k:Nat}{field:Txt}(hk:h k=some (.obj [.s field] 9)):ai Tryz.prog 119 [bt x,.ptr k 0] h fun r h' =>r= .b (x.kind==2 && x.arg==field)∧h' =h:=by
 refine acZ Tryz.func119 13 [.tmp 3] fun hwf=>?_
 simp only[go_sem,bt];intro i2 h2;have n2:i2≠k:=fun e=>ac1
 cases d1:(x.kind==2)
 all_goals
  simp only[go_sem,ak,n2.symm,hk,d1];exact .mk _ (.refl _) (.aj h2) ⟨rfl,rfl⟩
theorem LL(l:List cB)(hl:l.length≤1000000000)(field:Txt)(h:Heap):ai Tryz.prog 58 [aA l,.s field] h fun r h' =>r= .b (jQ l field)∧h' =h:=by
 refine acZ Tryz.func58 8 [.tmp 4] fun hwf=>?_
 simp only[go_sem,aA];intro i3 h3;simp only[go_sem];refine(Jw (.sl (l.map bt) .no) l (fun x=>x.kind==2 && x.arg==field) _ [.ptr i3 0] _ (eS bt 3 (fun _=>rfl) _ _) hl fun i h2=>Jz _ (ah ..)).pthen ?_
 simp only[go_sem];exact afh
theorem Ms{h:Heap}{x:AV}{c:aL}(hb:RdC h x c):ai Tryz.prog 125 [x] h fun r h' =>r= .b (decide (256<c.log.length))∧h' =h:=by
 obtain⟨f,l,rfl,hf,hl⟩:=hb;have e:decide ((256:Int)<(c.log.length:Int))=decide (256<c.log.length):=by
  grind
 refine acZ Tryz.func125 7 [.tmp 2] fun hwf=>?_
 simp only[go_sem];intro i1 h1;simp only[go_sem,hl.len,acQ,e];exact adj
theorem Mu{h:Heap}{x:AV}{s:an}(hb:RdS h x s)(hc:s.cases.length≤1000000):ai Tryz.prog 62 [x] h fun r h' =>r= .b (sd s)∧h' =h:=by
 obtain⟨y1,y2,y3,y4,rfl,⟨xs,hx,hn,hcs⟩,h2,h3,h4⟩:=hb;have hod:sd s=(decide (256<s.reviews.length)||decide (256<s.notices.length)||s.cases.any fun c=>decide (256<c.log.length)):=rfl
 have e2:decide ((256:Int)<(s.reviews.length:Int))=decide (256<s.reviews.length):=by
  grind
 have e3:decide ((256:Int)<(s.notices.length:Int))=decide (256<s.notices.length):=by
  grind
 have hca:=fun(G:Heap) (hG:Ab.Sub h G)=>FV y1 xs s.cases (fun c=>decide (256<c.log.length)) 125 [] G (hx.sub hG) hn ac0 (zV.agg hn hcs) fun i a b=>Ms ((hcs i a b).sub hG)
 cases hpp:s.policy with
 |mk pid pset palg ptgt prules pkids pobls=>
 refine acZ Tryz.func62 18 [.tmp 2] fun hwf=>?_
 simp only[go_sem,fX,aX,List.cons_append,List.nil_append];intro i1 h1;cases d2:decide (256<s.reviews.length)
 case true=>
  simp only[go_sem,h2.len,acQ,e2,d2];exact .mk _ (.refl _) (.aj h1) ⟨by rw[hod,d2];rfl,rfl⟩
 cases d3:decide (256<s.notices.length)
 case true=>
  simp only[go_sem,h2.len,h3.len,acQ,e2,e3,d2,d3];exact .mk _ (.refl _) (.aj h1) ⟨by rw[hod,d2,d3];rfl,rfl⟩
 simp only[go_sem,h2.len,h3.len,acQ,e2,e3,d2,d3];refine(hca _ (.aj h1)).pthen ?_;simp only[go_sem];exact .mk _ (.refl _) (.aj h1) ⟨by rw[hod,d2,d3];rfl,rfl⟩
theorem Ma{h:Heap}{x:AV}{c:aL}(hb:RdC h x c){k:Nat}{o:OpD}(hk:h k=some (.obj (opC o) 39)):ai Tryz.prog 176 [x,.ptr k 0] h fun r h' =>r= .b (c.id==o.case)∧h' =h:=by
 obtain⟨f,l,rfl,hf,hl⟩:=hb;simp only[opC]at hk;refine acZ Tryz.func176 9 [.tmp 3] fun hwf=>?_
 simp only[go_sem];exact ahv
end Go.Proofs.YtfdgemhnlennbaaGreatDoor
namespace Go.Ab
open Go
theorem OwE.more{tb:TypeId}{g h0 h:Heap}{sz:Nat}{y:AV}{xs:List AV}(hw:OwE tb h0 h sz y xs)(hg:∀id,h0 id=Option.none→h id≠Option.none→g id=Option.none):OwE tb g h sz y xs:=by
 rcases hw with hw|⟨id,e,hw⟩
 ·exact ag1
 ·exact .inr ⟨id,hg _ e hw.none,hw⟩
end Go.Ab
namespace Go.Proofs.YtfdgemhnlennbaaGreatDoor
open Go Go.Ab Go.Bf
theorem fm.more{g h0 h:Heap}{ys:List AV}{x:AV}{c:aL}(hm:fm h0 h ys x c)(hg:∀id,h0 id=none→h id≠none→g id=none):fm g h ys x c:=by
 obtain⟨f,l,e,a,b,c⟩:=hm;exact⟨f,l,e,a.more hg,b.more hg,c⟩
theorem lY.more{g h0 h:Heap}{ys:List AV}{y:AV}{cs:List aL}{i0:Nat}(ho:lY h0 h ys y cs i0)(hg:∀id,h0 id=none→h id≠none→g id=none):lY g h ys y cs i0:=by
 obtain⟨xs,a,b,c,d⟩:=ho;exact⟨xs,a.more hg,b,c,fun h1 h2=>(d h1 h2).more hg⟩
theorem OwR.more{g h0 h:Heap}{y:AV}{rs:List gZ}(hr:OwR h0 h y rs)(hg:∀id,h0 id=none→h id≠none→g id=none):OwR g h y rs:=by
 rcases hr with hr|hr
 ·exact .inl hr
 ·exact .inr (hr.more hg)
theorem iG.more{g h0 h:Heap}{y1 y2 y3 y4:AV}{s:an}{j:Nat}(ho:iG h0 h y1 y2 y3 y4 s j)(hg:∀id,h0 id=none→h id≠none→g id=none):iG g h y1 y2 y3 y4 s j:=
 {ho with cs:=ho.cs.more hg,rv:=ho.rv.more hg,nt:=ho.nt.more hg,rl:=ho.rl.more hg}
def GSt(g H:Heap)(k:Nat)(s:an)(j:Nat):Prop:=∃y1 y2 y3 y4,H k=some (.obj (stC s y1 y2 y3 y4) 63)∧iG g H y1 y2 y3 y4 s j∧g k≠none∧∀i b,i≠k→g i=some b→H i=some b
theorem GSt.box{g H:Heap}{k:Nat}{s:an}{j:Nat}(hG:GSt g H k s j){i:Nat}(hi:H i=none)(b:Blk):GSt (upd g i (some b)) (upd H i (some b)) k s j:=by
 obtain⟨y1,y2,y3,y4,hk,ho,hgk,hfr⟩:=hG;refine⟨y1,y2,y3,y4,adD,(ho.more (g:=upd g i (some b)) fun id h0 hne=>?_).keep fun id _ hne=>ag _ _ fun e=>hne ac1,adD,fun q c hq hc=>?_⟩
 ·grind [ag]
 grind [ah,ag]
theorem GSt.unbox{g H:Heap}{k:Nat}{s:an}{j:Nat}{i:Nat}{b:Blk}(hG:GSt (upd g i (some b)) H k s j)(hi:i≠k)(hgi:g i=none):GSt g H k s j∧H i=some b:=by
 obtain⟨y1,y2,y3,y4,hk,ho,hgk,hfr⟩:=hG;refine⟨⟨y1,y2,y3,y4,hk,ho.bJ fun q hq=>?_,adD,fun q c hq hc=>hfr q c hq ?_⟩,hfr i b hi (ah ..)⟩
 ·grind [ag]
 grind [ag]
theorem GSt.base{g H:Heap}{k:Nat}{s:an}{j:Nat}(hG:GSt g H k s j):∃G,Ab.Sub G H∧(∀i,G i=none↔g i=none)∧∀i,i≠k→G i=g i:=by
 obtain⟨y1,y2,y3,y4,hk,ho,hgk,hfr⟩:=hG;refine⟨upd g k (H k),fun i b hi=>?_,fun i=>?_,fun i hi=>ag _ _ hi⟩
 ·grind [ah,ag]
 grind [ah,ag]
theorem GSt.rd{g H:Heap}{k:Nat}{s:an}{j:Nat}(hG:GSt g H k s j):∃y1 y2 y3 y4,H k=some (.obj (stC s y1 y2 y3 y4) 63)∧RdS H (.agg (stC s y1 y2 y3 y4)) s:=by
 obtain⟨y1,y2,y3,y4,hk,ho,_⟩:=hG;exact⟨y1,y2,y3,y4,hk,ho.rd⟩
theorem D9{g H:Heap}{k:Nat}{s:an}{j:Nat}(hG:GSt g H k s j)(o:OpD)(w:Txt)(hk64:i64 o.kind)(hn:s.reviews.length≤1000000000):
  ai Tryz.prog 56 [.ptr k 0,opA o,.s w] H fun r H' =>GSt g H' k (cc s o w) j:=by
 obtain⟨G,sG,nG,oG⟩:=hG.base;obtain⟨y1,y2,y3,y4,hk,ho,hgk,hfr⟩:=hG;have ho2:iG G H y1 y2 y3 y4 s j:=ho.bJ fun i hi=>(nG i).2 hi
 have w1:IntKind.i64.wrap ((s.reviews.length:Int)+1)=(s.reviews.length:Int)+1:=bh _ ac0;obtain⟨pid,pset,palg,ptgt,prules,pkids,pobls,hpp⟩:∃a b c d e f g,s.policy= .mk a b c d e f g:=by cases s.policy;simp
 have hst:∀z,stC (cc s o w) y1 z y3 y4= [.i s.tick,y1,z,y3,y4,.s pid,.b pset,.i palg,aV ptgt,.sl (prules.map aC) .no,.sl (pkids.map aM) .no,aA pobls,.i s.version]:=fun z=>by simp[stC,cc,hpp,fX,aX]
 have hst0:stC s y1 y2 y3 y4= [.i s.tick,y1,y2,y3,y4,.s pid,.b pset,.i palg,aV ptgt,.sl (prules.map aC) .no,.sl (pkids.map aM) .no,aA pobls,.i s.version]:=agP;rw[hst0]at hk;refine acZ Tryz.func56 34 [] fun hwf=>?_
 simp only[go_sem,opA,opC];intro i4 h4;have n4k:i4≠k:=fun e=>ac1
 simp only[go_sem];obtain⟨K,eK⟩:∃K,upd H i4 (some (.obj [.i o.kind,.s o.subj,.s o.case,.s o.field,.s o.to,.i o.val.kind,.i o.val.n,.s o.val.s,.i o.review,.s o.text,.s o.reason,.b o.glass] 39))=K:=⟨_,rfl⟩;have sK:Ab.Sub H K:=by rw[←eK];exact .aj h4
 have k4:K i4=some (.obj [.i o.kind,.s o.subj,.s o.case,.s o.field,.s o.to,.i o.val.kind,.i o.val.n,.s o.val.s,.i o.review,.s o.text,.s o.reason,.b o.glass] 39):=by rw[←eK,ah]
 have kk:=sK _ _ hk;have hoK:iG G K y1 y2 y3 y4 s j:=ho2.keep fun id _ hne=>by rw[←eK];grind [ag]
 rw[eK];have p4:=(bC (H:=K) (l:=[k,i4]) (show i4∈ [k,i4] by simp)).trans k4
 have pk:=(bC (H:=K) (l:=[k,i4]) (show k∈ [k,i4] by simp)).trans kk
 refine .stage (pick K [k,i4]) [0,1,2,3,4,5,6,7,8,9,10,11,12,13,14,15,16,17,18,19,20,22,21,23,24,25,26,27] [28] bR ac3 ?_;simp only[go_sem,pk,p4,hoK.rv.rd.len,acQ,w1];refine(uH o.kind hk64 _).pthen ?_;refine⟨bR,?_⟩;simp only[go_sem];have hap1:Rd K 7 (.sl [iO (Bp s o w)] .full) [iO (Bp s o w)]:=.sl adO .full;refine OwE.app (U:=U) (tb:=135) hoK.rv (sG.trans sK) hap1 adg ac4 ac4 adg ac7 adA fun id y' K2 hid hor how hoth=>?_
 have hor' :K id=none∨nid y2=some id:=by
  rcases hor with hor|⟨l,c,ey⟩
  ·grind
  ·exact .inr agU
 have nik:k≠id:=fun e=>hgk ((nG k).1 ac1)
 have ni4:i4≠id:=by
  rcases hor' with hor|hor
  ·grind
  ·exact fun e=>(ho2.rv.nid hor).2.1 ac1
 have m4:=(hoth i4 ni4).trans k4;have mk:=(hoth k nik).trans kk;refine⟨iM fun q hq=>?_,?_⟩
 ·grind
 simp only[go_sem];refine⟨cR,fun _ _ e=>ads,?_⟩
 simp only[go_sem,mk,how.rd.fit,how.rd.cells];refine⟨fun _ _ e=>ads,?_⟩
 refine .same (.refl _) ⟨y1,y',y3,y4,ag7,iG.bJ (h0:=G) ?_ fun i hi=>(nG i).1 hi,hgk,fun i b hi hb=>?_⟩
 ·refine hoK.revs (rs:=s.reviews++ [Bp s o w]) (.inr ⟨id,hid,by rw[List.map_append];exact how.same (ag _ _ nik.symm)⟩) (fun q hq=>?_) fun q hq hne hz=>?_
  ·have:id=q:=by have:=how.nid;rw[hq]at this;exact(Option.some.inj this).symm
   rw[←this];exact hor'
  grind [ag]
 ·have n2:i≠id:=fun e=>by
   grind
  rw[ag _ _ hi,hoth i n2];exact sK _ _ (hfr i b hi hb)
end Go.Proofs.YtfdgemhnlennbaaGreatDoor
namespace Go.Bf
open Go Go.Ab Go.Proofs.YtfdgemhnlennbaaGreatDoor
theorem DT{s:an}{o:OpD}{w:Txt}(h:¬(iK s.cases o.case<s.cases.length∧o.kind≠6)):iS s o w=s:=by simp_all [iS,if_neg]
theorem Mb{s:an}{o:OpD}{w:Txt}{j:Nat}(h1:iK s.cases o.case<s.cases.length)(h2:o.kind≠6)(e:iK s.cases o.case=j):iS s o w= {s with cases:=s.cases.modify j fun c=>jo s c o.subj w}:=by simp_all [iS,if_pos]
end Go.Bf
namespace Go.Proofs.YtfdgemhnlennbaaGreatDoor
open Go Go.Ab Go.Bf
theorem Mc{g H:Heap}{k:Nat}{s:an}{j:Nat}(hG:GSt g H k s j)(o:OpD)(w:Txt)(hc:s.cases.length≤1000000)(hl:∀c∈s.cases,c.log.length≤1000000000)(hj:iK s.cases o.case<s.cases.length→o.kind≠6→j=iK s.cases o.case):
  ai Tryz.prog 123 [.ptr k 0,opA o,.s w] H fun r H' =>GSt g H' k (iS s o w) j:=by
 obtain⟨G,sG,nG,oG⟩:=hG.base;obtain⟨y1,y2,y3,y4,hk,ho,hgk,hfr⟩:=hG;have ho2:iG G H y1 y2 y3 y4 s j:=ho.bJ fun i hi=>(nG i).2 hi
 obtain⟨pid,pset,palg,ptgt,prules,pkids,pobls,hpp⟩:∃a b c d e f g,s.policy= .mk a b c d e f g:=by cases s.policy;exact⟨_,_,_,_,_,_,_,rfl⟩
 have hst0:stC s y1 y2 y3 y4= [.i s.tick,y1,y2,y3,y4,.s pid,.b pset,.i palg,aV ptgt,.sl (prules.map aC) .no,.sl (pkids.map aM) .no,aA pobls,.i s.version]:=agP;rw[hst0]at hk;refine acZ Tryz.func123 44 [] fun hwf=>?_
 simp only[go_sem,opA,opC];intro i4 h4;have n4k:i4≠k:=fun e=>by rw[e,hk]at h4;cases h4
 obtain⟨K,eK⟩:∃K,upd H i4 (some (.obj [.i o.kind,.s o.subj,.s o.case,.s o.field,.s o.to,.i o.val.kind,.i o.val.n,.s o.val.s,.i o.review,.s o.text,.s o.reason,.b o.glass] 39))=K:=⟨_,rfl⟩;have sK:Ab.Sub H K:=by rw[←eK];exact .aj h4
 have k4:K i4=some (.obj [.i o.kind,.s o.subj,.s o.case,.s o.field,.s o.to,.i o.val.kind,.i o.val.n,.s o.val.s,.i o.review,.s o.text,.s o.reason,.b o.glass] 39):=by rw[←eK,ah]
 have kk:=sK _ _ hk;have hoK:iG G K y1 y2 y3 y4 s j:=ho2.keep fun id _ hne=>by rw[←eK];exact ag _ _ fun e=>hne (by rw[e];exact h4)
 have hfin:GSt g K k s j:=⟨y1,y2,y3,y4,by rw[hst0];exact kk,hoK.bJ fun i hi=>(nG i).1 hi,hgk,fun i b hi hb=>sK _ _ (hfr i b hi hb)⟩
 have hix:ai Tryz.prog 159 [y1,.fn 176 [.ptr i4 0]] K fun r h' =>r= .i (ixD (fun c:aL=>c.id==o.case) s.cases)∧h' =K:=by
  obtain⟨xs,hx,hn,hcs⟩:=hoK.cs.rd;exact vb y1 xs s.cases (fun c=>c.id==o.case) _ [.ptr i4 0] K hx hn ac0 (zV.agg hn hcs) fun i a b=>Ma (hcs i a b) k4
 have hcsK:=hoK.cs;have n4G:∀id,G id=none→K id≠none→id≠i4→H id=K id:=fun id _ _ h=>by rw[←eK,ag _ _ h]
 simp only[go_sem,ak,n4k.symm,hk];rw[eK];refine hix.pthen ?_
 by_cases hx:iK s.cases o.case<s.cases.length
 case neg=>
  have e1:ixD (fun c:aL=>c.id==o.case) s.cases= -1:=if_neg hx
  have d1:decide ((-1:Int)<0)=true:=rfl;rw[e1];simp only[go_sem,d1];exact .same (.refl _) (by rw[DT fun h=>hx h.1];exact hfin)
 have e1:ixD (fun c:aL=>c.id==o.case) s.cases=(iK s.cases o.case:Nat):=if_pos hx
 have d1:decide (((iK s.cases o.case:Nat):Int)<0)=false:=decide_eq_false ac0;rw[e1];cases d6:(o.kind==6)
 case true=>
  have h6:o.kind=6:=by simpa using d6
  simp only[go_sem,d1,k4,d6];exact .same (.refl _) (by rw[DT fun h=>h.2 h6];exact hfin)
 have h6:o.kind≠6:=by simpa using d6
 have hjj:=hj hx h6;have hlo:=Mb (w:=w) hx h6 hjj.symm;have hjc:j<s.cases.length:=by rw[hjj];exact hx
 rw[←hjj]at d1⊢;rw[hlo];obtain⟨xs,w1,hnx,hlw,hmy⟩:=hcsK;have hjx:j<xs.length:=ac0;obtain⟨f,l,ex,of,ol,hap,hys⟩:=hmy hjx hjc;obtain⟨id1,hg1,o1⟩:=w1.ow afV;have o1' :=o1;obtain⟨cap,rest,ey,hid,hrl,hcap,hsz⟩:=o1';have lA:j*5=(au (xs.take j)).length:=ad7;have hidK:K id1=some (.obj (au (xs.take j)++(cg s.cases[j] f l++(au (xs.drop (j+1))++rest))) 122):=by
  rw[hid,Cb hjx,ex];simp[cg,AV.cells]
 have n1k:id1≠k:=lV o1 kk ac4;have n14:id1≠i4:=lV o1 k4 ac4;have hll:=hl _ (acV hjc);have p4:=(bC (H:=K) (l:=[k,i4,id1]) (show i4∈ [k,i4,id1] by simp)).trans k4
 have pk:=(bC (H:=K) (l:=[k,i4,id1]) (show k∈ [k,i4,id1] by simp)).trans kk
 have p1:=(bC (H:=K) (l:=[k,i4,id1]) (show id1∈ [k,i4,id1] by simp)).trans hidK
 have hc4:(au (xs.take j)++(cg s.cases[j] f l++(au (xs.drop (j+1))++rest)))[j*5+4]? =some l:=by rw[lA,List.getElem?_append_right ac0,Nat.add_sub_cancel_left];rfl
 obtain⟨CS,eCS⟩:∃CS,au (xs.take j)++(cg s.cases[j] f l++(au (xs.drop (j+1))++rest))=CS:=⟨_,rfl⟩;rw[eCS]at hc4 p1 hidK;simp only[go_sem,d1,k4,d6,kk];refine o1.idx (U:=U) (e:=122) j rfl hjx nN ac4 ?_;simp only[go_sem];refine .stage (pick K [k,i4,id1]) [0,1,2,3,4,5,6,7,8,9,10,11,12,13,14,15,16] [17] bR ac3 ?_;simp only[go_sem,pk,p4,p1,hc4];have hap1:Rd K 3 (.sl [iJ ⟨s.tick,o.subj,w⟩] .full) [iJ ⟨s.tick,o.subj,w⟩]:=.sl adO .full;refine OwE.app (U:=U) (tb:=191) ol (sG.trans sK) hap1 ada ac4 ac5 ada ac7 adA fun id2 y' K2 g2 hor how hoth=>?_
 have hor' :K id2=none∨nid l=some id2:=by
  exact ahP
 have n2:∀ {q b t},K q=some (.obj b t)→t≠191→q≠id2:=fun {q b t} hq ht e=>by
  rcases hor' with h|h
  ·rw[e,h]at hq;cases hq
  ·exact lV (ol.nid h).2.2 hq ht e.symm
 have m4:=(hoth i4 (n2 k4 ac4)).trans k4;have mk:=(hoth k (n2 kk ac4)).trans kk;have m1:=(hoth id1 (n2 hidK ac4)).trans hidK;refine⟨iM fun q hq=>?_,?_⟩
 ·simp only[List.mem_cons,List.not_mem_nil,or_false]at hq
  rcases hq with rfl|rfl|rfl
  ·rw[mk,kk]
  ·rw[m4,k4]
  ·rw[m1,hidK]
 simp only[go_sem];refine⟨cR,fun _ _ e=>ads,?_⟩
 simp only[go_sem,m1,how.rd.fit,how.rd.cells];have e5:List.take (j*5+4) CS++ [y']++List.drop (j*5+4+1) CS=au (xs.take j)++(cg s.cases[j] f y' ++(au (xs.drop (j+1))++rest)):=by
  have:=pg (A:=au (xs.take j)++ [.s s.cases[j].id,.s s.cases[j].owner,.s s.cases[j].state,f]) (B:=[l]) (C:=au (xs.drop (j+1))++rest) (X:=[y']) (k:=j*5+4) (m:=1) (by rw[lA];simp) rfl rfl
  exact aiN
 rw[e5];refine⟨by rw[←eCS];simp only[acU,←lA,cg,List.length_cons,List.length_nil];omega,(fun _ _ e=>ads),?_⟩
 obtain⟨F,eF⟩:∃F,upd K2 id1 (some (.obj (au (xs.take j)++(cg s.cases[j] f y' ++(au (xs.drop (j+1))++rest))) 122))=F:=⟨_,rfl⟩;have kF:∀q,q≠id1→q≠id2→F q=K q:=fun q a b=>by rw[←eF,ag _ _ a,hoth q b]
 have kF' :∀q,K q≠none→q≠id1→nid l≠some q→F q=K q:=fun q a b c=>kF q b fun e=>by
  rcases hor' with h|h
  ·exact a (by rw[e];exact h)
  ·exact c (by rw[e];exact h)
 have hF1:F id1=some (.obj (au (xs.take j)++(cg s.cases[j] f y' ++(au (xs.drop (j+1))++rest))) 122):=by rw[←eF,ah]
 have n12:id1≠id2:=n2 hidK ac4;have hX5:Sized 5 (xs.set j (.agg (cg s.cases[j] f y'))):=fun z hz=>by
  exact ahW
 have hOw:Ow 122 F 5 id1 y1 (xs.set j (.agg (cg s.cases[j] f y'))):=⟨cap,rest,afj,by rw[hF1,tE hjx];simp[AV.cells],agc,afa,hX5⟩
 have hl' :OwE 191 G F 3 y' ((s.cases[j].log++ [(⟨s.tick,o.subj,w⟩:xO)]).map iJ):=by
  rw[List.map_append];exact .inr ⟨id2,g2,how.same (by rw[←eF,ag _ _ n12.symm])⟩
 have hny:∀q,nid y' =some q→q=id2:=fun q hq=>by have:=how.nid;rw[hq]at this;exact Option.some.inj this
 have nf1:nid f≠some id1:=fun e=>(hys y1 ac7).1 id1 e o1.nid
 have hof:OwE 201 G F 4 f (s.cases[j].fields.map bM):=of.keep fun q e=>kF' q (of.nid e).2.1 (fun e' =>nf1 (by rw[←e'];exact e)) (hap q e)
 have hnid:∀ {y:AV},y∈ [y1,y2,y3,y4]→∀q,nid y=some q→K q≠none:=fun hy q e=>(hoK.mem hy e).2
 have hap2:∀ {y:AV},y∈ [y1,y2,y3,y4]→apart y' y:=fun {y} hy q e1 e2=>by
  have:=hny q e1;subst this;rcases hor' with h|h
  ·exact hnid hy _ e2 h
  ·exact(hys y hy).2 _ h e2
 have hkp:∀ {y:AV},y∈ [y2,y3,y4]→apart y1 y→∀q,nid y=some q→F q=K q:=fun {y} hy ha q e=>by
  have hy' :y∈ [y1,y2,y3,y4]:=List.mem_cons_of_mem _ hy;refine kF' q (hnid hy' q e) (fun e' =>ha id1 o1.nid (by rw[←e'];exact e)) fun e' =>(hys y hy').2 q e' e
 rw[eF];refine .same (.refl _) ⟨y1,y2,y3,y4,?_,iG.bJ (h0:=G) ?_ fun i hi=>(nG i).1 hi,hgk,fun i b hi hb=>?_⟩
 ·rw[kF k n1k.symm (n2 kk ac4),kk]
  simp[stC,hpp,fX,aX]
 ·refine⟨Cu (X:=.agg (cg s.cases[j] f y')) (.inr ⟨id1,hg1,hOw⟩) hnx (fun q h1 h2 hq=>hlw q h1 h2 hq) fun hh=>⟨f,y',rfl,hof,hl',fun q e1 e2=>?_,fun y hy=>⟨(hys y hy).1,hap2 hy⟩⟩,hoK.rv.keep (hkp ac7 hoK.a12),hoK.nt.keep (hkp ac7 hoK.a13),hoK.rl.keep (hkp ac7 hoK.a14),hoK.a12,hoK.a13,hoK.a14,hoK.a23,hoK.a24,hoK.a34⟩
  have:=hny q e2;subst this;rcases hor' with h|h
  ·exact(of.nid e1).2.1 h
  ·exact hap _ e1 h
 ·have hGi:G i=some b:=by rw[oG i hi];exact hb
  rw[kF i (fun e=>by rw[e,hg1]at hGi;cases hGi) (fun e=>by rw[e,g2]at hGi;cases hGi)]
  exact sK _ _ (hfr i b hi hb)
end Go.Proofs.YtfdgemhnlennbaaGreatDoor
