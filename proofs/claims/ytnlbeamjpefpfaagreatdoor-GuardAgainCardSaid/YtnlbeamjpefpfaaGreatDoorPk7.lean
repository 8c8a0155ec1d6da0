/- The law GuardAgain: pack 7 of its texts. -/
import Derived.Test.YtnlbeamjpefpfaaGreatDoorPk1
import Derived.Test.YtnlbeamjpefpfaaGreatDoorPk2
import Derived.Test.YtnlbeamjpefpfaaGreatDoorPk3
import Derived.Test.YtnlbeamjpefpfaaGreatDoorPk4
import Derived.Test.YtnlbeamjpefpfaaGreatDoorPk5
import Derived.Test.YtnlbeamjpefpfaaGreatDoorPk6
set_option linter.unusedSimpArgs false
set_option linter.unusedVariables false
namespace Go.Bf
open Go Go.Ab Go.Proofs.YtnlbeamjpefpfaaGreatDoor
theorem IM (l:List kZ):eqL oD l l=true:=eS rfl fun j _ _=>(E3 _ _).2 rfl
theorem Ik (l:List xl):eqL oC l l=true:=eS rfl fun j _ _=>(E2 _ _).2 rfl
end Go.Bf
namespace Go.Proofs.YtnlbeamjpefpfaaGreatDoor
open Go Go.Ab Go.Bf
theorem HD {k:Nat} {s:an} (h:iT k s) (o:OpD):M9 (bl s o).2.1.mark∧M9 (bl s o).2.2.1.mark:=by
 have hm:M9 (fS s o).1:=(uS _ _).m9;unfold bl;split
 ·exact ⟨M9.na,M9.na⟩
 ·split
  ·exact ⟨M9.na,M9.na⟩
  ·exact ⟨hm,hm⟩
set_option maxRecDepth 100000 in
theorem xw (x y z:AV) (dx:Dat U 22 x) (dy:Dat U 26 y) (dz:Dat U 26 z) (h:Heap) (he:qw h):ak Tryz.prog 9 [x,y,z] h fun r h' =>r= .v (.bool true)∧h' =h:=by
 obtain ⟨l0,rfl,hl0,h640⟩:=JS dx;obtain ⟨o0,rfl,ho0⟩:=Cy dy;obtain ⟨p0,rfl,hp0⟩:=Cy dz;have haf:=fun (G:Heap) (hG:Ab.Sub h G)=>GM l0 h640 20 (by decide) .no G (he.sub hG)
 have hoq:=fun (G:Heap)=>Dd o0 G
 have hpq:=fun (G:Heap)=>Dd p0 G
 have ho64:xm (xD o0):=ho0;have hp64:xm (xD p0):=hp0;have hG:=vo (lK l0 20);have hll:(lK l0 20).length≤20:=by simp [lK]; omega
 obtain ⟨l,el⟩:∃l,lK l0 20=l:=⟨_,rfl⟩;obtain ⟨s,es⟩:∃s,fR (lK l0 20)=s:=⟨_,rfl⟩;obtain ⟨o,eo⟩:∃o,xD o0=o:=⟨_,rfl⟩;obtain ⟨p,ep⟩:∃p,xD p0=p:=⟨_,rfl⟩;rw [es] at haf hG;rw [el] at hll hG;rw [eo] at hoq ho64;rw [ep] at hpq hp64;have hga:=fun (G:Heap) (hG' :Ab.Sub h G)=>iE s hG (by omega) o ho64 G (he.sub hG')
 have hGa:=j4 o hG;obtain ⟨m1,m2⟩:=HD hG.toiT o;obtain ⟨a,ea⟩:∃t,(bl s o).1=t:=⟨_,rfl⟩;obtain ⟨rr,er⟩:∃t,(bl s o).2.1=t:=⟨_,rfl⟩;obtain ⟨dd,ed⟩:∃t,(bl s o).2.2.1=t:=⟨_,rfl⟩;obtain ⟨ee,eee⟩:∃t,(bl s o).2.2.2=t:=⟨_,rfl⟩;have eg:bl s o=(a,rr,dd,ee):=by rw [←ea,←er,←ed,←eee]
 rw [er] at m1;rw [ed] at m2;rw [ea] at hGa;have hgb:=fun (G:Heap) (hG' :Ab.Sub h G)=>iE a hGa (by omega) p hp64 G (he.sub hG')
 have hlen:=Fq a p;rw [eg] at hga;obtain ⟨b,eb⟩:∃t,(bl a p).1=t:=⟨_,rfl⟩;obtain ⟨r2,er2⟩:∃t,(bl a p).2.1=t:=⟨_,rfl⟩;obtain ⟨d2,ed2⟩:∃t,(bl a p).2.2.1=t:=⟨_,rfl⟩;obtain ⟨e2,ee2⟩:∃t,(bl a p).2.2.2=t:=⟨_,rfl⟩;have eg2:bl a p=(b,r2,d2,e2):=by rw [←eb,←er2,←ed2,←ee2]
 rw [eb] at hlen;rw [eg2] at hgb;have hfin:∀(G:Heap),Ab.Sub h G→ak Tryz.prog 16 [] G fun r h' =>r= .v (.bool true)∧h' =G:=fun G hG=>zF _ (he.sub hG)
 rw [kS,gb,gb] at hga hgb;rw [gb] at haf;obtain ⟨tick,cs,rv,nt,ro,⟨pid,pset,palg,ptgt,prules,pkids,pobls⟩,ver⟩:=s;obtain ⟨tick',cs',rv',nt',ro',⟨pid',pset',palg',ptgt',prules',pkids',pobls'⟩,ver'⟩:=a;obtain ⟨tick2,cs2,rv2,nt2,ro2,⟨pid2,pset2,palg2,ptgt2,prules2,pkids2,pobls2⟩,ver2⟩:=b;simp only [sL,iX,qp,rO,dj,opA,opC] at hga hgb haf hoq hpq;refine ak.body hU hm Tryz.func9 rfl (by kernel_rfl) 120 rfl [.tmp 6] rfl (Wg rfl) (fun hwf=> ?_)
 simp -implicitDefEqProofs only [go_sem,opA,opC];intro i4 h4;simp -implicitDefEqProofs only [go_sem];intro i5 h5;have n54:=aD h5;have k5:=aq h5;simp -implicitDefEqProofs only [go_sem];refine .Pu _ (.quiet [0] 1 (.quiet [2] 3 (.seq [4,5]))) (.refl _) (by kernel_rfl) rfl (by kernel_rfl) rfl ?_
 simp -implicitDefEqProofs only [go_sem,ai,n54.symm];have hsH:Ab.Sub h (upd (upd h i4 (some (.obj [.v (.int .i64 o0.kind), .s o0.subj, .s o0.case, .s o0.field, .s o0.to, .v (.int .i64 o0.val.kind), .v (.int .i64 o0.val.n), .s o0.val.s, .v (.int .i64 o0.review), .s o0.text, .s o0.reason, .v (.bool o0.glass)] 26))) i5 (some (.obj [.v (.int .i64 p0.kind), .s p0.subj, .s p0.case, .s p0.field, .s p0.to, .v (.int .i64 p0.val.kind), .v (.int .i64 p0.val.n), .s p0.val.s, .v (.int .i64 p0.review), .s p0.text, .s p0.reason, .v (.bool p0.glass)] 26))):=(Ab.Sub.aj h4).put k5 _;refine ⟨_,fun G hs=>haf G (hsH.trans hs), ?_⟩
 simp -implicitDefEqProofs only [go_sem];refine ⟨_,fun G hs=>hoq G, ?_⟩
 simp -implicitDefEqProofs only [go_sem];intro i7 h7;have n75:=aD h7;have n74:=aD (aq h7);have k7:=aq (aq h7);simp -implicitDefEqProofs only [go_sem,ai,n54.symm,n74,n74.symm];refine ⟨.aj h7, .aj h7, ?_⟩;refine inH fun H1 w1=> ?_
 have hs1:Ab.Sub h H1:=by rw [w1]; repeat (first|exact .refl _|refine Ab.Sub.put ?_ (by assumption) _)
 have g4:H1 i4=some (.obj [.v (.int .i64 o.kind), .s o.subj, .s o.case, .s o.field, .s o.to, .v (.int .i64 o.val.kind), .v (.int .i64 o.val.n), .s o.val.s, .v (.int .i64 o.review), .s o.text, .s o.reason, .v (.bool o.glass)] 26):=by rw [w1,ah]
 have g5:H1 i5=some (.obj [.v (.int .i64 p0.kind), .s p0.subj, .s p0.case, .s p0.field, .s p0.to, .v (.int .i64 p0.val.kind), .v (.int .i64 p0.val.n), .s p0.val.s, .v (.int .i64 p0.review), .s p0.text, .s p0.reason, .v (.bool p0.glass)] 26):=by rw [w1,ag _ _ n54,ag _ _ n75.symm,ah]
 have g7:H1 i7=some (.obj [.v (.int .i64 tick), .sl (cs.map bI) .no, .sl (rv.map eu) .no, .sl (nt.map gY) .no, .sl (ro.map cB) .no, .s pid, .v (.bool pset), .v (.int .i64 palg),aS ptgt, .sl (prules.map aC) .no, .sl (dQ pkids) .no,ax pobls, .v (.int .i64 ver)] 39):=by rw [w1,ag _ _ n74,ah]
 clear w1;refine (hga _ hs1).pthen ?_;simp -implicitDefEqProofs only [go_sem];intro ja hja;have nn1:∀ {q:Nat} {b:Blk},H1 q=some b→q≠ja:=fun hh e=>by rw [←e,hh] at hja; cases hja
 simp -implicitDefEqProofs only [go_sem];intro jb hjb;have nba:=aD hjb;have kjb:=aq hjb;have nn2:∀ {q:Nat} {b:Blk},H1 q=some b→q≠jb:=fun hh e=>by rw [←e,hh] at kjb; cases kjb
 simp -implicitDefEqProofs only [go_sem];intro jc hjc;have ncb:=aD hjc;have nca:=aD (aq hjc);have kjc:=aq (aq hjc);have nn3:∀ {q:Nat} {b:Blk},H1 q=some b→q≠jc:=fun hh e=>by rw [←e,hh] at kjc; cases kjc
 simp -implicitDefEqProofs only [go_sem,ai,nba,nba.symm,ncb,ncb.symm,nca,nca.symm];have q1:=hs1.none hja;have q2:=hs1.none kjb;have q3:=hs1.none kjc;refine .tree _ (.quiet [0,1] 2 (.quiet [] 3 (.news [4,5,6,7,8] [9,10,11] (.seq [12,13,14,15])))) (.refl _) (by kernel_rfl) rfl ?_
 simp -implicitDefEqProofs only [go_sem,ai,nba.symm,nca.symm,nn1 g5,nn2 g5,nn3 g5,g5];refine ⟨_,fun G hs=>hpq G, ?_⟩
 simp -implicitDefEqProofs only [go_sem];refine ⟨_,fun G hs=>hgb G (Ab.Sub.trans (by repeat (first|exact hs1|refine Ab.Sub.put ?_ (by assumption) _)) hs), ?_⟩
 simp -implicitDefEqProofs only [go_sem];refine ⟨.refl _,by simp, ?_⟩
 intro jd hjd je hje jf hjf;have ned:=aD hje;have kje:=aq hje;have nfe:=aD hjf;have nfd:=aD (aq hjf);have kjf:=aq (aq hjf);simp -implicitDefEqProofs only [go_sem,ai,ned,ned.symm,nfe,nfe.symm,nfd,nfd.symm];refine ⟨by repeat (first|exact .refl _|refine Ab.Sub.put ?_ (by assumption) _),by repeat (first|exact .refl _|refine Ab.Sub.put ?_ (by assumption) _),by repeat (first|exact .refl _|refine Ab.Sub.put ?_ (by assumption) _), ?_⟩
 have ndc:=aD hjd;have ndb:=aD (aq hjd);have nda:=aD (aq (aq hjd));have pjd:H1 jd=none:=aq (aq (aq (aq (aq (aq hjd)))));have mmd:∀ {q:Nat} {b:Blk},H1 q=some b→q≠jd:=fun hh e=>by rw [←e,hh] at pjd; cases pjd
 have qjd:=hs1.none pjd;have nec:=aD kje;have neb:=aD (aq kje);have nea:=aD (aq (aq kje));have pje:H1 je=none:=aq (aq (aq (aq (aq (aq kje)))));have mme:∀ {q:Nat} {b:Blk},H1 q=some b→q≠je:=fun hh e=>by rw [←e,hh] at pje; cases pje
 have qje:=hs1.none pje;have nfc:=aD kjf;have nfb:=aD (aq kjf);have nfa:=aD (aq (aq kjf));have pjf:H1 jf=none:=aq (aq (aq (aq (aq (aq kjf)))));have mmf:∀ {q:Nat} {b:Blk},H1 q=some b→q≠jf:=fun hh e=>by rw [←e,hh] at pjf; cases pjf
 have qjf:=hs1.none pjf;simp -implicitDefEqProofs only [go_sem,ai,nn1 g4,nn1 g7,nn2 g4,nn2 g7,nn3 g4,nn3 g7,g4,g7,mmd g4,mmd g7,mme g4,mme g7,mmf g4,mmf g7];refine inH fun H2 w2=> ?_
 have hs2:Ab.Sub h H2:=by rw [w2]; repeat (first|exact hs1|refine Ab.Sub.put ?_ (by assumption) _)
 have f4:H2 i4=some (.obj [.v (.int .i64 o.kind), .s o.subj, .s o.case, .s o.field, .s o.to, .v (.int .i64 o.val.kind), .v (.int .i64 o.val.n), .s o.val.s, .v (.int .i64 o.review), .s o.text, .s o.reason, .v (.bool o.glass)] 26):=by rw [w2]; simp only [ai,ai,nn1 g4,nn2 g4,nn3 g4,g4,mmd g4,mme g4,mmf g4,not_false_eq_true]
 have f7:H2 i7=some (.obj [.v (.int .i64 tick), .sl (cs.map bI) .no, .sl (rv.map eu) .no, .sl (nt.map gY) .no, .sl (ro.map cB) .no, .s pid, .v (.bool pset), .v (.int .i64 palg),aS ptgt, .sl (prules.map aC) .no, .sl (dQ pkids) .no,ax pobls, .v (.int .i64 ver)] 39):=by rw [w2]; simp only [ai,ai,nn1 g7,nn2 g7,nn3 g7,g7,mmd g7,mme g7,mmf g7,not_false_eq_true]
 have fa:H2 ja=some (.obj [.v (.int .i64 tick'), .sl (cs'.map bI) .no, .sl (rv'.map eu) .no, .sl (nt'.map gY) .no, .sl (ro'.map cB) .no, .s pid', .v (.bool pset'), .v (.int .i64 palg'),aS ptgt', .sl (prules'.map aC) .no, .sl (dQ pkids') .no,ax pobls', .v (.int .i64 ver')] 39):=by rw [w2]; simp only [ai,ah,ai,nba.symm,nca.symm,nda.symm,nea.symm,nfa.symm,not_false_eq_true]
 have fb:H2 jb=some (.obj [.v (.int .i64 rr.err), .v (.complex .f64 (hbit rr.mark.1) (hbit rr.mark.2)), .v (.bool rr.glass), .v (.int .i64 rr.val.kind), .v (.int .i64 rr.val.n), .s rr.val.s, .v (.bool rr.hidden), .v (.int .i64 rr.at_)] 46):=by rw [w2]; simp only [ai,ah,ai,ncb.symm,ndb.symm,neb.symm,nfb.symm,not_false_eq_true]
 have fc:H2 jc=some (.obj [.v (.int .i64 dd.op.kind), .s dd.op.subj, .s dd.op.case, .s dd.op.field, .s dd.op.to, .v (.int .i64 dd.op.val.kind), .v (.int .i64 dd.op.val.n), .s dd.op.val.s, .v (.int .i64 dd.op.review), .s dd.op.text, .s dd.op.reason, .v (.bool dd.op.glass), .v (.int .i64 dd.version), .v (.complex .f64 (hbit dd.mark.1) (hbit dd.mark.2)), .v (.bool dd.glass), .sl (dd.obls.map bf) .no] 48):=by rw [w2]; simp only [ai,ah,ai,ndc.symm,nec.symm,nfc.symm,not_false_eq_true]
 have fd:H2 jd=some (.obj [.v (.int .i64 tick2), .sl (cs2.map bI) .no, .sl (rv2.map eu) .no, .sl (nt2.map gY) .no, .sl (ro2.map cB) .no, .s pid2, .v (.bool pset2), .v (.int .i64 palg2),aS ptgt2, .sl (prules2.map aC) .no, .sl (dQ pkids2) .no,ax pobls2, .v (.int .i64 ver2)] 39):=by rw [w2]; simp only [ai,ah,ai,ned.symm,nfd.symm,not_false_eq_true]
 clear w2;refine (hga _ hs2).pthen ?_;simp -implicitDefEqProofs only [go_sem];intro jg hjg;have mg:∀ {q:Nat} {b:Blk},H2 q=some b→q≠jg:=fun hh e=>by rw [←e,hh] at hjg; cases hjg
 simp -implicitDefEqProofs only [go_sem];intro jh hjh;have nhg:=aD hjh;have kjh:=aq hjh;have mh:∀ {q:Nat} {b:Blk},H2 q=some b→q≠jh:=fun hh e=>by rw [←e,hh] at kjh; cases kjh
 simp -implicitDefEqProofs only [go_sem];intro ji hji;have nih:=aD hji;have nig:=aD (aq hji);have kji:=aq (aq hji);have mi:∀ {q:Nat} {b:Blk},H2 q=some b→q≠ji:=fun hh e=>by rw [←e,hh] at kji; cases kji
 have q4:=hs2.none hjg;have q5:=hs2.none kjh;have q6:=hs2.none kji;simp -implicitDefEqProofs only [go_sem,ai,mg fa,nhg,nhg.symm,mh fa,nih,nih.symm,nig,nig.symm,mi fa,fa,beq_self_eq_true];refine (G0 (crows cs') (crows cs') .no .no _).pthen ?_;rw [Cm];simp -implicitDefEqProofs only [go_sem,ai,mg fa,nhg.symm,mh fa,nig.symm,mi fa,fa];refine (Dq rv' rv' .no .no _).pthen ?_;rw [IM];simp -implicitDefEqProofs only [go_sem,ai,mg fa,nhg.symm,mh fa,nig.symm,mi fa,fa];refine (Dn nt' nt' .no .no _).pthen ?_;rw [Ik];simp -implicitDefEqProofs only [go_sem,ai,mg fa,nhg.symm,mh fa,nig.symm,mi fa,fa];refine (BR ro' ro' .no .no _).pthen ?_;rw [F3];have qm:eqC (.v (.complex .f64 (hbit rr.mark.1) (hbit rr.mark.2))) (.v (.complex .f64 (hbit rr.mark.1) (hbit rr.mark.2)))=true:=by
  have:=AH m1 m1;rw [beq_self_eq_true] at this;exact this
 have hl3:decide ((cs'.length:Int)≤(cs2.length:Int))=true:=decide_eq_true (by simp only at hlen; omega)
 simp -implicitDefEqProofs only [go_sem,ai,mg fb,mg fc,mh fb,mh fc,nih.symm,mi fb,mi fc,fb,fc,beq_self_eq_true,qm,Bool.and_self];refine (show ak Tryz.prog _ [.sl [.agg (qD dd)] .full, .sl [.agg (qD dd)] .full] _ _ from FJ dd m2 .full .full _).pthen ?_
 simp -implicitDefEqProofs only [go_sem,ai,mg fa,mg fd,mh fa,mh fd,mi fa,mi fd,fa,fd,Wh,hl3];refine (hfin _ ?_).pthen ?_
 ·repeat (first|exact hs2|refine Ab.Sub.put ?_ (by assumption) _)
 simp -implicitDefEqProofs only [go_sem];refine .mk _ (.refl _) ?_ ⟨rfl,rfl⟩
 repeat (first|exact hs2|refine Ab.Sub.put ?_ (by assumption) _)
theorem vK (ev:Value) (hev:ev= .nilIface∨∃te pe,ev= .iface te pe) (x y z:AV) (dx:Dat U 22 x) (dy:Dat U 26 y) (dz:Dat U 26 z):ak Tryz.prog 9 [x,y,z] (uL [(3,zR),(2,[ev])]) fun r _=>r= .v (.bool true):=(xw x y z dx dy dz _ (Ge hev)).mono fun _ _ h=>h.1
end Go.Proofs.YtnlbeamjpefpfaaGreatDoor
