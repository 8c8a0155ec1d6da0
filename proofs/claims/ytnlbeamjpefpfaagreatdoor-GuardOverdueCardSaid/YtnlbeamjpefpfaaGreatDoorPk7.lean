/- The law GuardOverdue: pack 7 of its texts. -/
import Derived.Test.YtnlbeamjpefpfaaGreatDoorPk1
import Derived.Test.YtnlbeamjpefpfaaGreatDoorPk2
import Derived.Test.YtnlbeamjpefpfaaGreatDoorPk3
import Derived.Test.YtnlbeamjpefpfaaGreatDoorPk4
import Derived.Test.YtnlbeamjpefpfaaGreatDoorPk5
import Derived.Test.YtnlbeamjpefpfaaGreatDoorPk6
set_option linter.unusedSimpArgs false
set_option linter.unusedVariables false
namespace Go.Bf
open Go Go.Ab Go.Proofs.YtnlbeamjpefpfaaGreatDoor
theorem Bj:fU (ni [wg,Bg,Bh] 9)=HZ:=by kernel_rfl
theorem gN (n:Int) (b:Bool):sL (odS n b)= [.v (.int .i64 n), .sl ([odC].map bP) .no, .sl [fH (we b)] .no, .sl [] .no, .sl ([⟨gG,iS⟩].map dD) .no, .s [112], .v (.bool false), .v (.int .i64 3), .sl [] .no, .sl ([⟨[97],true,[[[odM]]],[],[]⟩,⟨[98],false,[],[],[]⟩].map aD) .no, .sl [] .no, .sl [] .no, .v (.int .i64 1)]:=rfl
theorem K9:sL HZ= [.v (.int .i64 0), .sl ([Ph].map bP) .no, .sl [] .no, .sl [] .no, .sl ([⟨gG,iS⟩].map dD) .no, .s [112], .v (.bool false), .v (.int .i64 3), .sl [] .no, .sl ([⟨[97],true,[[[odM]]],[],[]⟩,⟨[98],false,[],[],[]⟩].map aD) .no, .sl [] .no, .sl [] .no, .v (.int .i64 1)]:=rfl
end Go.Bf
namespace Go.Proofs.YtnlbeamjpefpfaaGreatDoor
open Go Go.Ab Go.Bf
set_option maxRecDepth 100000 in
set_option maxHeartbeats 400000 in
theorem uB (m:Int) (hm' :i64 m) (b:Bool) (h:Heap) (he:qs h):ak Tryz.prog 10 [.v (.int .i64 m), .v (.bool b)] h fun r h' =>r= .v (.bool true)∧h' =h:=by
 have lit:∀k:Int,0≤k→k≤1000→i64 k:=fun k a b=>⟨by omega,by omega⟩
 have z:i64 0:=lit 0 (by decide) (by decide)
 have hops:∀o∈ [wg,Bg,Bh],y8 o:=by
  simp only [List.mem_cons,List.not_mem_nil,or_false]
  rintro o (rfl|rfl|rfl)
  ·exact ⟨lit 6 (by decide) (by decide),z,z,z⟩
  ·exact ⟨lit 1 (by decide) (by decide),z,z,z⟩
  ·exact ⟨lit 7 (by decide) (by decide),z,z,z⟩
 have haf:=fun (G:Heap) (hG:Ab.Sub h G)=>Gy [wg,Bg,Bh] hops 9 (by decide) .full G (he.sub hG)
 have hG0:iD 3 HZ:=by have:=vh (ni [wg,Bg,Bh] 9); rw [Bj] at this; exact this
 rw [Bj,aY,K9] at haf;have hG1:iD 4 (odS 0 true):=by have:=fB odW hG0; rw [Bi] at this; exact this
 have hW64:y8 odW:=⟨lit 3 (by decide) (by decide),lit 2 (by decide) (by decide),lit 1 (by decide) (by decide),z⟩
 have hg1:=fun (G:Heap) (hG:Ab.Sub h G)=>cG HZ hG0 (by decide) odW hW64 G (he.sub hG)
 rw [Bi,dL,aY,aY,K9,gN] at hg1;have ea:∀ρ,ev ρ (.const (.string {data:= #[112,111,108,105,99,121,32,112,32,102,105,114,115,116,32,123,32,100,101,110,121,32,97,32,119,104,101,110,32,40,97,99,116,105,111,110,46,110,97,109,101,32,61,32,35,119,114,105,116,101,41,59,32,112,101,114,109,105,116,32,98,59,32,125]}))=some (.s C5):=fun ρ=>cQ (l:=C5) (by decide)
 have hfin:∀(G:Heap),Ab.Sub h G→ak Tryz.prog 16 [] G fun r h' =>r= .v (.bool true)∧h' =G:=fun G hG=>zz _ (he.sub hG)
 refine ak.body hU hm Tryz.func10 rfl (by kernel_rfl) 126 rfl [.tmp 4] rfl (VH rfl) (fun hwf=> ?_)
 simp -implicitDefEqProofs only [go_sem,ea];refine (show ak Tryz.prog _ [.sl ([wg,Bg,Bh].map opA) .full, .v (.int .i64 (9:Nat))] _ _ from haf _ (.refl _)).pthen ?_
 simp -implicitDefEqProofs only [go_sem];intro i7 h7;simp -implicitDefEqProofs only [go_sem];intro i8 h8;have n87:=aB h8;have k8:=aq h8;simp -implicitDefEqProofs only [go_sem,ai,n87,n87.symm];refine (show ak Tryz.prog _ [_,opA odW] _ _ from hg1 _ ((Ab.Sub.aj h7).put k8 _)).pthen ?_
 simp -implicitDefEqProofs only [go_sem,ai,n87,n87.symm];intro i9 h9;have n98:=aB h9;have n97:=aB (aq h9);have k9:=aq (aq h9);simp -implicitDefEqProofs only [go_sem,ai,n87,n87.symm,n98,n98.symm,n97,n97.symm];intro ia ha;have na9:=aB ha;have na8:=aB (aq ha);have na7:=aB (aq (aq ha));have ka:=aq (aq (aq ha));simp -implicitDefEqProofs only [go_sem,ai,n87,n87.symm,n98,n98.symm,n97,n97.symm,na9,na9.symm,na8,na8.symm,na7,na7.symm];refine inH fun H1 w1=> ?_
 have hs1:Ab.Sub h H1:=by rw [w1]; repeat (first|exact .refl _|refine Ab.Sub.put ?_ (by assumption) _)
 have g7:H1 i7=some (.obj (sL (odS 0 true)) 39):=by rw [w1,gN]; simp only [ai,ah,n87,n87.symm,n98,n98.symm,n97,n97.symm,na9,na9.symm,na8,na8.symm,na7,na7.symm,ne_eq,not_false_eq_true]; rfl
 have g8:H1 i8=some (.obj (opC odW) 26):=by rw [w1]; simp only [ai,ah,n87,n87.symm,n98,n98.symm,n97,n97.symm,na9,na9.symm,na8,na8.symm,na7,na7.symm,ne_eq,not_false_eq_true]; rfl
 clear w1;refine (show ak Tryz.prog _ [.v (.int .i64 m), .v (.int .i64 0), .v (.int .i64 (199:Nat))] _ _ from Gi m 199 _ hm' (by decide)).pthen ?_
 have hn:=Dz m 199;obtain ⟨n,en⟩:∃n,pQ m 199=n:=⟨_,rfl⟩;rw [en] at hn;rw [en];rw [gN] at g7;simp only [opC,odW] at g8;have tail:∀(H2:Heap),Ab.Sub h H2→True:=fun _ _=>trivial
 by_cases hn0:n=0
 ·have d0:decide ((0:Int)<(n:Int))=false:=decide_eq_false (by omega)
  have dh:decide ((100:Int)≤(n:Int))=false:=decide_eq_false (by omega)
  simp -implicitDefEqProofs only [go_sem,g7,g8,d0];subst hn0;have dh:decide ((100:Int)≤0)=false:=rfl;cases b
  ·simp -implicitDefEqProofs only [go_sem,g7,g8,dh,ah,ai,n87,n87.symm]
   have ga:(aE (odS 0 true) odW).2.2.2=0∧(aE (odS 0 true) odW).2.1.glass=true∧(aE (odS 0 true) odW).2.1.err=0:=by
    have:=mJ 0 true;simp only [dh,Bool.true_and,Bool.false_and,Bool.not_true,Bool.not_false,if_true,Bool.false_eq_true,if_false] at this;exact this
   have gl:=hY 0 true;simp only [dh,Bool.true_and,Bool.false_and] at gl;have hga:=fun (G:Heap) (hG:Ab.Sub h G)=>cG (odS 0 true) hG1 (by decide) odW hW64 G (he.sub hG)
   obtain ⟨S2,eS⟩:∃t,(aE (odS 0 true) odW).1=t:=⟨_,rfl⟩;obtain ⟨rr,er⟩:∃t,(aE (odS 0 true) odW).2.1=t:=⟨_,rfl⟩;obtain ⟨dd,ed⟩:∃t,(aE (odS 0 true) odW).2.2.1=t:=⟨_,rfl⟩;obtain ⟨ga1,ga2,ga3⟩:=ga;have ega:aE (odS 0 true) odW=(S2,rr,dd,0):=Prod.ext eS (Prod.ext er (Prod.ext ed ga1));rw [er] at ga2 ga3;rw [ega,dL,aY,aY,gN,ga2,ga3] at hga;obtain ⟨tick',cs',rv',nt',ro',⟨pid',pset',palg',ptgt',prules',pkids',pobls'⟩,ver'⟩:=S2;simp only [opA,opC,odW,ax,sL] at hga;refine (hga _ ?_).pthen ?_
   ·exact hs1
   simp -implicitDefEqProofs only [go_sem,ah,ai,n87,n87.symm,g7,g8];intro ja hja;have pja:H1 ja=none:=hja;have a7:i7≠ja:=fun e=>by rw [←e,g7] at pja; cases pja
   have a8:i8≠ja:=fun e=>by rw [←e,g8] at pja; cases pja
   simp -implicitDefEqProofs only [go_sem,ah,ai,n87,n87.symm,g7,g8,a7,a7.symm,a8,a8.symm];intro jb hjb;have nba:=aB hjb;have pjb:H1 jb=none:=aq hjb;have b7:i7≠jb:=fun e=>by rw [←e,g7] at pjb; cases pjb
   have b8:i8≠jb:=fun e=>by rw [←e,g8] at pjb; cases pjb
   simp -implicitDefEqProofs only [go_sem,ah,ai,n87,n87.symm,g7,g8,a7,a7.symm,a8,a8.symm,b7,b7.symm,b8,b8.symm,nba,nba.symm];intro jc hjc;have ncb:=aB hjc;have nca:=aB (aq hjc);have pjc:H1 jc=none:=aq (aq hjc);have c7:i7≠jc:=fun e=>by rw [←e,g7] at pjc; cases pjc
   have c8:i8≠jc:=fun e=>by rw [←e,g8] at pjc; cases pjc
   simp -implicitDefEqProofs only [go_sem,ah,ai,n87,n87.symm,g7,g8,a7,a7.symm,a8,a8.symm,b7,b7.symm,b8,b8.symm,nba,nba.symm,c7,c7.symm,c8,c8.symm,nca,nca.symm,ncb,ncb.symm];refine inH fun H2 e2=> ?_
   have qa:=hs1.none pja;have qb:=hs1.none pjb;have qc:=hs1.none pjc;have gl3:gS (odS 0 true)= []:=by
    rw [(hY 0 true).2.2]
    first|rfl|(simp only [VK dh,and_self,if_true]; done)|(have:=VL dh; simp; omega)
   have hs2:Ab.Sub h H2:=by rw [e2]; exact ((((((hs1).put qa _).put qb _).put qc _).put qa _).put qb _).put qc _
   have f7:H2 i7=some (.obj (sL (odS 0 true)) 39):=by rw [e2,gN]; simp only [ah,ai,n87,n87.symm,g7,g8,a7,a7.symm,a8,a8.symm,b7,b7.symm,b8,b8.symm,nba,nba.symm,c7,c7.symm,c8,c8.symm,nca,nca.symm,ncb,ncb.symm,ne_eq,not_false_eq_true]<;>rfl
   have fb:H2 jb=some (.obj [.v (.int .i64 0), .v (.complex .f64 (hbit rr.mark.1) (hbit rr.mark.2)), .v (.bool true), .v (.int .i64 rr.val.kind), .v (.int .i64 rr.val.n), .s rr.val.s, .v (.bool rr.hidden), .v (.int .i64 rr.at_)] 46):=by rw [e2]; simp only [ah,ai,n87,n87.symm,g7,g8,a7,a7.symm,a8,a8.symm,b7,b7.symm,b8,b8.symm,nba,nba.symm,c7,c7.symm,c8,c8.symm,nca,nca.symm,ncb,ncb.symm,ne_eq,not_false_eq_true]
   clear e2;rw [gN] at f7;have la:=fun (t:Txt) (G:Heap)=>mX (odS 0 true) t (by show 1≤1000000; omega) ⟨by simp only [odS]; omega,by simp only [odS]; omega⟩ hG1.ticks G
   have lo:=fun (G:Heap)=>jP (odS 0 true) (by show 1≤1000000; omega) ⟨by simp only [odS]; omega,by simp only [odS]; omega⟩ hG1.ticks G
   rw [aY,gN] at la lo;refine (show ak Tryz.prog _ [_, .s gG] _ _ from la gG _).pthen ?_
   rw [gl.1];simp -implicitDefEqProofs only [go_sem,f7,fb,dh];refine (show ak Tryz.prog _ [_, .s iE] _ _ from la iE _).pthen ?_
   rw [gl.2.1];simp -implicitDefEqProofs only [go_sem,f7,fb,dh];refine (lo _).pthen ?_;rw [gl3];simp -implicitDefEqProofs only [go_sem,f7,fb,dh,List.map_nil,List.map_cons,List.length_nil,List.length_cons];refine (hfin _ hs2).pthen ?_;simp -implicitDefEqProofs only [go_sem,f7,fb,dh];exact .mk _ (.refl _) hs2 ⟨rfl,rfl⟩
  ·simp -implicitDefEqProofs only [go_sem,g7,g8,dh,ah,ai,n87,n87.symm]
   have hgc:=fun (G:Heap) (hG:Ab.Sub h G)=>cG (odS 0 true) hG1 (by decide) jN ⟨lit 5 (by decide) (by decide),z,z,lit 1 (by decide) (by decide)⟩ G (he.sub hG)
   have hGc:iD 5 (odS 0 false):=by have:=fB jN hG1; rw [mK] at this; exact this
   have egc1:=mK 0;obtain ⟨rc,erc⟩:∃t,(aE (odS 0 true) jN).2.1=t:=⟨_,rfl⟩;obtain ⟨dc,edc⟩:∃t,(aE (odS 0 true) jN).2.2.1=t:=⟨_,rfl⟩;obtain ⟨ec,eec⟩:∃t,(aE (odS 0 true) jN).2.2.2=t:=⟨_,rfl⟩;have egc:aE (odS 0 true) jN=(odS 0 false,rc,dc,ec):=Prod.ext egc1 (Prod.ext erc (Prod.ext edc eec));rw [egc,dL,aY,aY,gN,gN] at hgc;simp only [opA,opC,jN,ax] at hgc;refine (hgc _ ?_).pthen ?_
   ·exact hs1
   simp -implicitDefEqProofs only [go_sem,ah,ai,n87,n87.symm,g7,g8,dh];have ga:(aE (odS 0 false) odW).2.2.2=0∧(aE (odS 0 false) odW).2.1.glass=true∧(aE (odS 0 false) odW).2.1.err=0:=by
    have:=mJ 0 false;simp only [dh,Bool.true_and,Bool.false_and,Bool.not_true,Bool.not_false,if_true,Bool.false_eq_true,if_false] at this;exact this
   have gl:=hY 0 false;simp only [dh,Bool.true_and,Bool.false_and] at gl;have hga:=fun (G:Heap) (hG:Ab.Sub h G)=>cG (odS 0 false) hGc (by decide) odW hW64 G (he.sub hG)
   obtain ⟨S2,eS⟩:∃t,(aE (odS 0 false) odW).1=t:=⟨_,rfl⟩;obtain ⟨rr,er⟩:∃t,(aE (odS 0 false) odW).2.1=t:=⟨_,rfl⟩;obtain ⟨dd,ed⟩:∃t,(aE (odS 0 false) odW).2.2.1=t:=⟨_,rfl⟩;obtain ⟨ga1,ga2,ga3⟩:=ga;have ega:aE (odS 0 false) odW=(S2,rr,dd,0):=Prod.ext eS (Prod.ext er (Prod.ext ed ga1));rw [er] at ga2 ga3;rw [ega,dL,aY,aY,gN,ga2,ga3] at hga;obtain ⟨tick',cs',rv',nt',ro',⟨pid',pset',palg',ptgt',prules',pkids',pobls'⟩,ver'⟩:=S2;simp only [opA,opC,odW,ax,sL] at hga;refine (hga _ ?_).pthen ?_
   ·exact hs1.put h7 _
   simp -implicitDefEqProofs only [go_sem,ah,ai,n87,n87.symm,g7,g8];intro ja hja;have pja:H1 ja=none:=aq hja;have a7:i7≠ja:=fun e=>by rw [←e,g7] at pja; cases pja
   have a8:i8≠ja:=fun e=>by rw [←e,g8] at pja; cases pja
   simp -implicitDefEqProofs only [go_sem,ah,ai,n87,n87.symm,g7,g8,a7,a7.symm,a8,a8.symm];intro jb hjb;have nba:=aB hjb;have pjb:H1 jb=none:=aq (aq hjb);have b7:i7≠jb:=fun e=>by rw [←e,g7] at pjb; cases pjb
   have b8:i8≠jb:=fun e=>by rw [←e,g8] at pjb; cases pjb
   simp -implicitDefEqProofs only [go_sem,ah,ai,n87,n87.symm,g7,g8,a7,a7.symm,a8,a8.symm,b7,b7.symm,b8,b8.symm,nba,nba.symm];intro jc hjc;have ncb:=aB hjc;have nca:=aB (aq hjc);have pjc:H1 jc=none:=aq (aq (aq hjc));have c7:i7≠jc:=fun e=>by rw [←e,g7] at pjc; cases pjc
   have c8:i8≠jc:=fun e=>by rw [←e,g8] at pjc; cases pjc
   simp -implicitDefEqProofs only [go_sem,ah,ai,n87,n87.symm,g7,g8,a7,a7.symm,a8,a8.symm,b7,b7.symm,b8,b8.symm,nba,nba.symm,c7,c7.symm,c8,c8.symm,nca,nca.symm,ncb,ncb.symm];refine inH fun H2 e2=> ?_
   have qa:=hs1.none pja;have qb:=hs1.none pjb;have qc:=hs1.none pjc;have gl3:gS (odS 0 false)= []:=by
    rw [(hY 0 false).2.2]
    first|rfl|(simp only [VK dh,and_self,if_true]; done)|(have:=VL dh; simp; omega)
   have hs2:Ab.Sub h H2:=by rw [e2]; exact ((((((hs1.put h7 _).put qa _).put qb _).put qc _).put qa _).put qb _).put qc _
   have f7:H2 i7=some (.obj (sL (odS 0 false)) 39):=by rw [e2,gN]; simp only [ah,ai,n87,n87.symm,g7,g8,a7,a7.symm,a8,a8.symm,b7,b7.symm,b8,b8.symm,nba,nba.symm,c7,c7.symm,c8,c8.symm,nca,nca.symm,ncb,ncb.symm,ne_eq,not_false_eq_true]<;>rfl
   have fb:H2 jb=some (.obj [.v (.int .i64 0), .v (.complex .f64 (hbit rr.mark.1) (hbit rr.mark.2)), .v (.bool true), .v (.int .i64 rr.val.kind), .v (.int .i64 rr.val.n), .s rr.val.s, .v (.bool rr.hidden), .v (.int .i64 rr.at_)] 46):=by rw [e2]; simp only [ah,ai,n87,n87.symm,g7,g8,a7,a7.symm,a8,a8.symm,b7,b7.symm,b8,b8.symm,nba,nba.symm,c7,c7.symm,c8,c8.symm,nca,nca.symm,ncb,ncb.symm,ne_eq,not_false_eq_true]
   clear e2;rw [gN] at f7;have la:=fun (t:Txt) (G:Heap)=>mX (odS 0 false) t (by show 1≤1000000; omega) ⟨by simp only [odS]; omega,by simp only [odS]; omega⟩ hGc.ticks G
   have lo:=fun (G:Heap)=>jP (odS 0 false) (by show 1≤1000000; omega) ⟨by simp only [odS]; omega,by simp only [odS]; omega⟩ hGc.ticks G
   rw [aY,gN] at la lo;refine (show ak Tryz.prog _ [_, .s gG] _ _ from la gG _).pthen ?_
   rw [gl.1];simp -implicitDefEqProofs only [go_sem,f7,fb,dh];refine (show ak Tryz.prog _ [_, .s iE] _ _ from la iE _).pthen ?_
   rw [gl.2.1];simp -implicitDefEqProofs only [go_sem,f7,fb,dh];refine (lo _).pthen ?_;rw [gl3];simp -implicitDefEqProofs only [go_sem,f7,fb,dh,List.map_nil,List.map_cons,List.length_nil,List.length_cons];refine (hfin _ hs2).pthen ?_;simp -implicitDefEqProofs only [go_sem,f7,fb,dh];exact .mk _ (.refl _) hs2 ⟨rfl,rfl⟩
 ·have d0:decide ((0:Int)<(n:Int))=true:=decide_eq_true (by omega)
  obtain ⟨t1,t2⟩:=Ka (n:=(n:Int)) (by omega) (by omega)
  have ht64:y8 (tkO iE n):=⟨lit 8 (by decide) (by decide),z,z,lit n (by omega) (by omega)⟩
  have hg2:=fun (G:Heap) (hG:Ab.Sub h G)=>cG (odS 0 true) hG1 (by decide) (tkO iE n) ht64 G (he.sub hG)
  have hG2:iD 5 (odS n true):=by have:=fB (tkO iE n) hG1; rw [t1] at this; exact this
  obtain ⟨rt,ert⟩:∃t,(aE (odS 0 true) (tkO iE n)).2.1=t:=⟨_,rfl⟩;obtain ⟨dt,edt⟩:∃t,(aE (odS 0 true) (tkO iE n)).2.2.1=t:=⟨_,rfl⟩;have eg:aE (odS 0 true) (tkO iE n)=(odS n true,rt,dt,0):=Prod.ext t1 (Prod.ext ert (Prod.ext edt t2));rw [eg,dL,aY,aY,gN,gN] at hg2;simp only [opA,opC,tkO,ax] at hg2;simp -implicitDefEqProofs only [go_sem,g7,g8,d0];refine (hg2 _ hs1).pthen ?_;simp -implicitDefEqProofs only [go_sem,g7,g8];cases dh:decide ((100:Int)≤(n:Int))
  ·cases b
   ·simp -implicitDefEqProofs only [go_sem,g7,g8,dh,ah,ai,n87,n87.symm]
    have ga:(aE (odS n true) odW).2.2.2=0∧(aE (odS n true) odW).2.1.glass=true∧(aE (odS n true) odW).2.1.err=0:=by
     have:=mJ n true;simp only [dh,Bool.true_and,Bool.false_and,Bool.not_true,Bool.not_false,if_true,Bool.false_eq_true,if_false] at this;exact this
    have gl:=hY n true;simp only [dh,Bool.true_and,Bool.false_and] at gl;have hga:=fun (G:Heap) (hG:Ab.Sub h G)=>cG (odS n true) hG2 (by decide) odW hW64 G (he.sub hG)
    obtain ⟨S2,eS⟩:∃t,(aE (odS n true) odW).1=t:=⟨_,rfl⟩;obtain ⟨rr,er⟩:∃t,(aE (odS n true) odW).2.1=t:=⟨_,rfl⟩;obtain ⟨dd,ed⟩:∃t,(aE (odS n true) odW).2.2.1=t:=⟨_,rfl⟩;obtain ⟨ga1,ga2,ga3⟩:=ga;have ega:aE (odS n true) odW=(S2,rr,dd,0):=Prod.ext eS (Prod.ext er (Prod.ext ed ga1));rw [er] at ga2 ga3;rw [ega,dL,aY,aY,gN,ga2,ga3] at hga;obtain ⟨tick',cs',rv',nt',ro',⟨pid',pset',palg',ptgt',prules',pkids',pobls'⟩,ver'⟩:=S2;simp only [opA,opC,odW,ax,sL] at hga;refine (hga _ ?_).pthen ?_
    ·exact hs1.put h7 _
    simp -implicitDefEqProofs only [go_sem,ah,ai,n87,n87.symm,g7,g8];intro ja hja;have pja:H1 ja=none:=aq hja;have a7:i7≠ja:=fun e=>by rw [←e,g7] at pja; cases pja
    have a8:i8≠ja:=fun e=>by rw [←e,g8] at pja; cases pja
    simp -implicitDefEqProofs only [go_sem,ah,ai,n87,n87.symm,g7,g8,a7,a7.symm,a8,a8.symm];intro jb hjb;have nba:=aB hjb;have pjb:H1 jb=none:=aq (aq hjb);have b7:i7≠jb:=fun e=>by rw [←e,g7] at pjb; cases pjb
    have b8:i8≠jb:=fun e=>by rw [←e,g8] at pjb; cases pjb
    simp -implicitDefEqProofs only [go_sem,ah,ai,n87,n87.symm,g7,g8,a7,a7.symm,a8,a8.symm,b7,b7.symm,b8,b8.symm,nba,nba.symm];intro jc hjc;have ncb:=aB hjc;have nca:=aB (aq hjc);have pjc:H1 jc=none:=aq (aq (aq hjc));have c7:i7≠jc:=fun e=>by rw [←e,g7] at pjc; cases pjc
    have c8:i8≠jc:=fun e=>by rw [←e,g8] at pjc; cases pjc
    simp -implicitDefEqProofs only [go_sem,ah,ai,n87,n87.symm,g7,g8,a7,a7.symm,a8,a8.symm,b7,b7.symm,b8,b8.symm,nba,nba.symm,c7,c7.symm,c8,c8.symm,nca,nca.symm,ncb,ncb.symm];refine inH fun H2 e2=> ?_
    have qa:=hs1.none pja;have qb:=hs1.none pjb;have qc:=hs1.none pjc;have gl3:gS (odS n true)= []:=by
     rw [(hY n true).2.2]
     first|rfl|(simp only [VK dh,and_self,if_true]; done)|(have:=VL dh; simp; omega)
    have hs2:Ab.Sub h H2:=by rw [e2]; exact ((((((hs1.put h7 _).put qa _).put qb _).put qc _).put qa _).put qb _).put qc _
    have f7:H2 i7=some (.obj (sL (odS n true)) 39):=by rw [e2,gN]; simp only [ah,ai,n87,n87.symm,g7,g8,a7,a7.symm,a8,a8.symm,b7,b7.symm,b8,b8.symm,nba,nba.symm,c7,c7.symm,c8,c8.symm,nca,nca.symm,ncb,ncb.symm,ne_eq,not_false_eq_true]<;>rfl
    have fb:H2 jb=some (.obj [.v (.int .i64 0), .v (.complex .f64 (hbit rr.mark.1) (hbit rr.mark.2)), .v (.bool true), .v (.int .i64 rr.val.kind), .v (.int .i64 rr.val.n), .s rr.val.s, .v (.bool rr.hidden), .v (.int .i64 rr.at_)] 46):=by rw [e2]; simp only [ah,ai,n87,n87.symm,g7,g8,a7,a7.symm,a8,a8.symm,b7,b7.symm,b8,b8.symm,nba,nba.symm,c7,c7.symm,c8,c8.symm,nca,nca.symm,ncb,ncb.symm,ne_eq,not_false_eq_true]
    clear e2;rw [gN] at f7;have la:=fun (t:Txt) (G:Heap)=>mX (odS n true) t (by show 1≤1000000; omega) ⟨by simp only [odS]; omega,by simp only [odS]; omega⟩ hG2.ticks G
    have lo:=fun (G:Heap)=>jP (odS n true) (by show 1≤1000000; omega) ⟨by simp only [odS]; omega,by simp only [odS]; omega⟩ hG2.ticks G
    rw [aY,gN] at la lo;refine (show ak Tryz.prog _ [_, .s gG] _ _ from la gG _).pthen ?_
    rw [gl.1];simp -implicitDefEqProofs only [go_sem,f7,fb,dh];refine (show ak Tryz.prog _ [_, .s iE] _ _ from la iE _).pthen ?_
    rw [gl.2.1];simp -implicitDefEqProofs only [go_sem,f7,fb,dh];refine (lo _).pthen ?_;rw [gl3];simp -implicitDefEqProofs only [go_sem,f7,fb,dh,List.map_nil,List.map_cons,List.length_nil,List.length_cons];refine (hfin _ hs2).pthen ?_;simp -implicitDefEqProofs only [go_sem,f7,fb,dh];exact .mk _ (.refl _) hs2 ⟨rfl,rfl⟩
   ·simp -implicitDefEqProofs only [go_sem,g7,g8,dh,ah,ai,n87,n87.symm]
    have hgc:=fun (G:Heap) (hG:Ab.Sub h G)=>cG (odS n true) hG2 (by decide) jN ⟨lit 5 (by decide) (by decide),z,z,lit 1 (by decide) (by decide)⟩ G (he.sub hG)
    have hGc:iD 6 (odS n false):=by have:=fB jN hG2; rw [mK] at this; exact this
    have egc1:=mK n;obtain ⟨rc,erc⟩:∃t,(aE (odS n true) jN).2.1=t:=⟨_,rfl⟩;obtain ⟨dc,edc⟩:∃t,(aE (odS n true) jN).2.2.1=t:=⟨_,rfl⟩;obtain ⟨ec,eec⟩:∃t,(aE (odS n true) jN).2.2.2=t:=⟨_,rfl⟩;have egc:aE (odS n true) jN=(odS n false,rc,dc,ec):=Prod.ext egc1 (Prod.ext erc (Prod.ext edc eec));rw [egc,dL,aY,aY,gN,gN] at hgc;simp only [opA,opC,jN,ax] at hgc;refine (hgc _ ?_).pthen ?_
    ·exact hs1.put h7 _
    simp -implicitDefEqProofs only [go_sem,ah,ai,n87,n87.symm,g7,g8,dh];have ga:(aE (odS n false) odW).2.2.2=0∧(aE (odS n false) odW).2.1.glass=true∧(aE (odS n false) odW).2.1.err=0:=by
     have:=mJ n false;simp only [dh,Bool.true_and,Bool.false_and,Bool.not_true,Bool.not_false,if_true,Bool.false_eq_true,if_false] at this;exact this
    have gl:=hY n false;simp only [dh,Bool.true_and,Bool.false_and] at gl;have hga:=fun (G:Heap) (hG:Ab.Sub h G)=>cG (odS n false) hGc (by decide) odW hW64 G (he.sub hG)
    obtain ⟨S2,eS⟩:∃t,(aE (odS n false) odW).1=t:=⟨_,rfl⟩;obtain ⟨rr,er⟩:∃t,(aE (odS n false) odW).2.1=t:=⟨_,rfl⟩;obtain ⟨dd,ed⟩:∃t,(aE (odS n false) odW).2.2.1=t:=⟨_,rfl⟩;obtain ⟨ga1,ga2,ga3⟩:=ga;have ega:aE (odS n false) odW=(S2,rr,dd,0):=Prod.ext eS (Prod.ext er (Prod.ext ed ga1));rw [er] at ga2 ga3;rw [ega,dL,aY,aY,gN,ga2,ga3] at hga;obtain ⟨tick',cs',rv',nt',ro',⟨pid',pset',palg',ptgt',prules',pkids',pobls'⟩,ver'⟩:=S2;simp only [opA,opC,odW,ax,sL] at hga;refine (hga _ ?_).pthen ?_
    ·exact hs1.put h7 _
    simp -implicitDefEqProofs only [go_sem,ah,ai,n87,n87.symm,g7,g8];intro ja hja;have pja:H1 ja=none:=aq hja;have a7:i7≠ja:=fun e=>by rw [←e,g7] at pja; cases pja
    have a8:i8≠ja:=fun e=>by rw [←e,g8] at pja; cases pja
    simp -implicitDefEqProofs only [go_sem,ah,ai,n87,n87.symm,g7,g8,a7,a7.symm,a8,a8.symm];intro jb hjb;have nba:=aB hjb;have pjb:H1 jb=none:=aq (aq hjb);have b7:i7≠jb:=fun e=>by rw [←e,g7] at pjb; cases pjb
    have b8:i8≠jb:=fun e=>by rw [←e,g8] at pjb; cases pjb
    simp -implicitDefEqProofs only [go_sem,ah,ai,n87,n87.symm,g7,g8,a7,a7.symm,a8,a8.symm,b7,b7.symm,b8,b8.symm,nba,nba.symm];intro jc hjc;have ncb:=aB hjc;have nca:=aB (aq hjc);have pjc:H1 jc=none:=aq (aq (aq hjc));have c7:i7≠jc:=fun e=>by rw [←e,g7] at pjc; cases pjc
    have c8:i8≠jc:=fun e=>by rw [←e,g8] at pjc; cases pjc
    simp -implicitDefEqProofs only [go_sem,ah,ai,n87,n87.symm,g7,g8,a7,a7.symm,a8,a8.symm,b7,b7.symm,b8,b8.symm,nba,nba.symm,c7,c7.symm,c8,c8.symm,nca,nca.symm,ncb,ncb.symm];refine inH fun H2 e2=> ?_
    have qa:=hs1.none pja;have qb:=hs1.none pjb;have qc:=hs1.none pjc;have gl3:gS (odS n false)= []:=by
     rw [(hY n false).2.2]
     first|rfl|(simp only [VK dh,and_self,if_true]; done)|(have:=VL dh; simp; omega)
    have hs2:Ab.Sub h H2:=by rw [e2]; exact ((((((hs1.put h7 _).put qa _).put qb _).put qc _).put qa _).put qb _).put qc _
    have f7:H2 i7=some (.obj (sL (odS n false)) 39):=by rw [e2,gN]; simp only [ah,ai,n87,n87.symm,g7,g8,a7,a7.symm,a8,a8.symm,b7,b7.symm,b8,b8.symm,nba,nba.symm,c7,c7.symm,c8,c8.symm,nca,nca.symm,ncb,ncb.symm,ne_eq,not_false_eq_true]<;>rfl
    have fb:H2 jb=some (.obj [.v (.int .i64 0), .v (.complex .f64 (hbit rr.mark.1) (hbit rr.mark.2)), .v (.bool true), .v (.int .i64 rr.val.kind), .v (.int .i64 rr.val.n), .s rr.val.s, .v (.bool rr.hidden), .v (.int .i64 rr.at_)] 46):=by rw [e2]; simp only [ah,ai,n87,n87.symm,g7,g8,a7,a7.symm,a8,a8.symm,b7,b7.symm,b8,b8.symm,nba,nba.symm,c7,c7.symm,c8,c8.symm,nca,nca.symm,ncb,ncb.symm,ne_eq,not_false_eq_true]
    clear e2;rw [gN] at f7;have la:=fun (t:Txt) (G:Heap)=>mX (odS n false) t (by show 1≤1000000; omega) ⟨by simp only [odS]; omega,by simp only [odS]; omega⟩ hGc.ticks G
    have lo:=fun (G:Heap)=>jP (odS n false) (by show 1≤1000000; omega) ⟨by simp only [odS]; omega,by simp only [odS]; omega⟩ hGc.ticks G
    rw [aY,gN] at la lo;refine (show ak Tryz.prog _ [_, .s gG] _ _ from la gG _).pthen ?_
    rw [gl.1];simp -implicitDefEqProofs only [go_sem,f7,fb,dh];refine (show ak Tryz.prog _ [_, .s iE] _ _ from la iE _).pthen ?_
    rw [gl.2.1];simp -implicitDefEqProofs only [go_sem,f7,fb,dh];refine (lo _).pthen ?_;rw [gl3];simp -implicitDefEqProofs only [go_sem,f7,fb,dh,List.map_nil,List.map_cons,List.length_nil,List.length_cons];refine (hfin _ hs2).pthen ?_;simp -implicitDefEqProofs only [go_sem,f7,fb,dh];exact .mk _ (.refl _) hs2 ⟨rfl,rfl⟩
  ·cases b
   ·simp -implicitDefEqProofs only [go_sem,g7,g8,dh,ah,ai,n87,n87.symm]
    have ga:(aE (odS n true) odW).2.2.2=0∧(aE (odS n true) odW).2.1.glass=false∧(aE (odS n true) odW).2.1.err=12:=by
     have:=mJ n true;simp only [dh,Bool.true_and,Bool.false_and,Bool.not_true,Bool.not_false,if_true,Bool.false_eq_true,if_false] at this;exact this
    have gl:=hY n true;simp only [dh,Bool.true_and,Bool.false_and] at gl;have hga:=fun (G:Heap) (hG:Ab.Sub h G)=>cG (odS n true) hG2 (by decide) odW hW64 G (he.sub hG)
    obtain ⟨S2,eS⟩:∃t,(aE (odS n true) odW).1=t:=⟨_,rfl⟩;obtain ⟨rr,er⟩:∃t,(aE (odS n true) odW).2.1=t:=⟨_,rfl⟩;obtain ⟨dd,ed⟩:∃t,(aE (odS n true) odW).2.2.1=t:=⟨_,rfl⟩;obtain ⟨ga1,ga2,ga3⟩:=ga;have ega:aE (odS n true) odW=(S2,rr,dd,0):=Prod.ext eS (Prod.ext er (Prod.ext ed ga1));rw [er] at ga2 ga3;rw [ega,dL,aY,aY,gN,ga2,ga3] at hga;obtain ⟨tick',cs',rv',nt',ro',⟨pid',pset',palg',ptgt',prules',pkids',pobls'⟩,ver'⟩:=S2;simp only [opA,opC,odW,ax,sL] at hga;refine (hga _ ?_).pthen ?_
    ·exact hs1.put h7 _
    simp -implicitDefEqProofs only [go_sem,ah,ai,n87,n87.symm,g7,g8];intro ja hja;have pja:H1 ja=none:=aq hja;have a7:i7≠ja:=fun e=>by rw [←e,g7] at pja; cases pja
    have a8:i8≠ja:=fun e=>by rw [←e,g8] at pja; cases pja
    simp -implicitDefEqProofs only [go_sem,ah,ai,n87,n87.symm,g7,g8,a7,a7.symm,a8,a8.symm];intro jb hjb;have nba:=aB hjb;have pjb:H1 jb=none:=aq (aq hjb);have b7:i7≠jb:=fun e=>by rw [←e,g7] at pjb; cases pjb
    have b8:i8≠jb:=fun e=>by rw [←e,g8] at pjb; cases pjb
    simp -implicitDefEqProofs only [go_sem,ah,ai,n87,n87.symm,g7,g8,a7,a7.symm,a8,a8.symm,b7,b7.symm,b8,b8.symm,nba,nba.symm];intro jc hjc;have ncb:=aB hjc;have nca:=aB (aq hjc);have pjc:H1 jc=none:=aq (aq (aq hjc));have c7:i7≠jc:=fun e=>by rw [←e,g7] at pjc; cases pjc
    have c8:i8≠jc:=fun e=>by rw [←e,g8] at pjc; cases pjc
    simp -implicitDefEqProofs only [go_sem,ah,ai,n87,n87.symm,g7,g8,a7,a7.symm,a8,a8.symm,b7,b7.symm,b8,b8.symm,nba,nba.symm,c7,c7.symm,c8,c8.symm,nca,nca.symm,ncb,ncb.symm];refine inH fun H2 e2=> ?_
    have qa:=hs1.none pja;have qb:=hs1.none pjb;have qc:=hs1.none pjc;have gl3:gS (odS n true)= [1]:=by
     rw [(hY n true).2.2]
     first|rfl|(simp only [VK dh,and_self,if_true]; done)|(have:=VL dh; simp; omega)
    have hs2:Ab.Sub h H2:=by rw [e2]; exact ((((((hs1.put h7 _).put qa _).put qb _).put qc _).put qa _).put qb _).put qc _
    have f7:H2 i7=some (.obj (sL (odS n true)) 39):=by rw [e2,gN]; simp only [ah,ai,n87,n87.symm,g7,g8,a7,a7.symm,a8,a8.symm,b7,b7.symm,b8,b8.symm,nba,nba.symm,c7,c7.symm,c8,c8.symm,nca,nca.symm,ncb,ncb.symm,ne_eq,not_false_eq_true]<;>rfl
    have fb:H2 jb=some (.obj [.v (.int .i64 12), .v (.complex .f64 (hbit rr.mark.1) (hbit rr.mark.2)), .v (.bool false), .v (.int .i64 rr.val.kind), .v (.int .i64 rr.val.n), .s rr.val.s, .v (.bool rr.hidden), .v (.int .i64 rr.at_)] 46):=by rw [e2]; simp only [ah,ai,n87,n87.symm,g7,g8,a7,a7.symm,a8,a8.symm,b7,b7.symm,b8,b8.symm,nba,nba.symm,c7,c7.symm,c8,c8.symm,nca,nca.symm,ncb,ncb.symm,ne_eq,not_false_eq_true]
    clear e2;rw [gN] at f7;have la:=fun (t:Txt) (G:Heap)=>mX (odS n true) t (by show 1≤1000000; omega) ⟨by simp only [odS]; omega,by simp only [odS]; omega⟩ hG2.ticks G
    have lo:=fun (G:Heap)=>jP (odS n true) (by show 1≤1000000; omega) ⟨by simp only [odS]; omega,by simp only [odS]; omega⟩ hG2.ticks G
    rw [aY,gN] at la lo;refine (show ak Tryz.prog _ [_, .s gG] _ _ from la gG _).pthen ?_
    rw [gl.1];simp -implicitDefEqProofs only [go_sem,f7,fb,dh];refine (show ak Tryz.prog _ [_, .s iE] _ _ from la iE _).pthen ?_
    rw [gl.2.1];simp -implicitDefEqProofs only [go_sem,f7,fb,dh];refine (lo _).pthen ?_;rw [gl3];simp -implicitDefEqProofs only [go_sem,f7,fb,dh,List.map_nil,List.map_cons,List.length_nil,List.length_cons];refine (hfin _ hs2).pthen ?_;simp -implicitDefEqProofs only [go_sem,f7,fb,dh];exact .mk _ (.refl _) hs2 ⟨rfl,rfl⟩
   ·simp -implicitDefEqProofs only [go_sem,g7,g8,dh,ah,ai,n87,n87.symm]
    have hgc:=fun (G:Heap) (hG:Ab.Sub h G)=>cG (odS n true) hG2 (by decide) jN ⟨lit 5 (by decide) (by decide),z,z,lit 1 (by decide) (by decide)⟩ G (he.sub hG)
    have hGc:iD 6 (odS n false):=by have:=fB jN hG2; rw [mK] at this; exact this
    have egc1:=mK n;obtain ⟨rc,erc⟩:∃t,(aE (odS n true) jN).2.1=t:=⟨_,rfl⟩;obtain ⟨dc,edc⟩:∃t,(aE (odS n true) jN).2.2.1=t:=⟨_,rfl⟩;obtain ⟨ec,eec⟩:∃t,(aE (odS n true) jN).2.2.2=t:=⟨_,rfl⟩;have egc:aE (odS n true) jN=(odS n false,rc,dc,ec):=Prod.ext egc1 (Prod.ext erc (Prod.ext edc eec));rw [egc,dL,aY,aY,gN,gN] at hgc;simp only [opA,opC,jN,ax] at hgc;refine (hgc _ ?_).pthen ?_
    ·exact hs1.put h7 _
    simp -implicitDefEqProofs only [go_sem,ah,ai,n87,n87.symm,g7,g8,dh];have ga:(aE (odS n false) odW).2.2.2=0∧(aE (odS n false) odW).2.1.glass=true∧(aE (odS n false) odW).2.1.err=0:=by
     have:=mJ n false;simp only [dh,Bool.true_and,Bool.false_and,Bool.not_true,Bool.not_false,if_true,Bool.false_eq_true,if_false] at this;exact this
    have gl:=hY n false;simp only [dh,Bool.true_and,Bool.false_and] at gl;have hga:=fun (G:Heap) (hG:Ab.Sub h G)=>cG (odS n false) hGc (by decide) odW hW64 G (he.sub hG)
    obtain ⟨S2,eS⟩:∃t,(aE (odS n false) odW).1=t:=⟨_,rfl⟩;obtain ⟨rr,er⟩:∃t,(aE (odS n false) odW).2.1=t:=⟨_,rfl⟩;obtain ⟨dd,ed⟩:∃t,(aE (odS n false) odW).2.2.1=t:=⟨_,rfl⟩;obtain ⟨ga1,ga2,ga3⟩:=ga;have ega:aE (odS n false) odW=(S2,rr,dd,0):=Prod.ext eS (Prod.ext er (Prod.ext ed ga1));rw [er] at ga2 ga3;rw [ega,dL,aY,aY,gN,ga2,ga3] at hga;obtain ⟨tick',cs',rv',nt',ro',⟨pid',pset',palg',ptgt',prules',pkids',pobls'⟩,ver'⟩:=S2;simp only [opA,opC,odW,ax,sL] at hga;refine (hga _ ?_).pthen ?_
    ·exact hs1.put h7 _
    simp -implicitDefEqProofs only [go_sem,ah,ai,n87,n87.symm,g7,g8];intro ja hja;have pja:H1 ja=none:=aq hja;have a7:i7≠ja:=fun e=>by rw [←e,g7] at pja; cases pja
    have a8:i8≠ja:=fun e=>by rw [←e,g8] at pja; cases pja
    simp -implicitDefEqProofs only [go_sem,ah,ai,n87,n87.symm,g7,g8,a7,a7.symm,a8,a8.symm];intro jb hjb;have nba:=aB hjb;have pjb:H1 jb=none:=aq (aq hjb);have b7:i7≠jb:=fun e=>by rw [←e,g7] at pjb; cases pjb
    have b8:i8≠jb:=fun e=>by rw [←e,g8] at pjb; cases pjb
    simp -implicitDefEqProofs only [go_sem,ah,ai,n87,n87.symm,g7,g8,a7,a7.symm,a8,a8.symm,b7,b7.symm,b8,b8.symm,nba,nba.symm];intro jc hjc;have ncb:=aB hjc;have nca:=aB (aq hjc);have pjc:H1 jc=none:=aq (aq (aq hjc));have c7:i7≠jc:=fun e=>by rw [←e,g7] at pjc; cases pjc
    have c8:i8≠jc:=fun e=>by rw [←e,g8] at pjc; cases pjc
    simp -implicitDefEqProofs only [go_sem,ah,ai,n87,n87.symm,g7,g8,a7,a7.symm,a8,a8.symm,b7,b7.symm,b8,b8.symm,nba,nba.symm,c7,c7.symm,c8,c8.symm,nca,nca.symm,ncb,ncb.symm];refine inH fun H2 e2=> ?_
    have qa:=hs1.none pja;have qb:=hs1.none pjb;have qc:=hs1.none pjc;have gl3:gS (odS n false)= []:=by
     rw [(hY n false).2.2]
     first|rfl|(simp only [VK dh,and_self,if_true]; done)|(have:=VL dh; simp; omega)
    have hs2:Ab.Sub h H2:=by rw [e2]; exact ((((((hs1.put h7 _).put qa _).put qb _).put qc _).put qa _).put qb _).put qc _
    have f7:H2 i7=some (.obj (sL (odS n false)) 39):=by rw [e2,gN]; simp only [ah,ai,n87,n87.symm,g7,g8,a7,a7.symm,a8,a8.symm,b7,b7.symm,b8,b8.symm,nba,nba.symm,c7,c7.symm,c8,c8.symm,nca,nca.symm,ncb,ncb.symm,ne_eq,not_false_eq_true]<;>rfl
    have fb:H2 jb=some (.obj [.v (.int .i64 0), .v (.complex .f64 (hbit rr.mark.1) (hbit rr.mark.2)), .v (.bool true), .v (.int .i64 rr.val.kind), .v (.int .i64 rr.val.n), .s rr.val.s, .v (.bool rr.hidden), .v (.int .i64 rr.at_)] 46):=by rw [e2]; simp only [ah,ai,n87,n87.symm,g7,g8,a7,a7.symm,a8,a8.symm,b7,b7.symm,b8,b8.symm,nba,nba.symm,c7,c7.symm,c8,c8.symm,nca,nca.symm,ncb,ncb.symm,ne_eq,not_false_eq_true]
    clear e2;rw [gN] at f7;have la:=fun (t:Txt) (G:Heap)=>mX (odS n false) t (by show 1≤1000000; omega) ⟨by simp only [odS]; omega,by simp only [odS]; omega⟩ hGc.ticks G
    have lo:=fun (G:Heap)=>jP (odS n false) (by show 1≤1000000; omega) ⟨by simp only [odS]; omega,by simp only [odS]; omega⟩ hGc.ticks G
    rw [aY,gN] at la lo;refine (show ak Tryz.prog _ [_, .s gG] _ _ from la gG _).pthen ?_
    rw [gl.1];simp -implicitDefEqProofs only [go_sem,f7,fb,dh];refine (show ak Tryz.prog _ [_, .s iE] _ _ from la iE _).pthen ?_
    rw [gl.2.1];simp -implicitDefEqProofs only [go_sem,f7,fb,dh];refine (lo _).pthen ?_;rw [gl3];simp -implicitDefEqProofs only [go_sem,f7,fb,dh,List.map_nil,List.map_cons,List.length_nil,List.length_cons];refine (hfin _ hs2).pthen ?_;simp -implicitDefEqProofs only [go_sem,f7,fb,dh];exact .mk _ (.refl _) hs2 ⟨rfl,rfl⟩
theorem sD (ev:Value) (hev:ev= .nilIface∨∃te pe,ev= .iface te pe) (x y:AV) (dx:Dat U 3 x) (dy:Dat U 4 y):ak Tryz.prog 10 [x,y] (uG [(3,zM),(2,[ev])]) fun r _=>r= .v (.bool true):=by
 obtain ⟨n,rfl,hn⟩:=dx.i64 (by simp only [go_sem])
 obtain ⟨b,rfl⟩:=dy.GO (by simp only [go_sem])
 exact (uB n hn b _ (F2 hev)).mono fun _ _ h=>h.1
end Go.Proofs.YtnlbeamjpefpfaaGreatDoor
