/- The law GuardOnly: pack 6 of its texts. -/
import Derived.Test.YtnlbeamjpefpfaaGreatDoorPk1
import Derived.Test.YtnlbeamjpefpfaaGreatDoorPk2
import Derived.Test.YtnlbeamjpefpfaaGreatDoorPk3
import Derived.Test.YtnlbeamjpefpfaaGreatDoorPk4
import Derived.Test.YtnlbeamjpefpfaaGreatDoorPk5
set_option linter.unusedSimpArgs false
set_option linter.unusedVariables false
namespace Go.Bf
open Go Go.Ab Go.Proofs.YtnlbeamjpefpfaaGreatDoor
theorem Gk {op:Int} {w:List Bool} (hw:gO op=some w):w.length=opsOf op∧1≤op∧op≤13:=by
 have h1:1≤op∧op≤13:=by
  unfold gO at hw
  repeat' split at hw
  all_goals first|(cases hw; done)|omega
 refine ⟨?_,h1⟩;rcases (show op=1∨op=2∨op=3∨op=4∨op=5∨op=6∨op=7∨op=8∨op=9∨op=10∨op=11∨op=12∨op=13 by omega) with rfl|rfl|rfl|rfl|rfl|rfl|rfl|rfl|rfl|rfl|rfl|rfl|rfl
 all_goals (simp [gO] at hw; subst hw; rfl)
theorem F8 {bs bs' :List Bool} {n:aO} (h:gN bs n=some bs'):(1≤n.op∧n.op≤13)∧opsOf n.op≤bs.length∧bs'.length=bs.length - opsOf n.op+1:=by
 unfold gN at h;cases hw:gO n.op with
 |none=>rw [hw] at h; cases h
 |some w=>
  rw [hw] at h;obtain ⟨h1,h2⟩:=Gk hw;simp only at h;split at h
  ·rename_i hc
   cases h;refine ⟨h2,by rw [←h1]; exact hc.2.1, ?_⟩
   rw [V4,List.length_take,List.length_singleton,←h1];omega
  ·cases h
theorem Kn {l:List aO} {z bs:List Bool} {i:Nat} (hl:fk [] l=some z) (hi:i<l.length) (hb:fk [] (l.take i)=some bs):∃bs',gN bs l[i]=some bs'∧fk [] (l.take (i+1))=some bs' :=by
 have h1:=jr [] l i;rw [hl,hb,List.drop_eq_getElem_cons hi] at h1;simp only [fk] at h1;cases hs:gN bs l[i] with
 |none=>rw [hs] at h1; cases h1
 |some bs' =>
  refine ⟨bs',rfl, ?_⟩;rw [jr [] _ i,List.take_take,Nat.min_eq_left (by omega),hb,List.take_succ_eq_append_getElem hi,List.drop_append_of_le_length (by simp; omega),List.drop_of_length_le (by simp; omega)]
  simp only [List.nil_append,fk,hs]
theorem HZ {gs:List bk} (hf:pT gs) (n:aO) (l:List iQ):(j4 gs n l).bag.length≤1000000:=by
 unfold j4 xN ig
 repeat' split
 all_goals first|exact hf.bag _|simp
def Pg (x:iQ):AV:= .tup [aU x.v, .v (.int .i64 x.e)]
end Go.Bf
namespace Go.Proofs.YtnlbeamjpefpfaaGreatDoor
open Go Go.Ab Go.Bf
set_option maxRecDepth 100000 in
theorem Ho (l:List aO) (hn:l≠ []) (he:jw l=0) (gs:List bk) (hf:pT gs) (h:Heap):ak Tryz.prog 149 [eV l,bB gs] h fun r h' =>r=Pg (tW gs l)∧h' =h:=by
 obtain ⟨h32,hst⟩:=vD he hn;have hex:=fun G=>DX l G
 rw [he] at hex;simp only [eV] at hex;have dl:((l.length:Int)==0)=false:=by have:=List.length_pos_iff.2 hn; simp; omega
 refine ak.body hU hm Tryz.func149 rfl (by kernel_rfl) 51 rfl [.cell 4 24, .tmp 5] rfl (VZ rfl) (fun hwf=> ?_)
 simp only [go_sem,eV,bB];intro i4 h4;simp only [go_sem,V0,dl];refine (hex _).pthen ?_;simp only [go_sem,V0];obtain ⟨H0,eH⟩:∃H0,upd h i4 (some (.obj [.v (.int .i64 0), .v (.int .i64 0), .s []] 24))=H0:=⟨_,rfl⟩;have hH0:Ab.Sub h H0:=by rw [←eH]; exact .ai h4
 have g4:H0 i4=some (.obj [.v (.int .i64 0), .v (.int .i64 0), .s []] 24):=by rw [←eH,ah]
 rw [eH];clear eH;refine .intro (fun m ρ H=>∃(i:Nat) (y:AV) (st:List iQ) (bs:List Bool),OwE 234 H0 H 5 y (st.map bL)∧Ab.Sub H0 H∧(l.take i).foldl (w6 gs) []=st∧fk [] (l.take i)=some bs∧bs.length=st.length∧(∀x∈st,x.bag.length≤1000000)∧i≤l.length∧m=l.length - i∧lk ρ 1=some (.sl (gs.map jD) .no)∧lk ρ 4=some (.ptr i4 0)∧lk ρ 6=some y∧lk ρ 19=some (.sl (l.map cZ) .no)∧lk ρ 20=some (.v (.int .i64 l.length))∧lk ρ 21=some (.v (.int .i64 i))) l.length ?_ ?_
 ·refine ⟨0,_,[],[], .inl ⟨rfl,rfl⟩, .refl _,rfl,rfl,rfl,fun x hx=>(by cases hx),by omega,rfl, ?_, ?_, ?_, ?_, ?_, ?_⟩<;>simp only [go_sem]
 ·rintro m ρ H ⟨i,y,st,bs,hw,hsH,hfo,hbs,hlen,hbag,hi,rfl,r1,r4,r6,r19,r20,r21⟩
  have hsl:bs.length≤i:=by have:=qn _ _ _ hbs; simpa [Nat.min_eq_left hi] using this
  simp only [go_sem,r20,r21];refine .intro (fun e=> ?_) (fun e=> ?_)
  ·have hlt:i<l.length:=V7 e
   have w1:=V6 i (by omega)
   obtain ⟨bs',hb1,hb2⟩:=Kn hst hlt hbs;have hfs:(l.take (i+1)).foldl (w6 gs) []=w6 gs st l[i]:=by rw [List.take_succ_eq_append_getElem hlt,List.foldl_append,hfo]; rfl
   have ix:=fun k=>fj.eq (xs:=l.map cZ) (sz:=7) i (by simpa using hlt) (by rw [V1]; rfl) k
   rw [V1] at ix;obtain ⟨n,en⟩:∃n,l[i]=n:=⟨_,rfl⟩;rw [en] at hb1 hfs ix;obtain ⟨hop,hle,hln⟩:=F8 hb1;rw [hlen] at hle;obtain ⟨k,ek⟩:∃k,st.length - opsOf n.op=k:=⟨_,rfl⟩;have wk:IntKind.i64.wrap ((st.length:Int) - (opsOf n.op:Int))=(k:Int):=by rw [bx _ (by omega)]; omega
   have hstep:w6 gs st n=st.take k++ [j4 gs n (st.drop k)]:=by unfold w6; rw [ek]
   simp only [cZ] at ix;simp only [go_sem,r19,r21,ix];intro i8 h8;obtain ⟨H8,eH⟩:∃H8,upd H i8 (some (.obj [.v (.int .i64 n.op), .v (.int .i64 n.val.kind), .v (.int .i64 n.val.n), .s n.val.s, .v (.int .i64 n.attr.cat), .s n.attr.name, .v (.bool n.attr.must)] 226))=H8:=⟨_,rfl⟩;have hs8:Ab.Sub H H8:=by rw [←eH]; exact .ai h8
   have k8:H8 i8=some (.obj [.v (.int .i64 n.op), .v (.int .i64 n.val.kind), .v (.int .i64 n.val.n), .s n.val.s, .v (.int .i64 n.attr.cat), .s n.attr.name, .v (.bool n.attr.must)] 226):=by rw [←eH,ah]
   have hw8:=hw.sub hs8;simp only [go_sem,r6,hw8.rd.len,V0];refine (CG n.op _).pthen ?_;rw [eH];clear eH;simp only [go_sem,wk];refine .calls (hm1 i8 (.obj [.v (.int .i64 n.op), .v (.int .i64 n.val.kind), .v (.int .i64 n.val.n), .s n.val.s, .v (.int .i64 n.attr.cat), .s n.attr.name, .v (.bool n.attr.must)] 226)) [0,1,2,3,4,5,6,7,8,9,10,11] (.hm1 k8) (by kernel_rfl) rfl ?_
   simp only [go_sem,r6];refine hw8.cut (U:=U) (x:= .i64) k (by simp only [go_sem]) rfl (by rw [V0]; omega) (by simp only [go_sem]) (by decide) fun z hz hzy=> ?_
   simp only [go_sem,r6,fJ];refine hw8.from (U:=U) (x:= .i64) k (by simp only [go_sem]) rfl (by rw [V0]; omega) (by simp only [go_sem]) (by decide) fun z2 hz2=> ?_
   rw [←List.map_drop] at hz2;rw [←List.map_take] at hz;have hnd:=Ka n hop (st.drop k) hz2 (by rw [List.length_drop]; omega) (fun x hx=>hbag x (List.mem_of_mem_drop hx)) gs hf
   have hnb:=HZ hf n (st.drop k);obtain ⟨x,ex⟩:∃x,j4 gs n (st.drop k)=x:=⟨_,rfl⟩;rw [ex] at hnd hnb hstep;simp only [cZ,bB,bL] at hnd;simp only [go_sem,r1];refine hnd.pthen ?_;refine ⟨.hm1 k8, ?_⟩;simp only [go_sem];have hone:Rd H8 5 (.sl [bL x] .full) [bL x]:= .sl (fun z hz=>by rw [List.mem_singleton.1 hz]; rfl) .full
   simp only [bL] at hone;refine OwE.app (U:=U) (tb:=234) hz (hsH.trans hs8) hone (by simp only [go_sem]) (by decide) (by simp only [go_sem,ne_eq,not_false_eq_true]) (by simp only [go_sem]) (by simp) (by simp only [go_sem,V0,List.length_take,List.length_cons,List.length_nil]; omega) fun id y' H' hid hor how hoth=> ?_
   have n8:i8≠id:=by
    intro e8;rcases hor with ho|⟨lz,cz,ez⟩
    ·rw [←e8,k8] at ho; cases ho
    ·exact kD (hz.nid (id:=id) (by rw [ez]; rfl)).2.2 k8 (by decide) e8.symm
   have hsub' :Ab.Sub H0 H' :=fun j b hj=>by rw [hoth j (fun e=>by rw [e,hid] at hj; cases hj)]; exact (hsH.trans hs8) _ _ hj
   refine ⟨.hm1 (by rw [hoth i8 n8]; exact k8), ?_⟩
   simp only [go_sem,r21,w1];refine ⟨_, ?_,i+1,y',w6 gs st n,bs', .inr ⟨id,hid,by rw [hstep,List.map_append]; exact how⟩,hsub',hfs,hb2,by rw [hln,hlen,hstep]; simp; omega,fun w hw=> ?_,by omega,rfl, ?_, ?_, ?_, ?_, ?_, ?_⟩
   ·omega
   ·rw [hstep] at hw
    rcases List.mem_append.1 hw with hw|hw
    ·exact hbag w (List.mem_of_mem_take hw)
    ·rw [List.mem_singleton.1 hw]; exact hnb
   all_goals simp only [go_sem,r1,r4,r19,r20]
  ·have hge:i=l.length:=by have:=V3 e; omega
   subst hge;rw [List.take_length] at hbs hfo;rw [hst] at hbs;cases hbs;obtain ⟨x,rfl⟩:=List.length_eq_one_iff.1 hlen.symm;have hit:tW gs l=x:=by unfold tW; rw [if_neg hn,hfo]; rfl
   obtain ⟨id,hid,how⟩:=hw.ow (by simp)
   have hwp:Rd (pick H [id]) 5 y [bL x]:=(how.same (bz (List.mem_singleton.2 rfl))).rd;have n4:i4≠id:=fun e=>by rw [e,hid] at g4; cases g4
   have k4:=hsH _ _ g4;simp only [go_sem];refine .calls (pick H [id]) [0,1,2,3,4,5,6,7,8,9] br (by kernel_rfl) rfl ?_
   simp only [go_sem,r6];refine hwp.idx (U:=U) (e:=234) 0 rfl (by simp) (by simp only [go_sem]) (by decide) fun p hp1=> ?_
   simp only [go_sem];refine hp1.field (f:=1) (off:=1) (t:=24) rfl (by simp only [go_sem]<;>decide) fun p2 hp2=> ?_
   have hld:=hp2.part (U:=U) (ty:=24) (by simp only [go_sem]<;>decide) (by simp only [go_sem,List.getElem_cons_zero]; exact VZ rfl)
   simp only [List.getElem_cons_zero,bL,AV.cells] at hld;simp only [go_sem,r6,hld];refine hwp.idx (U:=U) (e:=234) 0 rfl (by simp) (by simp only [go_sem]) (by decide) fun p3 hp3=> ?_
   simp only [go_sem];refine hp3.field (f:=2) (off:=4) (t:=42) rfl (by simp only [go_sem]<;>decide) fun p4 hp4=> ?_
   have hld4:=hp4.part (U:=U) (ty:=42) (by simp only [go_sem]<;>decide) (by simp only [go_sem,List.getElem_cons_zero]; exact VZ rfl)
   simp only [List.getElem_cons_zero,bL,AV.cells] at hld4;simp only [go_sem,r4,hld4,k4];refine ⟨br.put (by simp [pick,n4]) _, ?_⟩
   exact .mk _ (.refl _) ((hH0.trans hsH).put h4 _) ⟨by rw [hit]; rfl,rfl⟩
theorem JH (l:List aO) (he:jw l=0) (gs:List bk) (hf:pT gs) (h:Heap):ak Tryz.prog 116 [eV l,bB gs] h fun r h' =>r= .v (.int .i64 (oh gs l:Nat))∧h' =h:=by
 by_cases hn:l= []
 ·subst hn
  refine ak.body hU hm Tryz.func116 rfl (by kernel_rfl) 26 rfl [.tmp 4] rfl (VZ rfl) (fun hwf=> ?_)
  simp only [go_sem,eV,bB,List.map_nil,List.length_nil];exact .same (.refl _) ⟨rfl,rfl⟩
 have hv:=fun G=>Ho l hn he gs hf G
 have hcd:oh gs l=if isI (tW gs l) 1 then 2 else if isI (tW gs l) 0 then 0 else 1:=by
  unfold oh;rw [if_neg (by simpa using hn)]
 obtain ⟨x,ex⟩:∃x,tW gs l=x:=⟨_,rfl⟩;rw [ex] at hv hcd;simp only [eV,bB,Pg,aU] at hv;have hi1:∀(m:Int) G,ak Tryz.prog 150 [.agg [.sl [] .full, .v (.int .i64 x.v.kind), .v (.int .i64 x.v.n), .s x.v.s, .v (.int .i64 x.e)], .v (.int .i64 m)] G fun r h' =>r= .v (.bool (isI x m))∧h' =G:=fun m G=>JU x m G
 have dl:((l.length:Int)==0)=false:=by have:=List.length_pos_iff.2 hn; simp; omega
 refine ak.body hU hm Tryz.func116 rfl (by kernel_rfl) 26 rfl [.tmp 4] rfl (VZ rfl) (fun hwf=> ?_)
 simp only [go_sem,eV,bB,V0,dl];refine (hv _).pthen ?_;simp only [go_sem];intro i5 h5;simp only [go_sem];intro i7 h7;have n75:=aH h7;have n7:=aD h7;have hs:∀x y,Ab.Sub h (upd (upd h i5 x) i7 y):=fun x y=>((Sub.refl h).put h5 x).put n7 y
 simp only [go_sem];refine (hi1 1 _).pthen ?_;cases d1:isI x 1
 case true=>
  rw [d1] at hcd;simp only [go_sem];exact .mk _ (.refl _) (hs _ _) ⟨by rw [hcd]; rfl,rfl⟩
 simp only [go_sem];refine (hi1 0 _).pthen ?_;cases d0:isI x 0
 all_goals
  rw [d1,d0] at hcd;simp only [go_sem];exact .mk _ (.refl _) (hs _ _) ⟨by rw [hcd]; rfl,rfl⟩
end Go.Proofs.YtnlbeamjpefpfaaGreatDoor
namespace Go.Bf
open Go Go.Ab Go.Proofs.YtnlbeamjpefpfaaGreatDoor
def jh (l:List aS) (p:Perm):AV:= .sl (l.map aP) p
theorem M9.na:M9 naM:=by decide
theorem zO (l:List aS) (i:Nat) (h:i<l.length):(l.take (i+1)).foldl mC naM=mC ((l.take i).foldl mC naM) l[i]:=by
 rw [List.take_succ_eq_append_getElem h,List.foldl_append]; rfl
theorem E7 {l:List aS} {q:aS→Bool} (hq:∀m,q m=decide (m≠naM)) (h:l.findIdx q<l.length):firstM l=l[l.findIdx q]:=by
 unfold firstM;have e:q=fun m=>decide (m≠naM):=funext hq
 subst e;rw [show l.find? (fun m=>decide (m≠naM))=some l[l.findIdx fun m=>decide (m≠naM)] from List.find?_eq_some_iff_getElem.2 ⟨List.findIdx_getElem (w:=h),_,h,rfl,fun j hj=>by simpa using List.not_of_lt_findIdx hj⟩]
 rfl
theorem E8 {l:List aS} {q:aS→Bool} (hq:∀m,q m=decide (m≠naM)) (h:¬l.findIdx q<l.length):firstM l=naM:=by
 unfold firstM;have e:q=fun m=>decide (m≠naM):=funext hq
 subst e;have e:l.findIdx (fun m=>decide (m≠naM))=l.length:=by
  have:l.findIdx (fun m=>decide (m≠naM))≤l.length:=List.findIdx_le_length
  omega
 rw [List.find?_eq_none.2 fun x hx=>by simpa using List.findIdx_eq_length.1 e x hx]
 rfl
def uk (j m:aS):aS:=if j=naM then m else if m≠naM then mU else j
theorem Ic {l:List aS} {i:Nat} (h:i<l.length) (j:aS):mH (l.drop i) j=if w7 l[i]=false then mU else mH (l.drop (i+1)) (uk j l[i]):=by
 rw [List.drop_eq_getElem_cons h]; rfl
end Go.Bf
namespace Go.Proofs.YtnlbeamjpefpfaaGreatDoor
open Go Go.Ab Go.Bf
theorem PL:(U 44).sz=1:=by simp only [go_sem]
theorem FA (ms:List aS) (hl:ms.length≤1000000000) (q:aS→Bool) (g:FuncId) (cap:List AV) (p:Perm) (h:Heap) (hp:∀m∈ms,ak Tryz.prog g (aP m::cap) h fun r h' =>r= .v (.bool (q m))∧h' =h):
  ak Tryz.prog 179 [jh ms p, .fn g cap] h fun r h' =>r= .v (.int .i64 (ixD q ms))∧h' =h:=by
 refine ak.body hU hm Tryz.func179 rfl (by kernel_rfl) 19 rfl [.tmp 4] rfl (VZ rfl) (fun hwf=> ?_)
 simp only [go_sem,jh,V0];refine .intro (fun m ρ h' =>h' =h∧∃i:Nat,i≤ms.length∧m=ms.length - i∧(∀j (hj:j<i) (h2:j<ms.length),q ms[j]=false)∧lk ρ 0=some (.sl (ms.map aP) p)∧lk ρ 1=some (.fn g cap)∧lk ρ 7=some (.v (.int .i64 ms.length))∧lk ρ 8=some (.v (.int .i64 i))) ms.length ?_ ?_
 ·refine ⟨rfl,0,by omega,rfl,fun j hj=>(by omega), ?_, ?_, ?_, ?_⟩<;>simp only [go_sem]
 ·rintro m ρ h' ⟨rfl,i,hi,rfl,hc,r0,r1,r7,r8⟩
  simp only [go_sem,r7,r8];refine .intro (fun e=> ?_) (fun e=> ?_)
  ·have hlt:i<ms.length:=V7 e
   have w1:=V6 i (by omega)
   have ix:=fun k=>fj.eq (xs:=ms.map aP) (sz:=1) i (by simpa using hlt) (by rw [V1]; rfl) k
   rw [V1] at ix;have hg:=hp ms[i] (V5 hlt);have hci:=fun (d:q ms[i]=false)=>(fun j (hj:j<i+1) (h2:j<ms.length)=>(by
    by_cases hji:j=i
    ·subst hji; exact d
    ·exact hc j (by omega) h2:q ms[j]=false))
   have hat:=fun (d:q ms[i]=true)=>mo hlt d fun j hj=>hc j hj (by omega)
   obtain ⟨m,em⟩:∃m,ms[i]=m:=⟨_,rfl⟩;rw [em] at ix hg hci hat;simp only [aP] at ix;simp only [go_sem,r0,r1,r8,ix];refine (show ak Tryz.prog g (.v (.complex .f64 (hbit m.1) (hbit m.2))::cap) _ _ from hg).pthen ?_
   cases d1:q m
   ·simp only [go_sem,r8,w1]
    refine ⟨_, ?_,rfl,i+1,by omega,rfl,hci d1, ?_, ?_, ?_, ?_⟩
    ·omega
    all_goals simp only [go_sem,r0,r1,r7]
   ·simp only [go_sem]
    exact .same (.refl _) ⟨by rw [hat d1]; rfl,rfl⟩
  ·have hge:i=ms.length:=by have:=V3 e; omega
   simp only [go_sem];exact .same (.refl _) ⟨by rw [iD fun j hj=>hc j (by omega) hj]; rfl,rfl⟩
theorem CY (ms:List aS) (hl:ms.length≤1000000000) (hmm:∀m∈ms,M9 m) (x:aS) (hx:M9 x) (p:Perm) (h:Heap):
  ak Tryz.prog 201 [jh ms p,aP x] h fun r h' =>r= .v (.int .i64 (ixD (fun y=>x==y) ms))∧h' =h:=by
 refine ak.body hU hm Tryz.func201 rfl (by kernel_rfl) 19 rfl [.tmp 4] rfl (VZ rfl) (fun hwf=> ?_)
 simp only [go_sem,jh,V0];refine .intro (fun m ρ h' =>h' =h∧∃i:Nat,i≤ms.length∧m=ms.length - i∧(∀j (hj:j<i) (h2:j<ms.length),(x==ms[j])=false)∧lk ρ 0=some (.sl (ms.map aP) p)∧lk ρ 1=some (aP x)∧lk ρ 7=some (.v (.int .i64 ms.length))∧lk ρ 8=some (.v (.int .i64 i))) ms.length ?_ ?_
 ·refine ⟨rfl,0,by omega,rfl,fun j hj=>(by omega), ?_, ?_, ?_, ?_⟩<;>simp only [go_sem]
 ·rintro m ρ h' ⟨rfl,i,hi,rfl,hc,r0,r1,r7,r8⟩
  simp only [go_sem,r7,r8];refine .intro (fun e=> ?_) (fun e=> ?_)
  ·have hlt:i<ms.length:=V7 e
   have w1:=V6 i (by omega)
   have ix:=fun k=>fj.eq (xs:=ms.map aP) (sz:=1) i (by simpa using hlt) (by rw [V1]; rfl) k
   rw [V1] at ix;have hm9:=hmm ms[i] (V5 hlt);have hci:=fun (d:(x==ms[i])=false)=>(fun j (hj:j<i+1) (h2:j<ms.length)=>(by
    by_cases hji:j=i
    ·subst hji; exact d
    ·exact hc j (by omega) h2:(x==ms[j])=false))
   have hat:=fun (d:(x==ms[i])=true)=>mo (q:=fun y=>x==y) hlt d fun j hj=>hc j hj (by omega)
   obtain ⟨m,em⟩:∃m,ms[i]=m:=⟨_,rfl⟩;rw [em] at ix hm9 hci hat;simp only [aP] at ix r1;have ne:=wo hx hm9;cases d1:(x==m)
   ·simp only [go_sem,r0,r1,r8,ix,ne,d1,w1]
    refine ⟨_, ?_,rfl,i+1,by omega,rfl,hci d1, ?_, ?_, ?_, ?_⟩
    ·omega
    all_goals simp only [go_sem,r0,r1,r7,aP]
   ·simp only [go_sem,r0,r1,r8,ix,ne,d1]
    exact .same (.refl _) ⟨by rw [hat d1]; rfl,rfl⟩
  ·have hge:i=ms.length:=by have:=V3 e; omega
   simp only [go_sem];exact .same (.refl _) ⟨by rw [iD fun j hj=>hc j (by omega) hj]; rfl,rfl⟩
theorem CU (ms:List aS) (hl:ms.length≤1000000000) (hmm:∀m∈ms,M9 m) (x:aS) (hx:M9 x) (p:Perm) (h:Heap):
  ak Tryz.prog 183 [jh ms p,aP x] h fun r h' =>r= .v (.bool (decide (x∈ms)))∧h' =h:=by
 refine ak.body hU hm Tryz.func183 rfl (by kernel_rfl) 9 rfl [.tmp 4] rfl (VZ rfl) (fun hwf=> ?_)
 simp only [go_sem];refine (CY ms hl hmm x hx p _).pthen ?_;simp only [go_sem];exact .same (.refl _) ⟨by rw [sv,show (ms.any fun y=>x==y)=decide (x∈ms) by rw [Bool.eq_iff_iff]; simp]; rfl,rfl⟩
theorem Cn (m:aS) (hmm:M9 m) (h:Heap):ak Tryz.prog 180 [aP m] h fun r h' =>r= .v (.bool (!(m==naM)))∧h' =h:=by
 have n:=(nb hmm).nna;refine ak.body hU hm Tryz.func180 rfl (by kernel_rfl) 5 rfl [.tmp 2] rfl (VZ rfl) (fun hwf=> ?_)
 simp only [go_sem,aP,n];exact .same (.refl _) ⟨rfl,rfl⟩
theorem Kp (m:aS) (hmm:M9 m) (h:Heap):ak Tryz.prog 181 [aP m] h fun r h' =>r= .v (.bool (w7 m))∧h' =h:=by
 obtain ⟨n1,n2,n3,_⟩:=nb hmm;refine ak.body hU hm Tryz.func181 rfl (by kernel_rfl) 13 rfl [.tmp 2] rfl (VZ rfl) (fun hwf=> ?_)
 have es:w7 m=(m==naM||(m==aM||m==bV)):=by
  unfold w7;rw [Bool.eq_iff_iff];simp
 rw [es];cases d1:(m==naM)<;>cases d2:(m==aM)<;>cases d3:(m==bV)
 all_goals
  simp only [go_sem,aP,n1,n2,n3,d1,d2,d3];exact .same (.refl _) ⟨rfl,rfl⟩
theorem Hs (ms:List aS) (hl:ms.length≤1000000000) (hmm:∀m∈ms,M9 m) (p:Perm) (h:Heap):ak Tryz.prog 155 [jh ms p] h fun r h' =>r=aP (firstM ms)∧h' =h:=by
 refine ak.body hU hm Tryz.func155 rfl (by kernel_rfl) 12 rfl [.tmp 2] rfl (VZ rfl) (fun hwf=> ?_)
 simp only [go_sem,jh];refine (FA ms hl (fun m=> !(m==naM)) _ [] p _ fun m h=>Cn m (hmm m h) _).pthen ?_
 have hq:∀m:aS,(!(m==naM))=decide (m≠naM):=fun m=>by by_cases e:m=naM<;>simp [e]
 by_cases hx:ms.findIdx (fun m=> !(m==naM))<ms.length
 ·obtain ⟨i,ei⟩:∃i,ms.findIdx (fun m=> !(m==naM))=i:=⟨_,rfl⟩
  have ef:=E7 hq hx;have e1:ixD (fun m=> !(m==naM)) ms=(i:Nat):=by rw [ixD,ei]; exact if_pos (by rw [←ei]; exact hx)
  have hlt:i<ms.length:=by rw [←ei]; exact hx
  simp only [ei] at ef;have d1:decide ((0:Int)≤((i:Nat):Int))=true:=decide_eq_true (by omega)
  have ix:=fun k=>fj.eq (xs:=ms.map aP) (sz:=1) i (by simpa using hlt) (by rw [V1]; rfl) k
  rw [V1,←ef] at ix;simp only [aP] at ix;rw [e1];simp only [go_sem,d1,ix];exact .same (.refl _) ⟨rfl,rfl⟩
 ·have e1:ixD (fun m=> !(m==naM)) ms= -1:=by rw [ixD]; exact if_neg hx
  have d1:decide ((0:Int)≤ -1)=false:=rfl;rw [e1];simp only [go_sem,d1];exact .same (.refl _) ⟨by rw [E8 hq hx]; rfl,rfl⟩
theorem IT (j m:aS) (hj:M9 j) (hmm:M9 m) (h:Heap):ak Tryz.prog 182 [.v (.int .i64 4),aP j,aP m] h fun r h' =>r=aP (uk j m)∧h' =h:=by
 have n1:=(nb hj).na;have n2:=(nb hmm).nna;refine ak.body hU hm Tryz.func182 rfl (by kernel_rfl) 31 rfl [.tmp 6] rfl (VZ rfl) (fun hwf=> ?_)
 cases d1:(j==naM)
 case true=>
  simp only [go_sem,aP,n1,d1];exact .same (.refl _) ⟨by rw [uk,if_pos (by simpa using d1)]; rfl,rfl⟩
 cases d2:(m==naM)
 ·simp only [go_sem,aP,n1,n2,d1,d2]
  exact .same (.refl _) ⟨by rw [uk,if_neg (by simpa using d1),if_pos (by simpa using d2)]; rfl,rfl⟩
 ·simp only [go_sem,aP,n1,n2,d1,d2]
  exact .same (.refl _) ⟨by rw [uk,if_neg (by simpa using d1),if_neg (by simpa using d2)]; rfl,rfl⟩
theorem M9.step {j m:aS} (hj:M9 j) (hmm:M9 m):M9 (uk j m):=by
 unfold uk
 repeat' split
 ·exact hmm
 ·decide
 ·exact hj
theorem Kf (ms:List aS) (hl:ms.length≤1000000000) (hmm:∀m∈ms,M9 m) (p:Perm) (h:Heap):ak Tryz.prog 156 [jh ms p] h fun r h' =>r=aP (mH ms naM)∧h' =h:=by
 refine ak.body hU hm Tryz.func156 rfl (by kernel_rfl) 20 rfl [.tmp 2] rfl (VZ rfl) (fun hwf=> ?_)
 simp only [go_sem,jh,V0];refine .intro (fun m ρ h' =>h' =h∧∃(i:Nat) (j:aS),i≤ms.length∧m=ms.length - i∧M9 j∧mH (ms.drop i) j=mH ms naM∧lk ρ 3=some (aP j)∧lk ρ 6=some (.sl (ms.map aP) p)∧lk ρ 7=some (.v (.int .i64 ms.length))∧lk ρ 8=some (.v (.int .i64 i))) ms.length ?_ ?_
 ·refine ⟨rfl,0,naM,by omega,rfl, .na,rfl, ?_, ?_, ?_, ?_⟩<;>simp only [go_sem,aP,naM,hbit]
 ·rintro m ρ h' ⟨rfl,i,j,hi,rfl,hj,ho,r3,r6,r7,r8⟩
  simp only [go_sem,r7,r8];refine .intro (fun e=> ?_) (fun e=> ?_)
  ·have hlt:i<ms.length:=V7 e
   have w1:=V6 i (by omega)
   have ix:=fun k=>fj.eq (xs:=ms.map aP) (sz:=1) i (by simpa using hlt) (by rw [V1]; rfl) k
   rw [V1] at ix;have hm9:=hmm ms[i] (V5 hlt);rw [Ic hlt] at ho;obtain ⟨m,em⟩:∃m,ms[i]=m:=⟨_,rfl⟩;rw [em] at ix hm9 ho;have hsu:=fun G=>Kp m hm9 G
   have hst:=fun G=>IT j m hj hm9 G
   simp only [aP] at ix hsu hst r3;simp only [go_sem,r6,r8,ix];refine (hsu _).pthen ?_;cases d1:w7 m
   ·rw [if_pos d1] at ho
    simp only [go_sem];exact .same (.refl _) ⟨by rw [←ho]; rfl,rfl⟩
   ·rw [if_neg (by rw [d1]; decide)] at ho
    simp only [go_sem,r3];refine (hst _).pthen ?_;simp only [go_sem,r8,w1];refine ⟨_, ?_,rfl,i+1,uk j m,by omega,rfl,M9.step hj hm9,ho, ?_, ?_, ?_, ?_⟩
    ·omega
    all_goals simp only [go_sem,r6,r7,aP]
  ·have hge:i=ms.length:=by have:=V3 e; omega
   subst hge;rw [List.drop_length] at ho;simp only [go_sem,r3];exact .same (.refl _) ⟨by rw [←ho]; rfl,rfl⟩
theorem yX (ms:List aS) (hl:ms.length≤1000000000) (hmm:∀m∈ms,M9 m) (a b:aS) (hb:M9 b) (p:Perm) (h:Heap):ak Tryz.prog 157 [jh ms p,aP a,aP b] h fun r h' =>r=aP (if b∈ms then b else a)∧h' =h:=by
 refine ak.body hU hm Tryz.func157 rfl (by kernel_rfl) 12 rfl [.tmp 6] rfl (VZ rfl) (fun hwf=> ?_)
 simp only [go_sem];refine (CU ms hl hmm b hb p _).pthen ?_
 by_cases d:b∈ms
 ·simp only [go_sem,decide_eq_true d,if_pos d]
  exact .same (.refl _) ⟨rfl,rfl⟩
 ·simp only [go_sem,decide_eq_false d,if_neg d]
  exact .same (.refl _) ⟨rfl,rfl⟩
theorem LQ (alg:Int) (ha:1≤alg∧alg≤6) (ms:List aS) (hl:ms.length≤1000000000) (hmm:∀m∈ms,M6 m) (p:Perm) (h:Heap):ak Tryz.prog 117 [.v (.int .i64 alg),jh ms p] h fun r h' =>r= .tup [aP (fR alg ms), .v (.int .i64 0)]∧h' =h:=by
 have hm9:=fun m h=>(hmm m h).m9
 refine ak.body hU hm Tryz.func117 rfl (by kernel_rfl) 49 rfl [.tmp 4, .tmp 5] rfl (VZ rfl) (fun hwf=> ?_)
 simp only [go_sem,jh,V0];refine .intro (fun m ρ h' =>h' =h∧∃i:Nat,i≤ms.length∧m=ms.length - i∧M9 ((ms.take i).foldl mC naM)∧lk ρ 0=some (.v (.int .i64 alg))∧lk ρ 1=some (.sl (ms.map aP) p)∧lk ρ 6=some (aP ((ms.take i).foldl mC naM))∧lk ρ 9=some (.sl (ms.map aP) p)∧lk ρ 10=some (.v (.int .i64 ms.length))∧lk ρ 11=some (.v (.int .i64 i))) ms.length ?_ ?_
 ·refine ⟨rfl,0,by omega,rfl, .na, ?_, ?_, ?_, ?_, ?_, ?_⟩<;>simp only [go_sem,aP,naM,hbit,List.take_zero,List.foldl_nil]
 ·rintro m ρ h' ⟨rfl,i,hi,rfl,hj,r0,r1,r6,r9,r10,r11⟩
  obtain ⟨j,ej⟩:∃j,(ms.take i).foldl mC naM=j:=⟨_,rfl⟩;rw [ej] at hj r6;simp only [go_sem,r10,r11];refine .intro (fun e=> ?_) (fun e=> ?_)
  ·have hlt:i<ms.length:=V7 e
   have w1:=V6 i (by omega)
   have ix:=fun k=>fj.eq (xs:=ms.map aP) (sz:=1) i (by simpa using hlt) (by rw [V1]; rfl) k
   rw [V1] at ix;have hm6:=hmm ms[i] (V5 hlt);have hsn:=zO ms i hlt;rw [ej] at hsn;obtain ⟨m,em⟩:∃m,ms[i]=m:=⟨_,rfl⟩;rw [em] at ix hm6 hsn;have hri:=fun G=>zR m hm6 G
   have hjo:=fun G=>JY j m hj hm6.m9 G
   simp only [aP] at ix hri hjo r6;simp only [go_sem,r9,r11,ix];refine (hri _).pthen ?_;simp only [go_sem,r6];refine (hjo _).pthen ?_;simp only [go_sem,r11,w1];refine ⟨_, ?_,rfl,i+1,by omega,rfl,by rw [hsn]; exact M9.join hj hm6.m9, ?_, ?_, ?_, ?_, ?_, ?_⟩
   ·omega
   all_goals simp only [go_sem,r0,r1,r9,r10,aP,hsn]
  ·have hge:i=ms.length:=by have:=V3 e; omega
   subst hge;rw [List.take_length] at ej;have ej' :uQ ms=j:=ej;have hov:=fun G=>Ek j hj G
   have htu:=fun (x:aS) (G:Heap)=>Ks x G
   have hov2:=fun G=>Ek (B9 j) ⟨hj.2,hj.1⟩ G
   have h1:=Hs ms hl hm9 p;have h2:=Kf ms hl hm9 p;have h3:=yX ms hl hm9 bV aM (by decide) p
   have h4:=yX ms hl hm9 aM bV (by decide) p
   simp only [jh] at h1 h2 h3 h4;rcases (show alg=1∨alg=2∨alg=3∨alg=4∨alg=5∨alg=6 by omega) with rfl|rfl|rfl|rfl|rfl|rfl
   ·simp only [go_sem,r0,r6]
    refine (hov _).pthen ?_;simp only [go_sem];exact .same (.refl _) ⟨by simp only [fR,ej',if_true]; rfl,rfl⟩
   ·simp only [go_sem,r0,r6]
    refine (htu _ _).pthen ?_;simp only [go_sem];refine (hov2 _).pthen ?_;simp only [go_sem];refine (htu _ _).pthen ?_;simp only [go_sem];exact .same (.refl _) ⟨by simp only [fR,ej']; rfl,rfl⟩
   ·simp only [go_sem,r0,r1]
    refine (h1 _).pthen ?_;simp only [go_sem];exact .same (.refl _) ⟨rfl,rfl⟩
   ·simp only [go_sem,r0,r1]
    refine (h2 _).pthen ?_;simp only [go_sem];exact .same (.refl _) ⟨rfl,rfl⟩
   ·simp only [go_sem,r0,r1]
    refine (h3 _).pthen ?_;simp only [go_sem];exact .same (.refl _) ⟨by simp [fR,ax],rfl⟩
   ·simp only [go_sem,r0,r1]
    refine (h4 _).pthen ?_;simp only [go_sem];exact .same (.refl _) ⟨by simp [fR,ax],rfl⟩
end Go.Proofs.YtnlbeamjpefpfaaGreatDoor
namespace Go.Bf
open Go Go.Ab Go.Proofs.YtnlbeamjpefpfaaGreatDoor
theorem ri {α:Type} (f:α→Nat):∀(l:List α) (a:Nat),l.foldl (fun a x=>min a (f x)) a≤a∧∀x∈l,l.foldl (fun a x=>min a (f x)) a≤f x
 | [],a=>⟨Nat.le_refl _,fun x h=>by cases h⟩
 |y::l,a=>by
  obtain ⟨h1,h2⟩:=ri f l (min a (f y));rw [List.foldl_cons];refine ⟨by omega,fun x hx=> ?_⟩
  rcases List.mem_cons.1 hx with rfl|hx
  ·omega
  ·exact h2 x hx
theorem J1 {gs:List bk}:∀ {t:fP} {m:bN},mD t=some m→iJ gs m=0→lC gs t=0:=by
 intro t;have main:∀(t:fP) (m:bN),mD t=some m→iJ gs m=0→∃x∈t,xp gs x=0:=by
  intro t
  induction t with
  |nil=>intro m h; cases h
  |cons x r ih=>
   intro m h h0
   match x,h with
   | [],h=>obtain ⟨y,hy,e⟩:=ih m h h0; exact ⟨y,List.mem_cons_of_mem _ hy,e⟩
   | [l],h=>
    simp only [mD] at h;cases hf:l.find? fun m=>m.op==1 && !m.attr.must with
    |none=>rw [hf] at h; obtain ⟨y,hy,e⟩:=ih m h h0; exact ⟨y,List.mem_cons_of_mem _ hy,e⟩
    |some k=>
     rw [hf] at h;cases h;have hm:=List.mem_of_find?_eq_some hf;have hall:Al gs l=0:=by
      have:=(ri (iJ gs) l 2).2 _ hm;rw [h0] at this;exact Nat.le_zero.1 this
     exact ⟨[l],List.mem_cons_self ..,by simp [xp,hall]⟩
   |a::b::c,h=>obtain ⟨y,hy,e⟩:=ih m h h0; exact ⟨y,List.mem_cons_of_mem _ hy,e⟩
 intro m h h0;obtain ⟨x,hx,e⟩:=main t m h h0;have:=(ri (xp gs) t 2).2 x hx;rw [e] at this;exact Nat.le_zero.1 this
theorem Kb {gs:List bk} {p:bG} (h:qF gs p=false):dU gs p=(naM,[]):=by
 obtain ⟨id,set,alg,tgt,rules,kids,obls⟩:=p;unfold qF at h;simp only [qI] at h;cases hk:mD tgt with
 |none=>rw [hk] at h; cases h
 |some m=>
  rw [hk] at h;have h0:iJ gs m=0:=by simpa using h
  simp only [dU,J1 hk h0,if_true]
theorem JX (j:aS):mC j naM=j:=by simp [mC,naM]
inductive Drop:List iV→List iV→Prop
 |nil:Drop [] []
 |keep (x:iV) {a b:List iV} (h:Drop a b):Drop (x::a) (x::b)
 |skip {a b:List iV} (h:Drop a b):Drop a ((naM,[])::b)
theorem Drop.app {a b c:List iV} (h:Drop a b):Drop (c++a) (c++b):=by
 induction c with
 |nil=>exact h
 |cons x c ih=>exact .keep x ih
theorem Drop.join {a b:List iV} (h:Drop a b):∀j,(a.map (·.1)).foldl mC j=(b.map (·.1)).foldl mC j:=by
 induction h with
 |nil=>intro j; rfl
 |keep x h ih=>intro j; exact ih _
 |skip h ih=>intro j; simp only [List.map_cons,List.foldl_cons,JX]; exact ih j
theorem Drop.first {a b:List iV} (h:Drop a b):firstM (a.map (·.1))=firstM (b.map (·.1)):=by
 unfold firstM
 congr 1
 induction h with
 |nil=>rfl
 |keep x h ih=>simp only [List.map_cons,List.find?_cons,ih]
 |skip h ih=>simpa using ih
theorem Drop.only {a b:List iV} (h:Drop a b):∀j,mH (a.map (·.1)) j=mH (b.map (·.1)) j:=by
 induction h with
 |nil=>intro j; rfl
 |keep x h ih=>intro j; simp only [List.map_cons,mH,ih]
 |skip h ih=>
  intro j;have hs:w7 naM=true:=by decide
  simp only [List.map_cons,mH,hs,Bool.true_eq_false,if_false];rw [←ih]
  congr 1
  by_cases hj:j=naM<;>simp [hj]
theorem Drop.mem {a b:List iV} (h:Drop a b) {m:aS} (hm:m≠naM):m∈a.map (·.1)↔m∈b.map (·.1):=by
 induction h with
 |nil=>rfl
 |keep x h ih=>simp only [List.map_cons,List.mem_cons,ih]
 |skip h ih=>rw [ih]; simp only [List.map_cons,List.mem_cons]; exact ⟨.inr,fun h=>h.resolve_left hm⟩
theorem Drop.comb {a b:List iV} (h:Drop a b) (alg:Int):fR alg (a.map (·.1))=fR alg (b.map (·.1)):=by
 unfold fR uQ;rw [h.join,h.first,h.only];simp only [h.mem (show aM≠naM by decide),h.mem (show bV≠naM by decide)]
theorem Drop.parts {a b:List iV} (h:Drop a b) (alg:Int) {m:aS} (hm:m≠naM):eu alg m a=eu alg m b:=by
 have e:(naM==m)=false:=by simpa using fun e:naM=m=>hm e.symm
 have h1:(a.find? fun x=>x.1==m)=b.find? fun x=>x.1==m:=by
  induction h with
  |nil=>rfl
  |keep x h ih=>simp only [List.find?_cons,ih]
  |skip h ih=>simp only [List.find?_cons,e,ih]
 have h2:(a.filter fun x=>x.1==m)=b.filter fun x=>x.1==m:=by
  clear h1
  induction h with
  |nil=>rfl
  |keep x h ih=>simp only [List.filter_cons,ih]
  |skip h ih=>simp only [List.filter_cons,e,Bool.false_eq_true,if_false,ih]
 simp only [eu,h1,h2]
theorem Drop.nN {a b:List iV} (h:Drop a b) (alg:Int) (obls:List cw) (t:Nat):nN alg obls t a=nN alg obls t b:=by
 unfold Go.Bf.nN;simp only [h.comb alg]
 by_cases hp:fR alg (b.map (·.1))=aM
 ·rw [hp,h.parts alg (by decide)]
 ·by_cases hd:fR alg (b.map (·.1))=bV
  ·rw [hd,h.parts alg (by decide)]
  ·simp only [ne_eq,hp,hd,not_false_eq_true,and_self,if_true]
mutual
theorem yE (gs:List bk):∀p:bG,dU gs (jk gs p)=dU gs p
 | .mk id set alg tgt rules kids obls=>by
  simp only [jk,dU]
  by_cases h:lC gs tgt=0
  ·simp only [h,if_true]
  ·simp only [h,if_false]
   exact (yF gs kids).app.nN alg obls _
theorem yF (gs:List bk):∀l:List bG,Drop (kC gs (jj gs l)) (kC gs l)
 | []=>by simp only [jj,kC]; exact .nil
 |k::r=>by
  have ih1:=yE gs k;have ih2:=yF gs r;simp only [jj,kC]
  by_cases h:qF gs k=true
  ·simp only [h,if_true,kC,ih1]
   exact .keep _ ih2
  ·have h:qF gs k=false:=by simpa using h
   simp only [h,Bool.false_eq_true,if_false,Kb h];exact .skip ih2
end
def rsA (r:iV):AV:= .agg [aP r.1,au r.2]
theorem EX (l:List cw) (m:aS) (i:Nat) (h:i<l.length):dY (l.take (i+1)) m=dY (l.take i) m++(if (l[i].on==1 && m==aM||l[i].on==2 && m==bV)=true then [l[i]] else []):=by
 unfold dY;rw [List.take_succ_eq_append_getElem h,List.filter_append,List.filter_cons];rfl
theorem oZ (l:List cw) (m:aS) {L:List AV} (hL:L=l.map bf) (q:Perm):Weak (.agg [aP m, .sl L q]) (rsA (m,l)):=by
 subst hL;refine .agg _ _ rfl fun i a b=> ?_
 rcases i with _|_|i
 ·exact .refl _
 ·exact .sl _ _
 ·simp at a; omega
theorem wG (alg:Int) (m:aS) (l:List iV) (i:Nat) (h:i<l.length) (h3:alg≠3):eu alg m (l.take (i+1))=eu alg m (l.take i)++(if (l[i].1==m)=true then l[i].2 else []):=by
 unfold eu;rw [if_neg h3,if_neg h3,List.take_succ_eq_append_getElem h,List.filter_append,List.map_append,List.flatten_append]
 congr 1
 rw [List.filter_cons];split<;>simp
theorem wF {m:aS} {l:List iV} (h:∀x∈l,(x.1==m)=false):eu 3 m l= []:=by
 unfold eu;rw [if_pos rfl,List.find?_eq_none.2 fun x hx=>by rw [h x hx]; decide]
 rfl
theorem ud {m:aS} {l:List iV} (i:Nat) (h:i<l.length) (h1:(l[i].1==m)=true) (h2:∀j (hj:j<i),((l[j]'(by omega)).1==m)=false):eu 3 m l=l[i].2:=by
 unfold eu;rw [if_pos rfl,show (l.find? fun x=>x.1==m)=some l[i] from List.find?_eq_some_iff_getElem.2 ⟨h1,i,h,rfl,fun j hj=>by rw [h2 j hj]; rfl⟩]
 rfl
end Go.Bf
namespace Go.Proofs.YtnlbeamjpefpfaaGreatDoor
open Go Go.Ab Go.Bf
theorem PM:(U 64).sz=3:=by simp only [go_sem]
theorem PN:(U 57).sz=2:=by simp only [go_sem]
set_option maxRecDepth 100000 in
theorem pJ (l:List cw) (hl:l.length≤1000000) (m:aS) (hpd:m=aM∨m=bV) (h:Heap):ak Tryz.prog 119 [au l,aP m] h fun r h' =>r=au (dY l m)∧h' =h:=by
 have h9:M9 m:=by rcases hpd with rfl|rfl<;>decide
 have pe:=(nb h9).pe;have de:=(nb h9).de;have uO:=PM;obtain ⟨b,b1,b2⟩:∃b,(m==aM)=b∧(m==bV)= !b:=by
  rcases hpd with rfl|rfl
  ·exact ⟨true,by decide,by decide⟩
  ·exact ⟨false,by decide,by decide⟩
 refine ak.body hU hm Tryz.func119 rfl (by kernel_rfl) 36 rfl [.tmp 4] rfl (VZ rfl) (fun hwf=> ?_)
 simp only [go_sem,au,aP,V0];refine .intro (fun q ρ H=>∃(i:Nat) (y:AV),Acc U 64 h H y ((dY (l.take i) m).map bf)∧i≤l.length∧q=l.length - i∧lk ρ 1=some (.v (.complex .f64 (hbit m.1) (hbit m.2)))∧lk ρ 5=some y∧lk ρ 8=some (.sl (l.map bf) .no)∧lk ρ 9=some (.v (.int .i64 l.length))∧lk ρ 10=some (.v (.int .i64 i))) l.length ?_ ?_
 ·refine ⟨0, .sl [] .full,by simpa [dY] using Acc.full (.refl _),by omega,rfl, ?_, ?_, ?_, ?_, ?_⟩<;>simp only [go_sem]
 ·rintro q ρ H ⟨i,y,hy,hi,rfl,r1,r5,r8,r9,r10⟩
  obtain ⟨qy,eqy⟩:=hy.row;subst eqy;simp only [go_sem,r9,r10];refine .intro (fun e=> ?_) (fun e=> ?_)
  ·have hlt:i<l.length:=V7 e
   have w1:=V6 i (by omega)
   have hsn:=EX l m i hlt;have ix:=fun k=>fj.eq (xs:=l.map bf) (sz:=3) i (by simpa using hlt) (by rw [V1]; rfl) k
   rw [V1] at ix;obtain ⟨o,eo⟩:∃o,l[i]=o:=⟨_,rfl⟩;rw [eo] at ix hsn;simp only [bf] at ix;simp only [go_sem,r8,r10,ix];intro i7 h7;cases b
   ·cases a3:(o.on==2)
    ·cases a1:(o.on==1)
     ·simp only [go_sem,r10,a1,a3,w1]
      refine ⟨_, ?_,i+1,_,by rw [hsn,if_neg (by rw [a1,a3,b1,b2]; decide),List.append_nil]; exact hy.sub (.ai h7),by omega,rfl, ?_, ?_, ?_, ?_, ?_⟩
      ·omega
      all_goals simp only [go_sem,r1,r5,r8,r9]
     ·simp only [go_sem,r1,r10,a1,a3,b1,pe,w1]
      refine ⟨_, ?_,i+1,_,by rw [hsn,if_neg (by rw [a1,a3,b1,b2]; decide),List.append_nil]; exact hy.sub (.ai h7),by omega,rfl, ?_, ?_, ?_, ?_, ?_⟩
      ·omega
      all_goals simp only [go_sem,r1,r5,r8,r9]
    ·cases a1:(o.on==1)
     ·simp only [go_sem,r1,r5,a1,a3,b2,de]
      refine (hy.sub (.ai h7)).app (zs:= [bf o]) (by rw [uO]; decide) (by simp only [go_sem,ne_eq,not_false_eq_true]) (fun k hk=>hk) (by rw [uO]; exact bl (f:=bf) (fun _=>rfl) _) (by rw [uO]; intro z hz; rw [List.mem_singleton.1 hz]; rfl) (by simp only [go_sem,V0,List.length_cons,List.length_nil]; have:=jN (l.take i) m; rw [List.length_take] at this; omega) fun y' H' hy' kp=> ?_
      simp only [go_sem,r10,w1];refine ⟨_, ?_,i+1,y',by rw [hsn,if_pos (by rw [a1,a3,b1,b2]; decide),List.map_append]; exact hy',by omega,rfl, ?_, ?_, ?_, ?_, ?_⟩
      ·omega
      all_goals simp only [go_sem,r1,r8,r9]
     ·simp only [go_sem,r1,r5,a1,a3,b1,b2,pe,de]
      refine (hy.sub (.ai h7)).app (zs:= [bf o]) (by rw [uO]; decide) (by simp only [go_sem,ne_eq,not_false_eq_true]) (fun k hk=>hk) (by rw [uO]; exact bl (f:=bf) (fun _=>rfl) _) (by rw [uO]; intro z hz; rw [List.mem_singleton.1 hz]; rfl) (by simp only [go_sem,V0,List.length_cons,List.length_nil]; have:=jN (l.take i) m; rw [List.length_take] at this; omega) fun y' H' hy' kp=> ?_
      simp only [go_sem,r10,w1];refine ⟨_, ?_,i+1,y',by rw [hsn,if_pos (by rw [a1,a3,b1,b2]; decide),List.map_append]; exact hy',by omega,rfl, ?_, ?_, ?_, ?_, ?_⟩
      ·omega
      all_goals simp only [go_sem,r1,r8,r9]
   ·cases a1:(o.on==1)
    ·cases a3:(o.on==2)
     ·simp only [go_sem,r10,a1,a3,w1]
      refine ⟨_, ?_,i+1,_,by rw [hsn,if_neg (by rw [a1,a3,b1,b2]; decide),List.append_nil]; exact hy.sub (.ai h7),by omega,rfl, ?_, ?_, ?_, ?_, ?_⟩
      ·omega
      all_goals simp only [go_sem,r1,r5,r8,r9]
     ·simp only [go_sem,r1,r10,a1,a3,b2,de,w1]
      refine ⟨_, ?_,i+1,_,by rw [hsn,if_neg (by rw [a1,a3,b1,b2]; decide),List.append_nil]; exact hy.sub (.ai h7),by omega,rfl, ?_, ?_, ?_, ?_, ?_⟩
      ·omega
      all_goals simp only [go_sem,r1,r5,r8,r9]
    ·cases a3:(o.on==2)
     ·simp only [go_sem,r1,r5,a1,b1,pe]
      refine (hy.sub (.ai h7)).app (zs:= [bf o]) (by rw [uO]; decide) (by simp only [go_sem,ne_eq,not_false_eq_true]) (fun k hk=>hk) (by rw [uO]; exact bl (f:=bf) (fun _=>rfl) _) (by rw [uO]; intro z hz; rw [List.mem_singleton.1 hz]; rfl) (by simp only [go_sem,V0,List.length_cons,List.length_nil]; have:=jN (l.take i) m; rw [List.length_take] at this; omega) fun y' H' hy' kp=> ?_
      simp only [go_sem,r10,w1];refine ⟨_, ?_,i+1,y',by rw [hsn,if_pos (by rw [a1,a3,b1,b2]; decide),List.map_append]; exact hy',by omega,rfl, ?_, ?_, ?_, ?_, ?_⟩
      ·omega
      all_goals simp only [go_sem,r1,r8,r9]
     ·simp only [go_sem,r1,r5,a1,b1,pe]
      refine (hy.sub (.ai h7)).app (zs:= [bf o]) (by rw [uO]; decide) (by simp only [go_sem,ne_eq,not_false_eq_true]) (fun k hk=>hk) (by rw [uO]; exact bl (f:=bf) (fun _=>rfl) _) (by rw [uO]; intro z hz; rw [List.mem_singleton.1 hz]; rfl) (by simp only [go_sem,V0,List.length_cons,List.length_nil]; have:=jN (l.take i) m; rw [List.length_take] at this; omega) fun y' H' hy' kp=> ?_
      simp only [go_sem,r10,w1];refine ⟨_, ?_,i+1,y',by rw [hsn,if_pos (by rw [a1,a3,b1,b2]; decide),List.map_append]; exact hy',by omega,rfl, ?_, ?_, ?_, ?_, ?_⟩
      ·omega
      all_goals simp only [go_sem,r1,r8,r9]
  ·have hge:i=l.length:=by have:=V3 e; omega
   subst hge;rw [List.take_length] at hy;simp only [go_sem,r5];exact .mk (au (dY l m)) (by rw [List.take_length]; exact .sl _ _) hy.1 ⟨rfl,rfl⟩
theorem tri {t:Nat} (h:t≤2):t=0∨t=1∨t=2:=by omega
set_option maxRecDepth 100000 in
theorem EY (r:cO) (hr:r.obls.length≤1000000) (t c:Nat) (ht:t≤2) (hc:c≤2) (h:Heap):ak Tryz.prog 115 [aB r, .v (.int .i64 t), .v (.int .i64 c)] h fun x h' =>x=rsA (lR r t c)∧h' =h:=by
 obtain ⟨id,deny,tgt,cond,obls⟩:=r;simp only at hr;have hdp:=fun G=>pJ obls hr aM (.inl rfl) G
 have hdd:=fun G=>pJ obls hr bV (.inr rfl) G
 have hip:=fun G=>vQ aM (by decide) G
 have hid:=fun G=>vQ bV (by decide) G
 simp only [aP,aM,bV,hbit,au] at hdp hdd hip hid;refine ak.body hU hm Tryz.func115 rfl (by kernel_rfl) 38 rfl [.cell 6 57] rfl (VZ rfl) (fun hwf=> ?_)
 simp only [go_sem,aB];intro i3 h3;simp only [go_sem];intro i6 h6;have n63:=aH h6;have n6:=aD h6;have hs:∀x y,Ab.Sub h (upd (upd h i3 x) i6 y):=fun x y=>((Sub.refl h).put h3 x).put n6 y
 have hs2:∀x y z,Ab.Sub h (upd (upd (upd h i3 x) i6 y) i6 z):=fun x y z=>(hs x y).put n6 z
 cases deny
 ·rcases tri ht with rfl|rfl|rfl
  ·simp only [go_sem,aj,n63.symm]
   exact .mk (rsA (naM,[])) (oZ [] naM rfl _) (hs _ _) ⟨rfl,rfl⟩
  ·simp only [go_sem,aj,n63.symm]
   refine (hip _).pthen ?_;simp only [go_sem];exact .mk (rsA (fK aM,[])) (oZ [] (fK aM) rfl _) (hs _ _) ⟨rfl,rfl⟩
  ·rcases tri hc with rfl|rfl|rfl
   ·simp only [go_sem,aj,n63.symm]
    exact .mk (rsA (naM,[])) (oZ [] naM rfl _) (hs _ _) ⟨rfl,rfl⟩
   ·simp only [go_sem,aj,n63.symm]
    refine (hip _).pthen ?_;simp only [go_sem];exact .mk (rsA (fK aM,[])) (oZ [] (fK aM) rfl _) (hs _ _) ⟨rfl,rfl⟩
   ·simp only [go_sem,aj,n63.symm,au]
    refine (hdp _).pthen ?_;simp only [go_sem];exact .mk (rsA (aM,dY obls aM)) (oZ _ aM rfl _) (hs _ _) ⟨rfl,rfl⟩
 ·rcases tri ht with rfl|rfl|rfl
  ·simp only [go_sem,aj,n63.symm]
   exact .mk (rsA (naM,[])) (oZ [] naM rfl _) (hs _ _) ⟨rfl,rfl⟩
  ·simp only [go_sem,aj,n63.symm]
   refine (hid _).pthen ?_;simp only [go_sem];exact .mk (rsA (fK bV,[])) (oZ [] (fK bV) rfl _) (hs _ _) ⟨rfl,rfl⟩
  ·rcases tri hc with rfl|rfl|rfl
   ·simp only [go_sem,aj,n63.symm]
    exact .mk (rsA (naM,[])) (oZ [] naM rfl _) (hs _ _) ⟨rfl,rfl⟩
   ·simp only [go_sem,aj,n63.symm]
    refine (hid _).pthen ?_;simp only [go_sem];exact .mk (rsA (fK bV,[])) (oZ [] (fK bV) rfl _) (hs _ _) ⟨rfl,rfl⟩
   ·simp only [go_sem,aj,n63.symm,au]
    refine (hdd _).pthen ?_;simp only [go_sem];exact .mk (rsA (bV,dY obls bV)) (oZ _ bV rfl _) (hs _ _) ⟨rfl,rfl⟩
theorem HV (gs:List bk) (t:fP):lC gs t≤2:=(ri (xp gs) t 2).1
theorem GV (gs:List bk) (l:List aO):oh gs l≤2:=by
 unfold oh
 repeat' split
 all_goals omega
set_option maxRecDepth 100000 in
theorem EZ (r:cO) (hr:BV r) (gs:List bk) (hf:pT gs) (h:Heap):ak Tryz.prog 81 [aB r,bB gs] h fun x h' =>x=rsA (gC gs r)∧h' =h:=by
 have hob:=(jG hr.2.2.2).1;have hmt:=fun G=>HW r.tgt (z6 hr.2.1) gs hf G
 have hcd:=fun G=>JH r.cond hr.2.2.1 gs hf G
 have hef:=fun G=>EY r (by omega) (lC gs r.tgt) (oh gs r.cond) (HV _ _) (GV _ _) G
 simp only [aB,bB] at hmt hcd hef;refine ak.body hU hm Tryz.func81 rfl (by kernel_rfl) 15 rfl [.cell 4 57] rfl (VZ rfl) (fun hwf=> ?_)
 simp only [go_sem,aB,bB];intro i2 h2;simp only [go_sem];intro i4 h4;have n42:=aH h4;have n4:=aD h4;obtain ⟨H,eH⟩:∃H,upd (upd h i2 (some (.obj [.s r.id, .v (.bool r.deny),aT r.tgt,eV r.cond,au r.obls] 164))) i4 (some (.obj [.v (.complex .f64 0 0), .sl [] .full] 57))=H:=⟨_,rfl⟩;have hH:Ab.Sub h H:=by rw [←eH]; exact ((Sub.refl h).put h2 _).put n4 _
 have g2:H i2=some (.obj [.s r.id, .v (.bool r.deny),aT r.tgt,eV r.cond,au r.obls] 164):=by rw [←eH,ag _ _ n42.symm,ah]
 have g4:H i4=some (.obj [.v (.complex .f64 0 0), .sl [] .full] 57):=by rw [←eH,ah]
 simp only [go_sem];rw [eH];clear eH;refine .calls (hm1 i2 (.obj [.s r.id, .v (.bool r.deny),aT r.tgt,eV r.cond,au r.obls] 164)) [0,1,2,3,5,6,7,4,8,9,10] (.hm1 g2) (by kernel_rfl) rfl ?_
 simp only [go_sem,fJ];refine (hmt _).pthen ?_;refine ⟨.hm1 g2, ?_⟩;simp only [go_sem];refine (hcd _).pthen ?_;refine ⟨.hm1 g2, ?_⟩;simp only [go_sem];refine (hef _).pthen ?_;refine ⟨.hm1 g2, ?_⟩;simp only [go_sem,rsA,au,aP,g4];refine ⟨.hm1 (by rw [ag _ _ n42.symm]; exact g2), ?_⟩
 exact .mk _ (.refl _) (hH.put n4 _) ⟨rfl,rfl⟩
theorem yN (l:List iV):Sized 2 (l.map rsA):=bl (f:=rsA) (fun _=>rfl) l
set_option maxRecDepth 100000 in
theorem C0 {id:Txt} {set:Bool} {alg:Int} (ha:1≤alg∧alg≤6) {tgt:fP} {rules:List cO} {kids:List bG} {obls:List cw} (ho:obls.length≤1000000) (t:Nat) (ht:t=1∨t=2) (parts:List iV) (hp:∀x∈parts,M6 x.1) (hn:parts.length≤32) {B:Nat} (hB:B≤10000000) (hpb:∀x∈parts,x.2.length≤B) (q:Perm) (h:Heap):
  ak Tryz.prog 82 [aK (.mk id set alg tgt rules kids obls), .v (.int .i64 t), .sl (parts.map rsA) q] h fun r h' =>r=rsA (nN alg obls t parts)∧h' =h:=by
 have hm6:∀m∈parts.map (·.1),M6 m:=fun m hm=>by
  obtain ⟨x,hx,rfl⟩:=List.mem_map.1 hm;exact hp x hx
 have hc6:M6 (fR alg (parts.map (·.1))):=DS hm6
 have uR:=PN;have uO:=PM;have uM:=PL;have hall:=fun (p:Perm) (G:Heap)=>LQ alg ha (parts.map (·.1)) (by rw [V0]; omega) hm6 p G
 simp only [jh] at hall;refine ak.body hU hm Tryz.func82 rfl (by kernel_rfl) 84 rfl [.cell 6 57] rfl (VZ rfl) (fun hwf=> ?_)
 simp only [go_sem,aK];intro i3 h3;simp only [go_sem];intro i6 h6;have n63:=aH h6;have n6' :=aD h6;obtain ⟨H0,eH⟩:∃H0,upd (upd h i3 (some (.obj [.s id, .v (.bool set), .v (.int .i64 alg),aT tgt, .sl (rules.map aB) .no, .sl (fh kids) .no,au obls] 37))) i6 (some (.obj [.v (.complex .f64 0 0), .sl [] .full] 57))=H0:=⟨_,rfl⟩;have hH0:Ab.Sub h H0:=by rw [←eH]; exact ((Sub.refl h).put h3 _).put n6' _
 have g3:H0 i3=some (.obj [.s id, .v (.bool set), .v (.int .i64 alg),aT tgt, .sl (rules.map aB) .no, .sl (fh kids) .no,au obls] 37):=by rw [←eH,ag _ _ n63.symm,ah]
 have g6:H0 i6=some (.obj [.v (.complex .f64 0 0), .sl [] .full] 57):=by rw [←eH,ah]
 simp only [go_sem,V0];rw [eH];clear eH;refine .intro (fun m ρ H=>∃(i:Nat) (y:AV),Acc U 44 H0 H y (((parts.map (·.1)).take i).map aP)∧i≤parts.length∧m=parts.length - i∧lk ρ 1=some (.v (.int .i64 t))∧lk ρ 2=some (.sl (parts.map rsA) q)∧lk ρ 3=some (.ptr i3 0)∧lk ρ 6=some (.ptr i6 0)∧lk ρ 7=some y∧lk ρ 15=some (.sl (parts.map rsA) q)∧lk ρ 16=some (.v (.int .i64 parts.length))∧lk ρ 17=some (.v (.int .i64 i))) parts.length ?_ ?_
 ·refine ⟨0, .sl [] .full, .full (.refl _),by omega,rfl, ?_, ?_, ?_, ?_, ?_, ?_, ?_, ?_⟩<;>simp only [go_sem]
 ·rintro m ρ H ⟨i,y,hy,hi,rfl,r1,r2,r3,r6,r7,r15,r16,r17⟩
  obtain ⟨qy,eqy⟩:=hy.row;subst eqy;simp only [go_sem,r16,r17];refine .intro (fun e=> ?_) (fun e=> ?_)
  ·have hlt:i<parts.length:=V7 e
   have w1:=V6 i (by omega)
   have hsn:((parts.map (·.1)).take (i+1)).map aP=((parts.map (·.1)).take i).map aP++ [aP parts[i].1]:=by
    rw [List.take_succ_eq_append_getElem (by simpa using hlt),List.map_append,V1]; rfl
   have ix:=fun k=>fj.eq (xs:=parts.map rsA) (sz:=2) i (by simpa using hlt) (by rw [V1]; rfl) k
   rw [V1] at ix;obtain ⟨x,ex⟩:∃x,parts[i]=x:=⟨_,rfl⟩;rw [ex] at ix hsn;simp only [rsA,aP,au] at ix;simp only [go_sem,r15,r17,ix];intro i9 h9;simp only [go_sem,r7];refine (hy.sub (.ai h9)).app (zs:= [aP x.1]) (by rw [uM]; decide) (by simp only [go_sem,ne_eq,not_false_eq_true]) (fun k hk=>hk) (by rw [uM]; exact bl (f:=aP) (fun _=>rfl) _) (by rw [uM]; intro z hz; rw [List.mem_singleton.1 hz]; rfl) (by simp only [go_sem,V0,List.length_take,List.length_cons,List.length_nil]; omega) fun y' H' hy' kp=> ?_
   simp only [go_sem,r17,w1];refine ⟨_, ?_,i+1,y',by rw [hsn]; exact hy',by omega,rfl, ?_, ?_, ?_, ?_, ?_, ?_, ?_, ?_⟩
   ·omega
   all_goals simp only [go_sem,r1,r2,r3,r6,r15,r16]
  ·have hge:i=parts.length:=by have:=V3 e; omega
   subst hge;have htl:(parts.map (·.1)).take parts.length=parts.map (·.1):=List.take_of_length_le (by simp)
   rw [htl] at hy;have k3:=hy.1 _ _ g3;have k6:=hy.1 _ _ g6;have hsH:=hH0.trans hy.1;have hjp:nN alg obls t parts=if t=0 then (naM,[]) else if t=1 then (fK (fR alg (parts.map (·.1))),[]) else if fR alg (parts.map (·.1))≠aM∧fR alg (parts.map (·.1))≠bV then (fR alg (parts.map (·.1)),[])
     else (fR alg (parts.map (·.1)),eu alg (fR alg (parts.map (·.1))) parts++dY obls (fR alg (parts.map (·.1)))):=rfl
   have hple:(eu alg (fR alg (parts.map (·.1))) parts).length≤32*B+B:=rO hpb hn
   have hal:=fun G=>hall qy G
   obtain ⟨m,em⟩:∃m,fR alg (parts.map (·.1))=m:=⟨_,rfl⟩
   rw [em] at hc6 hjp hal hple;have hin:=fun G=>vQ m hc6.m9 G
   have npe:=(nb hc6.m9).npe;have nde:=(nb hc6.m9).nde;simp only [aP] at hal hin;rw [htl] at r7;simp only [go_sem,r3,r7,k3];refine (hal _).pthen ?_;rcases ht with rfl|rfl
   ·simp only [go_sem,r1]
    refine (hin _).pthen ?_;simp only [go_sem,r6,k6];exact .mk (rsA (fK m,[])) (oZ [] (fK m) rfl _) (hsH.put n6' _) ⟨by rw [hjp]; rfl,rfl⟩
   have k6H:=k6;cases dp:(m==aM)
   case true=>
    have e1:m=aM:=by simpa using dp
    have hne:¬(m≠aM∧m≠bV):=fun hh=>hh.1 e1
    have hdu:=fun G=>pJ obls ho m (.inl e1) G
    simp only [au,aP] at hdu;simp only [go_sem,r1,npe,dp];intro i12 h12;have n126:i12≠i6:=fun e=>by rw [e,k6] at h12; cases h12
    have n123:i12≠i3:=fun e=>by rw [e,k3] at h12; cases h12
    simp only [go_sem,r2,V0];refine .intro (fun k ρ K=>∃(i:Nat) (L:List cw) (ql:Perm),Acc U 64 H K (.sl (L.map bf) ql) (L.map bf)∧K i12=some (.obj [.v (.complex .f64 (hbit m.1) (hbit m.2)), .sl (L.map bf) ql] 57)∧L=eu alg m (parts.take i)∧(alg=3→∀j (h1:j<parts.length),j<i→(parts[j].1==m)=false)∧i≤parts.length∧k=parts.length - i∧lk ρ 3=some (.ptr i3 0)∧lk ρ 6=some (.ptr i6 0)∧lk ρ 10=some (.v (.complex .f64 (hbit m.1) (hbit m.2)))∧lk ρ 12=some (.ptr i12 0)∧lk ρ 55=some (.sl (parts.map rsA) q)∧lk ρ 56=some (.v (.int .i64 parts.length))∧lk ρ 57=some (.v (.int .i64 i))) parts.length ?_ ?_
    ·refine ⟨0,[], .full, .full (.ai h12),ah ..,by simp [eu],fun _ j _ hj=>(by omega),by omega,rfl, ?_, ?_, ?_, ?_, ?_, ?_, ?_⟩<;>simp only [go_sem,r3,r6]
    ·rintro k ρ K ⟨i,L,ql,hy,k12,hL,hno,hi,rfl,s3,s6,s10,s12,s55,s56,s57⟩
     have k3:=hy.1 _ _ k3;have k6:=hy.1 _ _ k6;have hLl:L.length≤32*B+B:=by rw [hL]; exact rO (fun x hx=>hpb x (List.mem_of_mem_take hx)) (by rw [List.length_take]; omega)
     simp only [go_sem,s56,s57];refine .intro (fun e=> ?_) (fun e=> ?_)
     ·have hlt:i<parts.length:=V7 e
      have w1:=V6 i (by omega)
      have hpx:=hpb _ (V5 hlt);have hm9:=(hp _ (V5 hlt)).m9;have hsn:=fun h3=>wG alg m parts i hlt h3
      have hfi:=fun h3 d=>ud (m:=m) i hlt d fun j hj=>hno h3 j (by omega) hj
      have hno2:(parts[i].1==m)=false→alg=3→∀j (h1:j<parts.length),j<i+1→(parts[j].1==m)=false:=fun d h3 j h1 hj=>by
       by_cases hji:j=i
       ·subst hji; exact d
       ·exact hno h3 j h1 (by omega)
      have hnone:alg=3→∀n,(∀j (h1:j<parts.length),j<n→(parts[j].1==m)=false)→eu alg m (parts.take n)= []:=fun h3 n hh=>by
       rw [h3];refine wF fun x hx=> ?_
       obtain ⟨j,hj,rfl⟩:=List.mem_iff_getElem.1 hx;rw [List.length_take] at hj;rw [List.getElem_take];exact hh j (by omega) (by omega)
      have ix:=fun k=>fj.eq (xs:=parts.map rsA) (sz:=2) i (by simpa using hlt) (by rw [V1]; rfl) k
      rw [V1] at ix;obtain ⟨x,ex⟩:∃x,parts[i]=x:=⟨_,rfl⟩;rw [ex] at ix hsn hfi hno2 hm9 hpx;have nx:=wq hm9 hc6.m9;simp only [rsA,aP,au] at ix;simp only [go_sem,s55,s57,ix];intro i14 h14;have n1412:i14≠i12:=fun e=>by rw [e,k12] at h14; cases h14
      have n143:i14≠i3:=fun e=>by rw [e,k3] at h14; cases h14
      cases dx:(x.1==m)
      ·have hL2:L=eu alg m (parts.take (i+1)):=by
        by_cases h3:alg=3
        ·rw [hL,hnone h3 i (hno h3),hnone h3 (i+1) (hno2 dx h3)]
        ·rw [hsn h3,dx,hL]; simp
       simp only [go_sem,s10,s57,nx,dx,w1];refine ⟨_, ?_,i+1,L,ql,hy.sub (.ai h14),by rw [ag _ _ n1412.symm]; exact k12,hL2,hno2 dx,by omega,rfl, ?_, ?_, ?_, ?_, ?_, ?_, ?_⟩
       ·omega
       all_goals simp only [go_sem,s3,s6,s10,s12,s55,s56]
      ·simp only [go_sem,s10,s12,nx,dx,aj,n1412.symm,k12]
       refine (hy.sub (.ai h14)).app (zs:=x.2.map bf) (by rw [uO]; decide) (by simp only [go_sem,ne_eq,not_false_eq_true]) (fun k hk=>hk) (by rw [uO]; exact bl (f:=bf) (fun _=>rfl) _) (by rw [uO]; exact bl (f:=bf) (fun _=>rfl) _) (by simp only [go_sem,V0]; omega) fun y' K' hy' kp=> ?_
       obtain ⟨q',eq'⟩:=hy'.row;subst eq';rw [←List.map_append] at hy';have k12' :=kp i12 _ _ (by rw [ag _ _ n1412.symm]; exact k12)
       have k3' :=kp i3 _ _ (by rw [ag _ _ n143.symm]; exact k3)
       have k6' :=hy'.1 _ _ k6H;have hyp:=fun b=>hy'.put h12 k12' b
       cases da:(alg==3)
       ·have h3:alg≠3:=by simpa using da
        simp only [go_sem,s3,s12,s57,k12',aj,n123.symm,k3',da,w1];refine ⟨_, ?_,i+1,L++x.2,q',by rw [←List.map_append]; exact hyp _,by rw [ah,List.map_append],by rw [hsn h3,dx,hL]; rfl,fun e=>(h3 e).elim,by omega,rfl, ?_, ?_, ?_, ?_, ?_, ?_, ?_⟩
        ·omega
        all_goals simp only [go_sem,s3,s6,s10,s12,s55,s56]
       ·have h3:alg=3:=by simpa using da
        have hL0:L= []:=by rw [hL,hnone h3 i (hno h3)]
        have hL:L++x.2=eu alg m parts:=by
         subst h3;rw [hfi rfl dx,hL0]; rfl
        have hLl:(L++x.2).length≤32*B+B:=by rw [hL]; exact hple
        simp only [go_sem,s3,s12,k12',aj,n123.symm,k3',da];obtain ⟨K2,eK⟩:∃K2,upd K' i12 (some (.obj [.v (.complex .f64 (hbit m.1) (hbit m.2)), .sl (L.map bf++x.2.map bf) q'] 57))=K2:=⟨_,rfl⟩;have hy:=hyp (some (.obj [.v (.complex .f64 (hbit m.1) (hbit m.2)), .sl (L.map bf++x.2.map bf) q'] 57));have k3:K2 i3=some (.obj [.s id, .v (.bool set), .v (.int .i64 alg),aT tgt, .sl (rules.map aB) .no, .sl (fh kids) .no,au obls] 37):=by rw [←eK,ag _ _ n123.symm]; exact k3'
        have k6:K2 i6=some (.obj [.v (.complex .f64 0 0), .sl [] .full] 57):=by rw [←eK,ag _ _ n126.symm]; exact k6'
        have k12:K2 i12=some (.obj [.v (.complex .f64 (hbit m.1) (hbit m.2)), .sl ((L++x.2).map bf) q'] 57):=by rw [←eK,ah,List.map_append]
        try rw [eK]
        rw [eK] at hy;clear eK;have p3:pick K2 [i3,i12] i3=some (.obj [.s id, .v (.bool set), .v (.int .i64 alg),aT tgt, .sl (rules.map aB) .no, .sl (fh kids) .no,au obls] 37):=(bz (by simp)).trans k3
        have p12:pick K2 [i3,i12] i12=some (.obj [.v (.complex .f64 (hbit m.1) (hbit m.2)), .sl ((L++x.2).map bf) q'] 57):=(bz (by simp)).trans k12
        refine .stage (pick K2 [i3,i12]) [0,1,2,3,4,5,6,7] [8] br (by kernel_rfl) ?_
        simp only [go_sem,s3,s10,s12,p3,p12,au];refine (hdu _).pthen ?_;refine ⟨br, ?_⟩;simp only [go_sem];refine hy.app (zs:=(dY obls m).map bf) (by rw [uO]; decide) (by simp only [go_sem,ne_eq,not_false_eq_true]) (fun k hk=>hk) (by rw [uO]; exact bl (f:=bf) (fun _=>rfl) _) (by rw [uO]; exact bl (f:=bf) (fun _=>rfl) _) (by simp only [go_sem,V0]; have:=jN obls m; omega) fun y2 K3 hy2 kp2=> ?_
        obtain ⟨q2,eq2⟩:=hy2.row;subst eq2;have m3:=kp2 _ _ _ k3;have m12:=kp2 _ _ _ k12;have m6:=kp2 _ _ _ k6;refine ⟨gV fun j hj=> ?_, ?_⟩
        ·simp only [List.mem_cons,List.not_mem_nil,or_false] at hj
         rcases hj with rfl|rfl
         ·rw [m3,k3]
         ·rw [m12,k12]
        simp only [go_sem,s12];refine ⟨cN,fun _ _ e=>(by cases e), ?_⟩
        simp only [go_sem,s6,s12,m12];refine ⟨fun _ _ e=>(by cases e), ?_⟩
        simp only [go_sem,aj,n126.symm,m6];exact .mk (rsA (m,(L++x.2)++dY obls m)) (oZ ((L++x.2)++dY obls m) m (by simp only [List.map_append]) _) (((hsH.trans hy2.1).put (hsH.none h12) _).put n6' _) ⟨by rw [hjp,if_neg (by decide),if_neg (by decide),if_neg hne,hL],rfl⟩
     ·have hge:i=parts.length:=by have:=V3 e; omega
      subst hge;rw [List.take_length] at hL;have p3:pick K [i3,i12] i3=some (.obj [.s id, .v (.bool set), .v (.int .i64 alg),aT tgt, .sl (rules.map aB) .no, .sl (fh kids) .no,au obls] 37):=(bz (by simp)).trans k3
      have p12:pick K [i3,i12] i12=some (.obj [.v (.complex .f64 (hbit m.1) (hbit m.2)), .sl (L.map bf) ql] 57):=(bz (by simp)).trans k12
      simp only [go_sem];refine .stage (pick K [i3,i12]) [0,1,2,3,4,5,6,7] [8] br (by kernel_rfl) ?_
      simp only [go_sem,s3,s10,s12,p3,p12,au];refine (hdu _).pthen ?_;refine ⟨br, ?_⟩;simp only [go_sem];refine hy.app (zs:=(dY obls m).map bf) (by rw [uO]; decide) (by simp only [go_sem,ne_eq,not_false_eq_true]) (fun k hk=>hk) (by rw [uO]; exact bl (f:=bf) (fun _=>rfl) _) (by rw [uO]; exact bl (f:=bf) (fun _=>rfl) _) (by simp only [go_sem,V0]; have:=jN obls m; omega) fun y2 K2 hy2 kp2=> ?_
      obtain ⟨q2,eq2⟩:=hy2.row;subst eq2;have m3:=kp2 _ _ _ k3;have m12:=kp2 _ _ _ k12;have m6:=kp2 _ _ _ k6;refine ⟨gV fun j hj=> ?_, ?_⟩
      ·simp only [List.mem_cons,List.not_mem_nil,or_false] at hj
       rcases hj with rfl|rfl
       ·rw [m3,k3]
       ·rw [m12,k12]
      simp only [go_sem,s12];refine ⟨cN,fun _ _ e=>(by cases e), ?_⟩
      simp only [go_sem,s6,s12,m12];refine ⟨fun _ _ e=>(by cases e), ?_⟩
      simp only [go_sem,aj,n126.symm,m6];exact .mk (rsA (m,L++dY obls m)) (oZ (L++dY obls m) m (by simp only [List.map_append]) _) (((hsH.trans hy2.1).put (hsH.none h12) _).put n6' _) ⟨by rw [hjp,if_neg (by decide),if_neg (by decide),if_neg hne,hL],rfl⟩
   case false=>
    cases dd:(m==bV)
    case true=>
     have e1:m=bV:=by simpa using dd
     have hne:¬(m≠aM∧m≠bV):=fun hh=>hh.2 e1
     have hdu:=fun G=>pJ obls ho m (.inr e1) G
     simp only [au,aP] at hdu;simp only [go_sem,r1,npe,nde,dp,dd];intro i12 h12;have n126:i12≠i6:=fun e=>by rw [e,k6] at h12; cases h12
     have n123:i12≠i3:=fun e=>by rw [e,k3] at h12; cases h12
     simp only [go_sem,r2,V0];refine .intro (fun k ρ K=>∃(i:Nat) (L:List cw) (ql:Perm),Acc U 64 H K (.sl (L.map bf) ql) (L.map bf)∧K i12=some (.obj [.v (.complex .f64 (hbit m.1) (hbit m.2)), .sl (L.map bf) ql] 57)∧L=eu alg m (parts.take i)∧(alg=3→∀j (h1:j<parts.length),j<i→(parts[j].1==m)=false)∧i≤parts.length∧k=parts.length - i∧lk ρ 3=some (.ptr i3 0)∧lk ρ 6=some (.ptr i6 0)∧lk ρ 10=some (.v (.complex .f64 (hbit m.1) (hbit m.2)))∧lk ρ 12=some (.ptr i12 0)∧lk ρ 55=some (.sl (parts.map rsA) q)∧lk ρ 56=some (.v (.int .i64 parts.length))∧lk ρ 57=some (.v (.int .i64 i))) parts.length ?_ ?_
     ·refine ⟨0,[], .full, .full (.ai h12),ah ..,by simp [eu],fun _ j _ hj=>(by omega),by omega,rfl, ?_, ?_, ?_, ?_, ?_, ?_, ?_⟩<;>simp only [go_sem,r3,r6]
     ·rintro k ρ K ⟨i,L,ql,hy,k12,hL,hno,hi,rfl,s3,s6,s10,s12,s55,s56,s57⟩
      have k3:=hy.1 _ _ k3;have k6:=hy.1 _ _ k6;have hLl:L.length≤32*B+B:=by rw [hL]; exact rO (fun x hx=>hpb x (List.mem_of_mem_take hx)) (by rw [List.length_take]; omega)
      simp only [go_sem,s56,s57];refine .intro (fun e=> ?_) (fun e=> ?_)
      ·have hlt:i<parts.length:=V7 e
       have w1:=V6 i (by omega)
       have hpx:=hpb _ (V5 hlt);have hm9:=(hp _ (V5 hlt)).m9;have hsn:=fun h3=>wG alg m parts i hlt h3
       have hfi:=fun h3 d=>ud (m:=m) i hlt d fun j hj=>hno h3 j (by omega) hj
       have hno2:(parts[i].1==m)=false→alg=3→∀j (h1:j<parts.length),j<i+1→(parts[j].1==m)=false:=fun d h3 j h1 hj=>by
        by_cases hji:j=i
        ·subst hji; exact d
        ·exact hno h3 j h1 (by omega)
       have hnone:alg=3→∀n,(∀j (h1:j<parts.length),j<n→(parts[j].1==m)=false)→eu alg m (parts.take n)= []:=fun h3 n hh=>by
        rw [h3];refine wF fun x hx=> ?_
        obtain ⟨j,hj,rfl⟩:=List.mem_iff_getElem.1 hx;rw [List.length_take] at hj;rw [List.getElem_take];exact hh j (by omega) (by omega)
       have ix:=fun k=>fj.eq (xs:=parts.map rsA) (sz:=2) i (by simpa using hlt) (by rw [V1]; rfl) k
       rw [V1] at ix;obtain ⟨x,ex⟩:∃x,parts[i]=x:=⟨_,rfl⟩;rw [ex] at ix hsn hfi hno2 hm9 hpx;have nx:=wq hm9 hc6.m9;simp only [rsA,aP,au] at ix;simp only [go_sem,s55,s57,ix];intro i14 h14;have n1412:i14≠i12:=fun e=>by rw [e,k12] at h14; cases h14
       have n143:i14≠i3:=fun e=>by rw [e,k3] at h14; cases h14
       cases dx:(x.1==m)
       ·have hL2:L=eu alg m (parts.take (i+1)):=by
         by_cases h3:alg=3
         ·rw [hL,hnone h3 i (hno h3),hnone h3 (i+1) (hno2 dx h3)]
         ·rw [hsn h3,dx,hL]; simp
        simp only [go_sem,s10,s57,nx,dx,w1];refine ⟨_, ?_,i+1,L,ql,hy.sub (.ai h14),by rw [ag _ _ n1412.symm]; exact k12,hL2,hno2 dx,by omega,rfl, ?_, ?_, ?_, ?_, ?_, ?_, ?_⟩
        ·omega
        all_goals simp only [go_sem,s3,s6,s10,s12,s55,s56]
       ·simp only [go_sem,s10,s12,nx,dx,aj,n1412.symm,k12]
        refine (hy.sub (.ai h14)).app (zs:=x.2.map bf) (by rw [uO]; decide) (by simp only [go_sem,ne_eq,not_false_eq_true]) (fun k hk=>hk) (by rw [uO]; exact bl (f:=bf) (fun _=>rfl) _) (by rw [uO]; exact bl (f:=bf) (fun _=>rfl) _) (by simp only [go_sem,V0]; omega) fun y' K' hy' kp=> ?_
        obtain ⟨q',eq'⟩:=hy'.row;subst eq';rw [←List.map_append] at hy';have k12' :=kp i12 _ _ (by rw [ag _ _ n1412.symm]; exact k12)
        have k3' :=kp i3 _ _ (by rw [ag _ _ n143.symm]; exact k3)
        have k6' :=hy'.1 _ _ k6H;have hyp:=fun b=>hy'.put h12 k12' b
        cases da:(alg==3)
        ·have h3:alg≠3:=by simpa using da
         simp only [go_sem,s3,s12,s57,k12',aj,n123.symm,k3',da,w1];refine ⟨_, ?_,i+1,L++x.2,q',by rw [←List.map_append]; exact hyp _,by rw [ah,List.map_append],by rw [hsn h3,dx,hL]; rfl,fun e=>(h3 e).elim,by omega,rfl, ?_, ?_, ?_, ?_, ?_, ?_, ?_⟩
         ·omega
         all_goals simp only [go_sem,s3,s6,s10,s12,s55,s56]
        ·have h3:alg=3:=by simpa using da
         have hL0:L= []:=by rw [hL,hnone h3 i (hno h3)]
         have hL:L++x.2=eu alg m parts:=by
          subst h3;rw [hfi rfl dx,hL0]; rfl
         have hLl:(L++x.2).length≤32*B+B:=by rw [hL]; exact hple
         simp only [go_sem,s3,s12,k12',aj,n123.symm,k3',da];obtain ⟨K2,eK⟩:∃K2,upd K' i12 (some (.obj [.v (.complex .f64 (hbit m.1) (hbit m.2)), .sl (L.map bf++x.2.map bf) q'] 57))=K2:=⟨_,rfl⟩;have hy:=hyp (some (.obj [.v (.complex .f64 (hbit m.1) (hbit m.2)), .sl (L.map bf++x.2.map bf) q'] 57));have k3:K2 i3=some (.obj [.s id, .v (.bool set), .v (.int .i64 alg),aT tgt, .sl (rules.map aB) .no, .sl (fh kids) .no,au obls] 37):=by rw [←eK,ag _ _ n123.symm]; exact k3'
         have k6:K2 i6=some (.obj [.v (.complex .f64 0 0), .sl [] .full] 57):=by rw [←eK,ag _ _ n126.symm]; exact k6'
         have k12:K2 i12=some (.obj [.v (.complex .f64 (hbit m.1) (hbit m.2)), .sl ((L++x.2).map bf) q'] 57):=by rw [←eK,ah,List.map_append]
         try rw [eK]
         rw [eK] at hy;clear eK;have p3:pick K2 [i3,i12] i3=some (.obj [.s id, .v (.bool set), .v (.int .i64 alg),aT tgt, .sl (rules.map aB) .no, .sl (fh kids) .no,au obls] 37):=(bz (by simp)).trans k3
         have p12:pick K2 [i3,i12] i12=some (.obj [.v (.complex .f64 (hbit m.1) (hbit m.2)), .sl ((L++x.2).map bf) q'] 57):=(bz (by simp)).trans k12
         refine .stage (pick K2 [i3,i12]) [0,1,2,3,4,5,6,7] [8] br (by kernel_rfl) ?_
         simp only [go_sem,s3,s10,s12,p3,p12,au];refine (hdu _).pthen ?_;refine ⟨br, ?_⟩;simp only [go_sem];refine hy.app (zs:=(dY obls m).map bf) (by rw [uO]; decide) (by simp only [go_sem,ne_eq,not_false_eq_true]) (fun k hk=>hk) (by rw [uO]; exact bl (f:=bf) (fun _=>rfl) _) (by rw [uO]; exact bl (f:=bf) (fun _=>rfl) _) (by simp only [go_sem,V0]; have:=jN obls m; omega) fun y2 K3 hy2 kp2=> ?_
         obtain ⟨q2,eq2⟩:=hy2.row;subst eq2;have m3:=kp2 _ _ _ k3;have m12:=kp2 _ _ _ k12;have m6:=kp2 _ _ _ k6;refine ⟨gV fun j hj=> ?_, ?_⟩
         ·simp only [List.mem_cons,List.not_mem_nil,or_false] at hj
          rcases hj with rfl|rfl
          ·rw [m3,k3]
          ·rw [m12,k12]
         simp only [go_sem,s12];refine ⟨cN,fun _ _ e=>(by cases e), ?_⟩
         simp only [go_sem,s6,s12,m12];refine ⟨fun _ _ e=>(by cases e), ?_⟩
         simp only [go_sem,aj,n126.symm,m6];exact .mk (rsA (m,(L++x.2)++dY obls m)) (oZ ((L++x.2)++dY obls m) m (by simp only [List.map_append]) _) (((hsH.trans hy2.1).put (hsH.none h12) _).put n6' _) ⟨by rw [hjp,if_neg (by decide),if_neg (by decide),if_neg hne,hL],rfl⟩
      ·have hge:i=parts.length:=by have:=V3 e; omega
       subst hge;rw [List.take_length] at hL;have p3:pick K [i3,i12] i3=some (.obj [.s id, .v (.bool set), .v (.int .i64 alg),aT tgt, .sl (rules.map aB) .no, .sl (fh kids) .no,au obls] 37):=(bz (by simp)).trans k3
       have p12:pick K [i3,i12] i12=some (.obj [.v (.complex .f64 (hbit m.1) (hbit m.2)), .sl (L.map bf) ql] 57):=(bz (by simp)).trans k12
       simp only [go_sem];refine .stage (pick K [i3,i12]) [0,1,2,3,4,5,6,7] [8] br (by kernel_rfl) ?_
       simp only [go_sem,s3,s10,s12,p3,p12,au];refine (hdu _).pthen ?_;refine ⟨br, ?_⟩;simp only [go_sem];refine hy.app (zs:=(dY obls m).map bf) (by rw [uO]; decide) (by simp only [go_sem,ne_eq,not_false_eq_true]) (fun k hk=>hk) (by rw [uO]; exact bl (f:=bf) (fun _=>rfl) _) (by rw [uO]; exact bl (f:=bf) (fun _=>rfl) _) (by simp only [go_sem,V0]; have:=jN obls m; omega) fun y2 K2 hy2 kp2=> ?_
       obtain ⟨q2,eq2⟩:=hy2.row;subst eq2;have m3:=kp2 _ _ _ k3;have m12:=kp2 _ _ _ k12;have m6:=kp2 _ _ _ k6;refine ⟨gV fun j hj=> ?_, ?_⟩
       ·simp only [List.mem_cons,List.not_mem_nil,or_false] at hj
        rcases hj with rfl|rfl
        ·rw [m3,k3]
        ·rw [m12,k12]
       simp only [go_sem,s12];refine ⟨cN,fun _ _ e=>(by cases e), ?_⟩
       simp only [go_sem,s6,s12,m12];refine ⟨fun _ _ e=>(by cases e), ?_⟩
       simp only [go_sem,aj,n126.symm,m6];exact .mk (rsA (m,L++dY obls m)) (oZ (L++dY obls m) m (by simp only [List.map_append]) _) (((hsH.trans hy2.1).put (hsH.none h12) _).put n6' _) ⟨by rw [hjp,if_neg (by decide),if_neg (by decide),if_neg hne,hL],rfl⟩
    case false=>
     have e1:m≠aM:=by simpa using dp
     have e2:m≠bV:=by simpa using dd
     simp only [go_sem,r1,r6,npe,nde,dp,dd,k6];exact .mk (rsA (m,[])) (oZ [] m rfl _) (hsH.put n6' _) ⟨by rw [hjp,if_neg (by decide),if_neg (by decide),if_pos ⟨e1,e2⟩],rfl⟩
set_option maxRecDepth 100000 in
theorem ya:∀(n d:Nat),d+n=5→∀(p:bG),lD d p→∀(gs:List bk),pT gs→∀(h:Heap),ak Tryz.prog 45 [aK p,bB gs] h fun r h' =>r=rsA (dU gs p)∧h' =h
 |0,d,hd, .mk id set alg tgt rules kids obls,hE,gs,hf,h=>by
  simp only [lD] at hE;omega
 |n+1,d,hd, .mk id set alg tgt rules kids obls,hE,gs,hf,h=>by
  have ih:=ya n (d+1) (by omega)
  simp only [lD,oJ] at hE;obtain ⟨_,_,ha1,ha2,_,_,hT,hO,hR,hK,hRE,hKE⟩:=hE;have hob:=(jG hO).1;have hmt:=fun G=>HW tgt (z6 hT) gs hf G
  have hev:dU gs (.mk id set alg tgt rules kids obls)=if lC gs tgt=0 then (naM,[]) else nN alg obls (lC gs tgt) (rules.map (gC gs)++kids.map (dU gs)):=by simp only [dU,q7]
  have hjo:=fun (ht:lC gs tgt=1∨lC gs tgt=2) (q:Perm) (G:Heap)=>C0 (id:=id) (set:=set) (alg:=alg) ⟨ha1,ha2⟩ (tgt:=tgt) (rules:=rules) (kids:=kids) (obls:=obls) (by omega) (lC gs tgt) ht (rules.map (gC gs)++kids.map (dU gs)) (fun x hx=>by
   rcases List.mem_append.1 hx with hx|hx
   ·obtain ⟨r,_,rfl⟩:=List.mem_map.1 hx; exact yd _ _ _
   ·obtain ⟨r,_,rfl⟩:=List.mem_map.1 hx; exact uK gs r) (by simp; omega) (B:=10000000) (Nat.le_refl _) (fun x hx=>by
   rcases List.mem_append.1 hx with hx|hx
   ·obtain ⟨r,hr,rfl⟩:=List.mem_map.1 hx
    have h1:=yc r (lC gs r.tgt) (oh gs r.cond);have h2:=(jG (hRE r hr).2.2.2).1
    show (lR r (lC gs r.tgt) (oh gs r.cond)).2.length≤_
    omega
   ·obtain ⟨r,hr,rfl⟩:=List.mem_map.1 hx
    have h1:=zD gs n (d+1) r (by omega) (hKE r hr)
    have h2:oB n≤oB 4:=by
     have:n≤4:=by omega
     rcases (show n=0∨n=1∨n=2∨n=3∨n=4 by omega) with rfl|rfl|rfl|rfl|rfl<;>decide
    exact Nat.le_trans h1 (Nat.le_trans h2 (by decide))) q G
  have hrl:=fun (r:cO) (hr:BV r) (G:Heap)=>EZ r hr gs hf G
  have hml:=HV gs tgt;obtain ⟨t,et⟩:∃t,lC gs tgt=t:=⟨_,rfl⟩;rw [et] at hmt hjo hev hml;simp only [aK,bB,aV,aT,au] at hmt hjo hrl;have uR:=PN;refine ak.body hU hm Tryz.func45 rfl (by kernel_rfl) 50 rfl [.cell 4 57] rfl (VZ rfl) (fun hwf=> ?_)
  simp only [go_sem,aK,bB,aV,aT,au];intro i2 h2;simp only [go_sem];intro i4 h4;have n42:=aH h4;have n4' :=aD h4;obtain ⟨H0,eH⟩:∃H0,upd (upd h i2 (some (.obj [.s id, .v (.bool set), .v (.int .i64 alg), .sl (tgt.map cH) .no, .sl (rules.map aB) .no, .sl (kids.map aK) .no, .sl (obls.map bf) .no] 37))) i4 (some (.obj [.v (.complex .f64 0 0), .sl [] .full] 57))=H0:=⟨_,rfl⟩;have hH0:Ab.Sub h H0:=by rw [←eH]; exact ((Sub.refl h).put h2 _).put n4' _
  have g2:H0 i2=some (.obj [.s id, .v (.bool set), .v (.int .i64 alg), .sl (tgt.map cH) .no, .sl (rules.map aB) .no, .sl (kids.map aK) .no, .sl (obls.map bf) .no] 37):=by rw [←eH,ag _ _ n42.symm,ah]
  have g4:H0 i4=some (.obj [.v (.complex .f64 0 0), .sl [] .full] 57):=by rw [←eH,ah]
  simp only [go_sem,aj,n42.symm];rw [eH];clear eH;refine (hmt _).pthen ?_;cases dt:((t:Int)==0)
  case true=>
   have e0:t=0:=by have:(t:Int)=0:=(by simpa using dt); omega
   simp only [go_sem,dt,g4];exact .mk (rsA (naM,[])) (oZ [] naM rfl _) (hH0.put n4' _) ⟨by rw [hev,if_pos e0],rfl⟩
  have ht0:t≠0:=by rintro rfl; simp at dt
  have ht12:t=1∨t=2:=by omega
  rw [if_neg ht0] at hev;simp only [go_sem,dt,g2,V0];refine .intro (fun m ρ H=>∃(i:Nat) (y:AV),Acc U 57 H0 H y (((rules.map (gC gs)).take i).map rsA)∧i≤rules.length∧m=rules.length - i∧lk ρ 1=some (.sl (gs.map jD) .no)∧lk ρ 2=some (.ptr i2 0)∧lk ρ 4=some (.ptr i4 0)∧lk ρ 5=some (.v (.int .i64 t))∧lk ρ 6=some y∧lk ρ 19=some (.sl (rules.map aB) .no)∧lk ρ 20=some (.v (.int .i64 rules.length))∧lk ρ 21=some (.v (.int .i64 i))) rules.length ?_ ?_
  ·refine ⟨0, .sl [] .full, .full (.refl _),by omega,rfl, ?_, ?_, ?_, ?_, ?_, ?_, ?_, ?_⟩<;>simp only [go_sem]
  ·rintro m ρ H ⟨i,y,hy,hi,rfl,r1,r2,r4,r5,r6,r19,r20,r21⟩
   obtain ⟨qy,eqy⟩:=hy.row;subst eqy;simp only [go_sem,r20,r21];refine .intro (fun e=> ?_) (fun e=> ?_)
   ·have hlt:i<rules.length:=V7 e
    have w1:=V6 i (by omega)
    have hsn:((rules.map (gC gs)).take (i+1)).map rsA=((rules.map (gC gs)).take i).map rsA++ [rsA (gC gs rules[i])]:=by
     rw [List.take_succ_eq_append_getElem (by simpa using hlt),List.map_append,V1]; rfl
    have ix:=fun k=>fj.eq (xs:=rules.map aB) (sz:=5) i (by simpa using hlt) (by rw [V1]; rfl) k
    rw [V1] at ix;have hre:=hRE _ (V5 hlt);obtain ⟨x,ex⟩:∃x,rules[i]=x:=⟨_,rfl⟩;rw [ex] at ix hsn hre;have hr1:=hrl x hre;simp only [aB,aT,au] at ix hr1;simp only [go_sem,r19,r21,ix];intro i8 h8;simp only [go_sem,r1,r6];refine (hr1 _).pthen ?_;simp only [go_sem,rsA,aP,au];refine (hy.sub (.ai h8)).app (zs:= [rsA (gC gs x)]) (by rw [uR]; decide) (by simp only [go_sem,ne_eq,not_false_eq_true]) (fun k hk=>hk) (by rw [uR]; exact yN _) (by rw [uR]; intro z hz; rw [List.mem_singleton.1 hz]; rfl) (by simp only [go_sem,V0,List.length_take,List.length_cons,List.length_nil]; omega) fun y' H' hy' kp=> ?_
    simp only [go_sem,r21,w1];refine ⟨_, ?_,i+1,y',by rw [hsn]; exact hy',by omega,rfl, ?_, ?_, ?_, ?_, ?_, ?_, ?_, ?_⟩
    ·omega
    all_goals simp only [go_sem,r1,r2,r4,r5,r19,r20]
   ·have hge:i=rules.length:=by have:=V3 e; omega
    subst hge;have htl:(rules.map (gC gs)).take rules.length=rules.map (gC gs):=List.take_of_length_le (by simp)
    rw [htl] at hy r6;have k2:=hy.1 _ _ g2;simp only [go_sem,r2,k2,V0];refine .intro (fun m ρ H=>∃(i:Nat) (y:AV),Acc U 57 H0 H y ((rules.map (gC gs)++(kids.map (dU gs)).take i).map rsA)∧i≤kids.length∧m=kids.length - i∧lk ρ 1=some (.sl (gs.map jD) .no)∧lk ρ 2=some (.ptr i2 0)∧lk ρ 4=some (.ptr i4 0)∧lk ρ 5=some (.v (.int .i64 t))∧lk ρ 6=some y∧lk ρ 33=some (.sl (kids.map aK) .no)∧lk ρ 34=some (.v (.int .i64 kids.length))∧lk ρ 35=some (.v (.int .i64 i))) kids.length ?_ ?_
    ·refine ⟨0,_,by rw [List.take_zero,List.append_nil]; exact hy,by omega,rfl, ?_, ?_, ?_, ?_, ?_, ?_, ?_, ?_⟩<;>simp only [go_sem,r1,r2,r4,r5,r6]
    ·rintro m ρ2 H2 ⟨i,y,hy,hi,rfl,s1,s2,s4,s5,s6,s33,s34,s35⟩
     obtain ⟨qy,eqy⟩:=hy.row;subst eqy;simp only [go_sem,s34,s35];refine .intro (fun e=> ?_) (fun e=> ?_)
     ·have hlt:i<kids.length:=V7 e
      have w1:=V6 i (by omega)
      have hsn:(rules.map (gC gs)++(kids.map (dU gs)).take (i+1)).map rsA=(rules.map (gC gs)++(kids.map (dU gs)).take i).map rsA++ [rsA (dU gs kids[i])]:=by
       rw [List.take_succ_eq_append_getElem (by simpa using hlt),←List.append_assoc,List.map_append,V1]; rfl
      have ix:=fun k=>fj.eq (xs:=kids.map aK) (sz:=7) i (by simpa using hlt) (by rw [V1,iM]) k
      rw [V1] at ix;have hke:=hKE _ (V5 hlt);obtain ⟨x,ex⟩:∃x,kids[i]=x:=⟨_,rfl⟩;rw [ex] at ix hsn hke;have hr1:=ih x hke gs hf;obtain ⟨kid,kset,kalg,ktgt,krules,kkids,kobls⟩:=x;simp only [aK,aT,au,bB,aV] at ix hr1;simp only [go_sem,s33,s35,ix];intro i10 h10;simp only [go_sem,s1,s6];refine (hr1 _).pthen ?_;simp only [go_sem,rsA,aP,au];refine (hy.sub (.ai h10)).app (zs:= [rsA (dU gs (.mk kid kset kalg ktgt krules kkids kobls))]) (by rw [uR]; decide) (by simp only [go_sem,ne_eq,not_false_eq_true]) (fun k hk=>hk) (by rw [uR]; exact yN _) (by rw [uR]; intro z hz; rw [List.mem_singleton.1 hz]; rfl) (by simp only [go_sem,V0,List.length_take,List.length_cons,List.length_nil,V4]; omega) fun y' H' hy' kp=> ?_
      simp only [go_sem,s35,w1];refine ⟨_, ?_,i+1,y',by rw [hsn]; exact hy',by omega,rfl, ?_, ?_, ?_, ?_, ?_, ?_, ?_, ?_⟩
      ·omega
      all_goals simp only [go_sem,s1,s2,s4,s5,s33,s34]
     ·have hge:i=kids.length:=by have:=V3 e; omega
      subst hge;have htl:(kids.map (dU gs)).take kids.length=kids.map (dU gs):=List.take_of_length_le (by simp)
      rw [htl] at hy s6;have k2:=hy.1 _ _ g2;have k4:=hy.1 _ _ g4;have hj:=fun G=>hjo ht12 qy G
      rw [←hev] at hj;obtain ⟨z,ez⟩:∃z,dU gs (.mk id set alg tgt rules kids obls)=z:=⟨_,rfl⟩;rw [ez] at hj;simp only [go_sem,s2,s5,s6,k2];refine (hj _).pthen ?_;simp only [go_sem,s4,rsA,aP,au,k4];exact .mk (rsA z) (.refl _) ((hH0.trans hy.1).put n4' _) ⟨by rw [ez]; rfl,rfl⟩
theorem tM (p:bG) (hp:fW p=0) (gs:List bk) (hf:pT gs) (h:Heap):ak Tryz.prog 17 [aK p,bB gs] h fun r h' =>r= .tup [rsA (dU gs p), .v (.int .i64 0)]∧h' =h:=by
 have hd:=fun G=>ya 4 1 rfl p (o6 hp) gs hf G
 have hr:=fun G=>rV p G
 rw [hp] at hr;obtain ⟨z,ez⟩:∃z,dU gs p=z:=⟨_,rfl⟩;rw [ez] at hd⊢;obtain ⟨id,set,alg,tgt,rules,kids,obls⟩:=p;simp only [aK,aT,au,bB] at hd hr;refine ak.body hU hm Tryz.func17 rfl (by kernel_rfl) 13 rfl [.cell 4 57, .tmp 5] rfl (VZ rfl) (fun hwf=> ?_)
 simp only [go_sem,aK,bB,aT,au];intro i2 h2;simp only [go_sem];intro i4 h4;have n42:=aH h4;have n4:=aD h4;have hs:∀x y,Ab.Sub h (upd (upd h i2 x) i4 y):=fun x y=>((Sub.refl h).put h2 x).put n4 y
 simp only [go_sem,aj,n42.symm];refine (hr _).pthen ?_;simp only [go_sem,aj,n42.symm];refine (hd _).pthen ?_;simp only [go_sem,rsA,aP,au];exact .mk _ (.refl _) (hs _ _) ⟨rfl,rfl⟩
end Go.Proofs.YtnlbeamjpefpfaaGreatDoor
namespace Go.Bf
open Go Go.Ab Go.Proofs.YtnlbeamjpefpfaaGreatDoor
structure nV where
 err:Int
 mark:aS
 glass:Bool
 val:bX
 hidden:Bool
 at_:Int
structure EC where
 op:OpD
 version:Int
 mark:aS
 glass:Bool
 obls:List cw
def Ky:OpD:=⟨0,[],[],[],[],ay,0,[],[],false⟩
def pS:EC:=⟨Ky,0,naM,false,[]⟩
def lg:Txt:= [103,108,97,115,115]
def mJ (s:an) (r:mN):Bool:=r.isOpen && decide (100≤s.tick - r.tick)
def Bh (s:an) (subj:Txt):Bool:=s.reviews.any fun r=>r.subj==subj && mJ s r
def pG (s:an) (o:OpD) (m:aS):Bool:=o.glass && (m==bV||m==naM) && uB s.roles ⟨o.subj,lg⟩ && !Bh s o.subj
def wQ (s:an) (o:OpD) (reason:Txt):mN:=⟨(s.reviews.length:Int)+1,s.tick,o.subj,o.case,iW o.kind,reason,true⟩
def dz (s:an) (o:OpD) (reason:Txt):an:= {s with reviews:=s.reviews++ [wQ s o reason]}
def jf (l:List cw) (field:Txt):Bool:=l.any fun x=>x.kind==2 && x.arg==field
def gF (cs:List aJ) (id:Txt):Nat:=cs.findIdx fun c=>c.id==id
def gY (s:an) (o:OpD) (what:Txt):an:=
 if gF s.cases o.case<s.cases.length∧o.kind≠6 then {s with cases:=s.cases.modify (gF s.cases o.case) fun c=>iH s c o.subj what} else s
def eN (o:OpD) (done:Bool) (s:an) (x:cw):an:=
 if x.kind=1∧done=true then gY s o x.arg
 else if x.kind=3 then dz s o x.arg
 else if x.kind=4 then {s with notices:=s.notices++ [⟨s.tick,o.case,x.arg⟩]}
 else s
def cM (s:an) (o:OpD) (l:List cw) (done:Bool):an:=l.foldl (eN o done) s
def oV (s:an):Bool:=decide (256<s.reviews.length)||decide (256<s.notices.length)||s.cases.any fun c=>decide (256<c.log.length)
def cY (s:an) (o:OpD):iV:=dU (eE s o) s.policy
def hY (s:an) (o:OpD):Int×Int:=if bI s o=0∧o.kind=7 then ((aR o.text).2.1,(aR o.text).2.2) else (bI s o,0)
def cJ (s:an) (o:OpD):Bool:=pG s o (cY s o).1
def ld (s:an) (o:OpD):Bool:=decide ((cY s o).1=aM)||cJ s o
def bP (s:an) (o:OpD):an:=
 let s1:=if cJ s o then dz s o o.reason else s
 cM (if ld s o then dK aR s1 o else s1) o (cY s o).2 (ld s o)
def gM (s:an) (o:OpD):nV:=
 ⟨if ld s o then 0 else 12,(cY s o).1,cJ s o,if ld s o && o.kind==2 && !jf (cY s o).2 o.field then dZ (bp s.cases o.case).fields o.field else ay,ld s o && o.kind==2 && jf (cY s o).2 o.field,0⟩
def bt (s:an) (o:OpD):an×nV×EC×Int:=
 if (hY s o).1≠0 then (s,⟨(hY s o).1,naM,false,ay,false,(hY s o).2⟩,pS,(hY s o).1)
 else if oV (bP s o) then (s,⟨6,naM,false,ay,false,0⟩,pS,6)
 else (bP s o,gM s o,⟨o,s.version,(cY s o).1,cJ s o,(cY s o).2⟩,0)
theorem v7 (s:an) (o:OpD) (w:Txt):(gY s o w).tick=s.tick∧(gY s o w).roles=s.roles∧(gY s o w).policy=s.policy∧(gY s o w).version=s.version∧(gY s o w).reviews=s.reviews∧(gY s o w).notices=s.notices:=by
 unfold gY;split<;>simp
theorem AM (o:OpD) (done:Bool) (s:an) (x:cw):(eN o done s x).tick=s.tick∧(eN o done s x).roles=s.roles∧(eN o done s x).policy=s.policy∧(eN o done s x).version=s.version:=by
 unfold eN;split
 ·have:=v7 s o x.arg; exact ⟨this.1,this.2.1,this.2.2.1,this.2.2.2.1⟩
 ·split
  ·exact ⟨rfl,rfl,rfl,rfl⟩
  ·split<;>exact ⟨rfl,rfl,rfl,rfl⟩
theorem vu (o:OpD) (done:Bool):∀(l:List cw) (s:an),(cM s o l done).tick=s.tick∧(cM s o l done).roles=s.roles∧(cM s o l done).policy=s.policy∧(cM s o l done).version=s.version
 | [],s=>⟨rfl,rfl,rfl,rfl⟩
 |x::l,s=>by
  obtain ⟨a1,a2,a3,a4⟩:=AM o done s x;obtain ⟨b1,b2,b3,b4⟩:=vu o done l (eN o done s x);exact ⟨b1.trans a1,b2.trans a2,b3.trans a3,b4.trans a4⟩
theorem qV (o:OpD):∀(l:List cw) (s:an),(cM s o l false).cases=s.cases
 | [],s=>rfl
 |x::l,s=>by
  have:(eN o false s x).cases=s.cases:=by
   unfold eN;simp only [Bool.false_eq_true,and_false,if_false];split
   ·rfl
   ·split<;>rfl
  exact (qV o l _).trans this
def gm (o:OpD) (a b:List mN):Prop:=∃c,b=a++c∧∀i (h:i<c.length),c[i].id=((a.length+i+1:Nat):Int)∧c[i].isOpen=true∧c[i].subj=o.subj
theorem gm.refl (o:OpD) (a:List mN):gm o a a:=⟨[],by simp,fun i h=>by cases h⟩
theorem gm.trans {o:OpD} {a b c:List mN} (h1:gm o a b) (h2:gm o b c):gm o a c:=by
 obtain ⟨x,rfl,hx⟩:=h1;obtain ⟨y,rfl,hy⟩:=h2;refine ⟨x++y,by simp,fun i h=> ?_⟩
 by_cases hi:i<x.length
 ·rw [List.getElem_append_left hi]; exact hx i hi
 ·rw [List.getElem_append_right (by omega)]
  have:=hy (i - x.length) (by simp at h; omega)
  refine ⟨?_,this.2⟩;rw [this.1,V4]
  congr 1
  omega
theorem gm.open (s:an) (o:OpD) (w:Txt):gm o s.reviews (dz s o w).reviews:=⟨[wQ s o w],rfl,fun i h=>by
 have:i=0:=by simpa using h
 subst this;exact ⟨by simp [wQ],rfl,rfl⟩⟩
theorem gm.duties (o:OpD) (done:Bool):∀(l:List cw) (s:an),gm o s.reviews (cM s o l done).reviews
 | [],s=> .refl o _
 |x::l,s=>by
  have:gm o s.reviews (eN o done s x).reviews:=by
   unfold eN;split
   ·rw [(v7 s o x.arg).2.2.2.2.1]; exact .refl o _
   ·split
    ·exact .open s o _
    ·split<;>exact .refl o _
  exact this.trans (gm.duties o done l _)
structure DH (c:aJ):Prop where
 id:bu c.id=true
 owner:bu c.owner=true
 state:c.state∈nw
 asc:Ch c.fields
 nfields:c.fields.length≤16
 field:∀f∈c.fields,bu f.name=true∧cc f.val=true∧eqV f.val ay=false
 log1:1≤c.log.length
 actor:∀x∈c.log,bu x.actor=true∧i64 x.tick
theorem sn.w {c:aJ} (h:sn c):DH c:=⟨h.id,h.owner,h.state,h.asc,h.nfields,h.field,h.log1,h.actor⟩
theorem DH.ok {c:aJ} (h:DH c) (hl:c.log.length≤256):sn c:=⟨h.id,h.owner,h.state,h.asc,h.nfields,h.field,h.log1,hl,h.actor⟩
structure ko (k:Nat) (s:an):Prop where
 tick:0≤s.tick∧s.tick≤1099511627776
 asc:Asc s.cases
 ncases:s.cases.length≤64
 case:∀c∈s.cases,DH c
 roles:s.roles.length≤64
 role:∀r∈s.roles,bu r.subj=true∧bu r.role=true
 pol:fW s.policy=0
 ver:0≤s.version∧s.version≤k
theorem cW.w {k:Nat} {s:an} (h:cW k s):ko k s:=⟨h.tick,h.asc,h.ncases,fun c hc=>(h.case c hc).w,h.roles,h.role,h.pol,h.ver⟩
theorem ko.ok {k:Nat} {s:an} (h:ko k s) (ho:oV s=false):cW k s:=by
 unfold oV at ho;simp only [Bool.or_eq_false_iff,decide_eq_false_iff_not] at ho;obtain ⟨⟨h1,h2⟩,h3⟩:=ho;refine ⟨h.tick,h.asc,h.ncases,fun c hc=>(h.case c hc).ok ?_,by omega,by omega,h.roles,h.role,h.pol,h.ver⟩
 have:=List.any_eq_false.1 h3 c hc;simpa using this
theorem Dz {k:Nat} {s:an} (o:OpD) (w:Txt) (h:ko k s):ko k (dz s o w):= {h with}
theorem Dy {k:Nat} {s:an} {o:OpD} (hn:bu o.subj=true) (w:Txt) (h:ko k s):ko k (gY s o w):=by
 unfold gY;split
 ·refine {h with asc:=zx (jF fun x=>rfl) h.asc,ncases:=by simpa using h.ncases,case:= ?_}
  intro d hd;rcases mem_modify hd with hd|⟨hi,rfl⟩
  ·exact h.case d hd
  ·have hc:=h.case _ (V5 hi)
   refine ⟨hc.id,hc.owner,hc.state,hc.asc,hc.nfields,hc.field,by simp [iH], ?_⟩
   intro x hx;simp only [iH,List.mem_append,List.mem_singleton] at hx;rcases hx with hx|rfl
   ·exact hc.actor x hx
   ·exact ⟨hn,by have:=h.tick; constructor<;>simp only<;>omega⟩
 ·exact h
theorem Dx {k:Nat} {o:OpD} (hn:bu o.subj=true) (done:Bool) {s:an} (x:cw) (h:ko k s):ko k (eN o done s x):=by
 unfold eN;split
 ·exact Dy hn _ h
 ·split
  ·exact Dz o _ h
  ·split
   ·exact {h with}
   ·exact h
theorem rW {k:Nat} {o:OpD} (hn:bu o.subj=true) (done:Bool):∀(l:List cw) {s:an},ko k s→ko k (cM s o l done)
 | [],s,h=>h
 |x::l,s,h=>rW hn done l (Dx hn done x h)
theorem zT {k:Nat} {s:an} (o:OpD) (w:Txt) (h:cW k s) (hr:s.reviews.length≤999):cW k (dz s o w):= {h with nrev:=by simp [dz]; omega}
structure jL (k:Nat) (s:an):Prop extends cW k s where
 ids:∀i (h:i<s.reviews.length),s.reviews[i].id=((i+1:Nat):Int)
 nr:s.reviews.length≤256
 nn:s.notices.length≤256
theorem Fi:jL 0 rE:= {F9 with ids:=fun i h=>(by cases h),nr:=by decide,nn:=by decide}
theorem rS {s:an} {o:OpD} (h:(hY s o).1=0):bI s o=0∧fE o=true∧(o.kind=7→(aR o.text).2.1=0):=by
 unfold hY at h;have hr:bI s o=0:=by
  split at h
  ·rename_i hc; exact hc.1
  ·exact h
 have hf:fE o=true:=by
  unfold bI at hr;cases h:fE o with
  |true=>rfl
  |false=>rw [h] at hr; simp at hr
 exact ⟨hr,hf,fun hk=>by rw [if_pos ⟨hr,hk⟩] at h; exact h⟩
theorem GN {k:Nat} {s:an} {o:OpD} (h:jL k s) (hp:(hY s o).1=0):ko (k+1) (bP s o):=by
 have hn:=(rj (rS hp).2.1).subj;have h1:cW k (if cJ s o then dz s o o.reason else s):=by
  split
  ·exact zT o _ h.tocW (by have:=h.nr; omega)
  ·exact h.tocW
 unfold bP;refine rW hn _ _ ?_;split
 ·exact (ny o h1).w
 ·have:=h1.w
  exact {this with ver:=⟨this.ver.1,by have:=this.ver.2; omega⟩}
def shut (r:mN):mN:= {r with isOpen:=false}
theorem sy (par:Txt→bG×Int×Int) (s:an) (o:OpD):(dK par s o).reviews=if bI s o=0∧o.kind=5 then s.reviews.modify (o.review - 1).toNat shut else s.reviews:=by
 unfold dK
 by_cases hr:bI s o=0
 ·rw [if_pos hr]
  unfold doD
  by_cases k1:o.kind=1
  ·simp [k1]
  ·by_cases k3:o.kind=3
   ·simp [k3]
   ·by_cases k4:o.kind=4
    ·simp [k4]
    ·by_cases k5:o.kind=5
     ·simp [k5,hr]; rfl
     ·simp only [k1,k3,k4,k5,if_false,and_false]
      split
      ·split<;>rfl
      ·split
       ·split<;>rfl
       ·split<;>rfl
 ·simp [hr]
theorem vJ {o:OpD} (h:fE o=true) (hg:o.glass=true):1≤o.kind∧o.kind≤4:=by
 simp only [fE,Bool.and_eq_true] at h;have:=h.1.1.1.1.1.1.2;unfold lY at this;rw [hg] at this;simp only [if_true,Bool.and_eq_true,sR,decide_eq_true_eq] at this;exact this.1.1
theorem A1 {s:an} {o:OpD} (h:cJ s o=true):o.glass=true:=by
 unfold cJ pG at h;simp only [Bool.and_eq_true] at h;exact h.1.1.1
structure Cj (s:an) (o:OpD) (t:an) (r:nV) (e:Int):Prop where
 len:s.reviews.length≤t.reviews.length
 old:∀i (h:i<s.reviews.length) (h' :i<t.reviews.length),(e=0∧r.err=0∧o.kind=5∧o.review=((i+1:Nat):Int)→o.subj≠s.reviews[i].subj∧s.reviews[i].isOpen=true∧t.reviews[i].isOpen=false∧t.reviews[i].id=s.reviews[i].id)∧
  (¬(e=0∧r.err=0∧o.kind=5∧o.review=((i+1:Nat):Int))→t.reviews[i]=s.reviews[i])
 new:∀i (h:i<t.reviews.length),s.reviews.length≤i→t.reviews[i].id=((i+1:Nat):Int)∧t.reviews[i].isOpen=true∧t.reviews[i].subj=o.subj
 glass:r.glass=true→∃h:s.reviews.length<t.reviews.length,t.reviews[s.reviews.length].reason=o.reason
theorem Cj.same (s:an) (o:OpD) (e:Int) (r:nV) (he:e≠0) (hg:r.glass=false):Cj s o s r e:=
 ⟨Nat.le_refl _,fun i h h' =>⟨fun hc=>(he hc.1).elim,fun _=>rfl⟩,fun i h h' =>by omega,fun h=>by rw [hg] at h; cases h⟩
theorem Eh {o:OpD} {a b:List mN} (h:gm o a b):a.length≤b.length∧(∀i (h1:i<a.length) (h2:i<b.length),b[i]=a[i])∧∀i (h1:i<b.length),a.length≤i→b[i].id=((i+1:Nat):Int)∧b[i].isOpen=true∧b[i].subj=o.subj:=by
 obtain ⟨c,rfl,hc⟩:=h;refine ⟨by simp,fun i h1 h2=>by rw [List.getElem_append_left h1],fun i h1 h2=> ?_⟩
 rw [List.getElem_append_right h2];have:=hc (i - a.length) (by simp at h1; omega)
 refine ⟨?_,this.2⟩;rw [this.1]
 congr 1
 omega
theorem Ay {s:an} {o:OpD} (hr:bI s o=0) (hf:fE o=true) (hk:o.kind=5):1≤o.review∧∃h:(o.review - 1).toNat<s.reviews.length,s.reviews[(o.review - 1).toNat].isOpen=true∧s.reviews[(o.review - 1).toNat].subj≠o.subj:=by
 have F:=rj hf;have hok:=F.ok;unfold okD at hok;simp only [hk,show¬(5:Int)=1 by decide,show¬((5:Int)=2∨(5:Int)=6) by decide,show¬(5:Int)=3 by decide,show¬(5:Int)=4 by decide,if_false,if_true,decide_eq_true_eq] at hok
 unfold bI at hr;rw [hf] at hr;simp only [hk,Bool.true_eq_false,show¬(5:Int)=1 by decide,show¬(2≤(5:Int)∧(5:Int)≤4) by decide,if_false,if_true] at hr
 unfold fz ue at hr;rw [if_pos (by omega:1≤o.review)] at hr
 refine ⟨by omega, ?_⟩
 cases hx:s.reviews[(o.review - 1).toNat]? with
 |none=>rw [hx] at hr; simp at hr
 |some r=>
  rw [hx] at hr;obtain ⟨h,rfl⟩:=List.getElem?_eq_some_iff.1 hx;refine ⟨h, ?_, ?_⟩
  ·cases ho:s.reviews[(o.review - 1).toNat].isOpen with
   |true=>rfl
   |false=>simp only [ho,if_true] at hr; exact absurd hr (by decide)
  ·intro e
   simp only [e,if_true] at hr;split at hr<;>simp at hr
theorem wR {k:Nat} {s:an} {o:OpD} (h:jL k s):Cj s o (bt s o).1 (bt s o).2.1 (bt s o).2.2.2:=by
 unfold bt
 by_cases hp:(hY s o).1=0
 ·rw [if_neg (by simp [hp])]
  by_cases ho:oV (bP s o)=true
  ·rw [if_pos ho]; exact .same _ _ _ _ (by show (6:Int)≠0; decide) rfl
  ·rw [if_neg ho]
   obtain ⟨hr,hf,_⟩:=rS hp;simp only
   by_cases hk:o.kind=5
   ·have hg:cJ s o=false:=by
     cases hg:cJ s o with
     |false=>rfl
     |true=>have:=vJ hf (A1 hg); omega
    obtain ⟨hv1,hlt,hop,hsu⟩:=Ay hr hf hk
    by_cases hd:ld s o=true
    ·have hb:bP s o=cM (dK aR s o) o (cY s o).2 true:=by
      unfold bP; simp [hg,hd]
     have hrev:(dK aR s o).reviews=s.reviews.modify (o.review - 1).toNat shut:=by
      rw [sy,if_pos ⟨hr,hk⟩]
     have hon:=gm.duties o true (cY s o).2 (dK aR s o);rw [←hb,hrev] at hon;obtain ⟨a1,a2,a3⟩:=Eh hon;have hlm:(s.reviews.modify (o.review - 1).toNat shut).length=s.reviews.length:=by simp
     rw [hlm] at a1;refine ⟨a1,fun i h1 h2=>⟨fun hc=> ?_,fun hc=> ?_⟩,fun i h1 h2=>a3 i h1 (by rw [hlm]; exact h2),fun hgl=> ?_⟩
     ·have hi:(o.review - 1).toNat=i:=by omega
      subst hi;rw [a2 _ (by rw [hlm]; exact h1) h2,List.getElem_modify,if_pos rfl]
      exact ⟨fun e=>hsu e.symm,hop,rfl,rfl⟩
     ·have hi:(o.review - 1).toNat≠i:=fun e=>hc ⟨rfl,by simp [gM,hd],hk,by omega⟩
      rw [a2 _ (by rw [hlm]; exact h1) h2,List.getElem_modify,if_neg hi]
     ·simp [gM,hg] at hgl
    ·have hd:ld s o=false:=by simpa using hd
     have hb:bP s o=cM s o (cY s o).2 false:=by
      unfold bP; simp [hg,hd]
     have hon:=gm.duties o false (cY s o).2 s;rw [←hb] at hon;obtain ⟨a1,a2,a3⟩:=Eh hon;refine ⟨a1,fun i h1 h2=>⟨fun hc=> ?_,fun hc=>a2 i h1 h2⟩,a3,fun hgl=> ?_⟩
     ·have:=hc.2.1
      simp [gM,hd] at this
     ·simp [gM,hg] at hgl
   ·have hs1:gm o s.reviews (if cJ s o then dz s o o.reason else s).reviews:=by
     split
     ·exact .open s o _
     ·exact .refl o _
    have hs2:(if ld s o then dK aR (if cJ s o then dz s o o.reason else s) o else (if cJ s o then dz s o o.reason else s)).reviews=(if cJ s o then dz s o o.reason else s).reviews:=by
     split
     ·rw [sy,if_neg (fun h=>hk h.2)]
     ·rfl
    have hd:=gm.duties o (ld s o) (cY s o).2 (if ld s o then dK aR (if cJ s o then dz s o o.reason else s) o else (if cJ s o then dz s o o.reason else s))
    rw [hs2] at hd;have hon:gm o s.reviews (bP s o).reviews:=hs1.trans hd;obtain ⟨a1,a2,a3⟩:=Eh hon;refine ⟨a1,fun i h1 h2=>⟨fun hc=>(hk hc.2.2.1).elim,fun hc=>a2 i h1 h2⟩,a3,fun hgl=> ?_⟩
    have hg:cJ s o=true:=hgl;have hd' :=hd;simp only [hg,↓reduceIte] at hd';obtain ⟨b1,b2,_⟩:=Eh hd';have hb:(bP s o)=cM (if ld s o then dK aR (dz s o o.reason) o else dz s o o.reason) o (cY s o).2 (ld s o):=by
     unfold bP; simp [hg]
    rw [←hb] at b1 b2;have hl:(dz s o o.reason).reviews.length=s.reviews.length+1:=by simp [dz]
    refine ⟨by omega, ?_⟩
    rw [b2 s.reviews.length (by omega) (by omega)]
    simp [dz,wQ]
 ·rw [if_pos (by simpa using hp)]
  exact .same _ _ _ _ (by simpa using hp) rfl
theorem jL.up {k:Nat} {s:an} (h:jL k s):jL (k+1) s:= {h with ver:=⟨h.ver.1,by have:=h.ver.2; omega⟩}
theorem CQ {k:Nat} {s:an} (o:OpD) (h:jL k s):jL (k+1) (bt s o).1:=by
 have hrl:=wR (o:=o) h;unfold bt at hrl⊢
 by_cases hp:(hY s o).1=0
 ·rw [if_neg (by simp [hp])] at hrl⊢
  by_cases ho:oV (bP s o)=true
  ·rw [if_pos ho]; exact h.up
  ·rw [if_neg ho] at hrl⊢
   have ho:oV (bP s o)=false:=by simpa using ho
   have hw:=(GN h hp).ok ho;unfold oV at ho;simp only [Bool.or_eq_false_iff,decide_eq_false_iff_not] at ho;refine {hw with ids:=fun i hi=> ?_,nr:=by have:=ho.1.1; simp only; omega,nn:=by have:=ho.1.2; simp only; omega}
   by_cases hlt:i<s.reviews.length
   ·obtain ⟨h1,h2⟩:=hrl.old i hlt hi
    by_cases hc:(0:Int)=0∧(gM s o).err=0∧o.kind=5∧o.review=((i+1:Nat):Int)
    ·rw [(h1 hc).2.2.2]; exact h.ids i hlt
    ·rw [h2 hc]; exact h.ids i hlt
   ·exact (hrl.new i hi (by omega)).1
 ·rw [if_pos (by simpa using hp)]; exact h.up
theorem undone {s:an} {o:OpD} (hd:ld s o=false):bP s o=cM s o (cY s o).2 false:=by
 have hg:cJ s o=false:=by
  unfold ld at hd;exact (Bool.or_eq_false_iff.1 hd).2
 unfold bP;simp [hd,hg]
structure Ju (s:an) (o:OpD):Prop where
 err:(bt s o).2.2.2≠0→(bt s o).1=s∧(bt s o).2.1.err=(bt s o).2.2.2∧(bt s o).2.1.mark=naM
 ok:(bt s o).2.2.2=0→(bt s o).2.1.mark=(cY s o).1∧(bt s o).2.2.1=⟨o,s.version,(cY s o).1,cJ s o,(cY s o).2⟩∧(bt s o).2.1.glass=cJ s o∧(bt s o).1=bP s o∧(bt s o).2.1=gM s o
theorem Ie (s:an) (o:OpD):Ju s o:=by
 by_cases hp:(hY s o).1=0
 ·by_cases ho:oV (bP s o)=true
  ·have e:bt s o=(s,⟨6,naM,false,ay,false,0⟩,pS,6):=by unfold bt; rw [if_neg (by simp [hp]),if_pos ho]
   exact ⟨fun _=>by rw [e]; exact ⟨rfl,rfl,rfl⟩,fun h=>by rw [e] at h; exact absurd h (by show¬(6:Int)=0; decide)⟩
  ·have e:bt s o=(bP s o,gM s o,⟨o,s.version,(cY s o).1,cJ s o,(cY s o).2⟩,0):=by unfold bt; rw [if_neg (by simp [hp]),if_neg ho]
   exact ⟨fun h=>by rw [e] at h; exact absurd rfl h,fun _=>by rw [e]; exact ⟨rfl,rfl,rfl,rfl,rfl⟩⟩
 ·have e:bt s o=(s,⟨(hY s o).1,naM,false,ay,false,(hY s o).2⟩,pS,(hY s o).1):=by unfold bt; rw [if_pos (by simpa using hp)]
  exact ⟨fun _=>by rw [e]; exact ⟨rfl,rfl,rfl⟩,fun h=>by rw [e] at h; exact absurd h hp⟩
theorem vL {s:an} {o:OpD} (h:cJ s o=true):o.glass=true∧((cY s o).1=bV∨(cY s o).1=naM)∧uB s.roles ⟨o.subj,lg⟩=true∧Bh s o.subj=false:=by
 unfold cJ pG at h;simp only [Bool.and_eq_true,Bool.or_eq_true,beq_iff_eq,Bool.not_eq_true'] at h;exact ⟨h.1.1.1,h.1.1.2,h.1.2,h.2⟩
theorem sE {s:an} {o:OpD} (h:(cY s o).1=aM):cJ s o=false:=by
 cases hg:cJ s o with
 |false=>rfl
 |true=>
  rcases (vL hg).2.1 with e|e<;>rw [h] at e<;>cases e
theorem AJ {s:an} {o:OpD} (hd:ld s o=false):(bP s o).cases=s.cases∧(bP s o).tick=s.tick∧(bP s o).version=s.version∧(bP s o).roles=s.roles∧(gM s o).err=12∧(gM s o).val=ay:=by
 rw [undone hd];obtain ⟨a1,a2,a3,a4⟩:=vu o false (cY s o).2 s;exact ⟨qV o _ s,a1,a4,a2,by simp [gM,hd],by simp [gM,hd]⟩
theorem vv (o:OpD) (done:Bool):∀(l:List cw) (s:an),(cM s o l done).cases.length=s.cases.length
 | [],s=>rfl
 |x::l,s=>by
  have:(eN o done s x).cases.length=s.cases.length:=by
   unfold eN;split
   ·unfold gY; split<;>simp
   ·split
    ·rfl
    ·split<;>rfl
  exact (vv o done l _).trans this
def KJ (alg:Int):bG:= .mk [112] false alg [] [] [] []
def qv:OpD:=⟨6,uy,uy,lg,[],ay,0,[],[],false⟩
def L4:Txt:= [112,111,108,105,99,121,32,112,32,100,101,110,121,117,110,108,101,115,115,32,123,32,125]
def CC:OpD:=⟨7,uy,[],[],[],ay,0,L4,[],false⟩
def KU:Txt:= [102,105,114,101]
def FI:OpD:=⟨1,uy,cT,[],[],ay,0,[],[],false⟩
def Bq:OpD:=⟨1,uy,cT,[],[],ay,0,[],KU,true⟩
def qj:an:=⟨0,[],[],[],[⟨uy,lg⟩],jE,0⟩
def j6:an:=⟨0,[],[],[],[⟨uy,lg⟩],KJ 5,1⟩
def wT:mN:=⟨1,0,uy,cT,[110,101,119],KU,true⟩
def qk:an:=⟨0,[⟨cT,uy,gI,[],[⟨0,uy,[110,101,119]⟩]⟩],[wT],[],[⟨uy,lg⟩],KJ 5,1⟩
theorem Lf:bt rE qv=(qj,⟨0,aM,false,ay,false,0⟩,⟨qv,0,aM,false,[]⟩,0):=by kernel_rfl
theorem Lg:bt qj CC=(j6,⟨0,aM,false,ay,false,0⟩,⟨CC,0,aM,false,[]⟩,0):=by kernel_rfl
theorem PE:bt j6 FI=(j6,⟨12,bV,false,ay,false,0⟩,⟨FI,1,bV,false,[]⟩,0):=by kernel_rfl
theorem Lh:bt j6 Bq=(qk,⟨0,bV,true,ay,false,0⟩,⟨Bq,1,bV,true,[]⟩,0):=by kernel_rfl
def rep (n:Nat) (t:Txt):Txt:=(List.replicate n t).flatten
def MLe (a b:dQ):Prop:=(∀x∈a.met,x∈b.met)∧a.rules≤b.rules
theorem MLe.refl (a:dQ):MLe a a:=⟨fun _ h=>h,Nat.le_refl _⟩
theorem MLe.trans {a b c:dQ} (h1:MLe a b) (h2:MLe b c):MLe a c:=⟨fun x h=>h2.1 x (h1.1 x h),Nat.le_trans h1.2 h2.2⟩
theorem Ec {a b b' :dQ} {s:Txt} (h:MLe a b) (hm:iE b s=some b'):∃a',iE a s=some a'∧MLe a' b' :=by
 unfold iE at hm⊢;split at hm
 ·rename_i hc
  cases hm;refine ⟨_,if_pos ⟨fun hx=>hc.1 (h.1 s hx),hc.2⟩,fun x hx=> ?_,h.2⟩
  rcases List.mem_append.1 hx with hx|hx
  ·exact List.mem_append.2 (.inl (h.1 x hx))
  ·exact List.mem_append.2 (.inr hx)
 ·cases hm
theorem Ed {b b' :dQ} {s:Txt} (hm:iE b s=some b'):MLe b b' :=by
 unfold iE at hm;split at hm
 ·cases hm; exact ⟨fun x hx=>List.mem_append.2 (.inl hx),Nat.le_refl _⟩
 ·cases hm
theorem mF {e:Int} {w:Went} {m:dQ} (h:need e w= .ok m):e=0∧w= .ok m:=by
 unfold need at h;split at h
 ·exact ⟨by assumption,h⟩
 ·cases h
theorem Kl {a b b' :dQ} {r:cO} (h:MLe a b) (hr:fT b r= .ok b'):(∃a',fT a r= .ok a'∧MLe a' b')∧MLe b b' :=by
 unfold fT at hr⊢;cases hm:iE b r.id with
 |none=>rw [hm] at hr; cases hr
 |some m=>
  rw [hm] at hr;obtain ⟨a',ha,hl⟩:=Ec h hm;simp only at hr;split at hr
  ·cases hr
  ·obtain ⟨e1,hr⟩:=mF hr
   obtain ⟨e2,hr⟩:=mF hr;obtain ⟨e3,hr⟩:=mF hr;cases hr;have hup:=Ed hm;refine ⟨⟨⟨a'.met,a'.rules+1⟩, ?_,hl.1,by have:=hl.2; simp only; omega⟩,hup.1,by have:=hup.2; simp only; omega⟩
   rw [ha];have:=hl.2;simp only [e1,e2,e3,need,if_true];rw [if_neg (by omega)]
theorem BX:∀(l:List cO) {a b b' :dQ},MLe a b→eD b l= .ok b'→(∃a',eD a l= .ok a'∧MLe a' b')∧MLe b b'
 | [],a,b,b',h,hr=>by
  simp only [eD] at hr;cases hr;exact ⟨⟨a,rfl,h⟩, .refl _⟩
 |r::l,a,b,b',h,hr=>by
  simp only [eD] at hr⊢;cases hw:fT b r with
  |bad e=>rw [hw] at hr; cases hr
  |ok m=>
   rw [hw] at hr;obtain ⟨⟨a',ha,hl⟩,hu⟩:=Kl h hw;obtain ⟨⟨a'',ha',hl'⟩,hu'⟩:=BX l hl hr;exact ⟨⟨a'',by rw [ha]; exact ha',hl'⟩,hu.trans hu'⟩
theorem JS {a b b' :dQ} {id:Txt} {set:Bool} {alg:Int} {tgt:fP} {nr nk nk' :Nat} {obls:List cw} (h:MLe a b) (hk:nk'≤nk) (hr:eO b id set alg tgt nr nk obls= .ok b'):(∃a',eO a id set alg tgt nr nk' obls= .ok a'∧MLe a' b')∧MLe b b' :=by
 unfold eO at hr⊢;cases hm:iE b id with
 |none=>rw [hm] at hr; cases hr
 |some m=>
  rw [hm] at hr;obtain ⟨a',ha,hl⟩:=Ec h hm;simp only at hr;split at hr
  ·cases hr
  ·rename_i h1
   split at hr
   ·cases hr
   ·rename_i h2
    obtain ⟨e1,hr⟩:=mF hr;obtain ⟨e2,hr⟩:=mF hr;split at hr
    ·cases hr
    ·rename_i h3
     cases hr;refine ⟨⟨a', ?_,hl⟩,Ed hm⟩;rw [ha];have h2' :¬(set=true∧nr>0∨set=false∧(nk' >0∨alg=4)):=by
      rintro (⟨p,q⟩|⟨p,q|q⟩)
      ·exact h2 (.inl ⟨p,q⟩)
      ·exact h2 (.inr ⟨p, .inl (by omega)⟩)
      ·exact h2 (.inr ⟨p, .inr q⟩)
     simp only [if_neg h1,if_neg h2',e1,e2,need,if_true];rw [if_neg (by omega)]
theorem BF (gs:List bk):∀l:List bG,(jj gs l).length≤l.length
 | []=>by simp [jj]
 |k::r=>by
  have:=BF gs r;simp only [jj];split<;>simp<;>omega
mutual
theorem BH (gs:List bk):∀(p:bG) (d:Nat) {a b b' :dQ},MLe a b→jI b d p= .ok b'→(∃a',jI a d (jk gs p)= .ok a'∧MLe a' b')∧MLe b b'
 | .mk id set alg tgt rules kids obls,d,a,b,b',h,hr=>by
  simp only [jI,jk] at hr⊢;split at hr
  ·cases hr
  ·rename_i hd
   rw [if_neg hd];cases hh:eO b id set alg tgt rules.length kids.length obls with
   |bad e=>rw [hh] at hr; cases hr
   |ok m=>
    rw [hh] at hr;simp only at hr;obtain ⟨⟨a1,ha1,hl1⟩,hu1⟩:=JS h (BF gs kids) hh;cases hw:eD m rules with
    |bad e=>rw [hw] at hr; cases hr
    |ok m2=>
     rw [hw] at hr;simp only at hr;obtain ⟨⟨a2,ha2,hl2⟩,hu2⟩:=BX rules hl1 hw;obtain ⟨⟨a3,ha3,hl3⟩,hu3⟩:=sM gs kids (d+1) hl2 hr;refine ⟨⟨a3, ?_,hl3⟩,(hu1.trans hu2).trans hu3⟩;rw [ha1];simp only [ha2];exact ha3
theorem sM (gs:List bk):∀(l:List bG) (d:Nat) {a b b' :dQ},MLe a b→gG b d l= .ok b'→(∃a',gG a d (jj gs l)= .ok a'∧MLe a' b')∧MLe b b'
 | [],d,a,b,b',h,hr=>by
  simp only [gG,jj] at hr⊢;cases hr;exact ⟨⟨a,rfl,h⟩, .refl _⟩
 |k::r,d,a,b,b',h,hr=>by
  simp only [gG] at hr;cases hw:jI b d k with
  |bad e=>rw [hw] at hr; cases hr
  |ok m=>
   rw [hw] at hr;simp only at hr;obtain ⟨⟨a1,ha1,hl1⟩,hu1⟩:=BH gs k d h hw;simp only [jj];split
   ·obtain ⟨⟨a2,ha2,hl2⟩,hu2⟩:=sM gs r d hl1 hr
    refine ⟨⟨a2, ?_,hl2⟩,hu1.trans hu2⟩;simp only [gG,ha1];exact ha2
   ·obtain ⟨⟨a2,ha2,hl2⟩,hu2⟩:=sM gs r d (h.trans hu1) hr
    exact ⟨⟨a2,ha2,hl2⟩,hu1.trans hu2⟩
end
theorem Di (gs:List bk) {p:bG} (h:fW p=0):fW (jk gs p)=0:=by
 unfold fW at*;cases hw:jI ⟨[],0⟩ 1 p with
 |bad e=>
  have:=rR 4 1 _ _ e rfl hw;rw [hw] at h;exact (this h).elim
 |ok m=>
  obtain ⟨⟨a,ha,_⟩,_⟩:=BH gs p 1 (.refl _) hw;rw [ha]; rfl
def PW:bN:=⟨⟨0,[],false⟩,0,ay⟩
def J0 (k:Option bN):AV:=match k with
 |some m=> .tup [dD m, .v (.bool true)]
 |none=> .tup [dD PW, .v (.bool false)]
theorem HJ {x:List (List bN)} {r:fP} (h:x.length≠1):mD (x::r)=mD r:=by
 match x,h with
 | [],_=>rfl
 | [l],h=>exact (h rfl).elim
 |a::b::c,_=>rfl
theorem HI {l:List bN} {r:fP} (h:(l.find? fun m=>m.op==1 && !m.attr.must)=none):mD ([l]::r)=mD r:=by
 simp only [mD,h]
theorem HK {l:List bN} {r:fP} {m:bN} (h:(l.find? fun m=>m.op==1 && !m.attr.must)=some m):mD ([l]::r)=some m:=by
 simp only [mD,h]
theorem BE (gs:List bk):∀l:List bG,jj gs l=(l.filter (qF gs)).map (jk gs)
 | []=>by simp [jj]
 |k::r=>by
  simp only [jj,List.filter_cons,BE gs r];split<;>simp
def ixP (gs:List bk) (l:List bG) (n:Nat):List Nat:=(List.range n).filter fun j=>qF gs (l.getD j jE)
theorem Bc (gs:List bk) (l:List bG) {n:Nat} (h:n<l.length):ixP gs l (n+1)=ixP gs l n++(if qF gs l[n]=true then [n] else []):=by
 unfold ixP;rw [List.range_succ,List.filter_append,List.filter_cons];simp [List.getD,List.getElem?_eq_getElem h]
theorem Bd (gs:List bk) (l:List bG):∀n:Nat,n≤l.length→(ixP gs l n).map (fun j=>l.getD j jE)=(l.take n).filter (qF gs)
 |0,_=>by simp [ixP]
 |n+1,h=>by
  have hlt:n<l.length:=by omega
  rw [Bc gs l hlt,List.map_append,Bd gs l n (by omega),List.take_succ_eq_append_getElem hlt,List.filter_append,List.filter_cons]
  congr 1
  split<;>simp [List.getD,List.getElem?_eq_getElem hlt]
theorem Mp {gs:List bk} {l:List bG} {n j:Nat} (h:j∈ixP gs l n):j<n:=List.mem_range.1 (List.mem_filter.1 h).1
theorem D8 (gs:List bk) (l:List bG) (n:Nat):(ixP gs l n).length≤n:=by
 unfold ixP;exact Nat.le_trans (List.length_filter_le _ _) (by simp)
theorem HF (gs:List bk) (l:List bG):(ixP gs l l.length).map (fun j=>jk gs (l.getD j jE))=jj gs l:=by
 rw [BE,←List.take_length (l:=l),←Bd gs l l.length (Nat.le_refl _),List.map_map,List.take_length];rfl
theorem mE (m:bN):dD m= .agg [.v (.int .i64 m.attr.cat), .s m.attr.name, .v (.bool m.attr.must), .v (.int .i64 m.op), .v (.int .i64 m.val.kind), .v (.int .i64 m.val.n), .s m.val.s]:=rfl
end Go.Bf
namespace Go.Proofs.YtnlbeamjpefpfaaGreatDoor
open Go Go.Ab Go.Bf
set_option maxRecDepth 100000 in
theorem Mq (t:fP) (ht:Jn t) (h:Heap):ak Tryz.prog 135 [aT t] h fun r h' =>r=J0 (mD t)∧h' =h:=by
 have htl:=ht.1;refine ak.body hU hm Tryz.func135 rfl (by kernel_rfl) 38 rfl [.cell 2 216, .tmp 3] rfl (VZ rfl) (fun hwf=> ?_)
 simp only [go_sem,aT];intro i2 h2;simp only [go_sem,V0];have hH0:∀x,Ab.Sub h (upd h i2 x):=fun x=> .ai h2
 refine .intro (fun m ρ H=>Ab.Sub h H∧H i2=some (.obj [.v (.int .i64 0), .s [], .v (.bool false), .v (.int .i64 0), .v (.int .i64 0), .v (.int .i64 0), .s []] 216)∧∃i:Nat,i≤t.length∧m=t.length - i∧mD (t.drop i)=mD t∧lk ρ 2=some (.ptr i2 0)∧lk ρ 8=some (.sl (t.map cH) .no)∧lk ρ 9=some (.v (.int .i64 t.length))∧lk ρ 10=some (.v (.int .i64 i))) t.length ?_ ?_
 ·refine ⟨hH0 _,ah ..,0,by omega,rfl,rfl, ?_, ?_, ?_, ?_⟩<;>simp only [go_sem]
 ·rintro m ρ H ⟨hs,k2,i,hi,rfl,hk,r2,r8,r9,r10⟩
  simp only [go_sem,r9,r10];refine .intro (fun e=> ?_) (fun e=> ?_)
  ·have hlt:i<t.length:=V7 e
   have w1:=V6 i (by omega)
   rw [List.drop_eq_getElem_cons hlt] at hk;have hxl:=(ht.2 _ (V5 hlt)).2;have ix:=fun k=>fj.eq (xs:=t.map cH) (sz:=1) i (by simpa using hlt) (by rw [V1]; rfl) k
   rw [V1] at ix;obtain ⟨x,ex⟩:∃x,t[i]=x:=⟨_,rfl⟩;rw [ex] at ix hk hxl;simp only [cH] at ix;cases d1:((x.length:Int) !=1)
   case true=>
    have hx1:x.length≠1:=by intro e1; rw [e1] at d1; simp at d1
    rw [HJ hx1] at hk;simp only [go_sem,r8,r10,ix,V0,d1,w1];refine ⟨_, ?_,hs,k2,i+1,by omega,rfl,hk, ?_, ?_, ?_, ?_⟩
    ·omega
    all_goals simp only [go_sem,r2,r8,r9]
   have hx1:x.length=1:=by have:(x.length:Int)=1:=(by simpa using d1); omega
   obtain ⟨l,rfl⟩:=List.length_eq_one_iff.1 hx1;have hll:=hxl l (List.mem_singleton.2 rfl);have iy:=fun k=>fj.eq (xs:= [gR l]) (sz:=1) 0 (by simp) rfl k
   simp only [List.getElem_cons_zero,gR,Int.natCast_zero] at iy;simp only [go_sem,r8,r10,ix,V0,List.length_cons,List.length_nil,List.map_cons,List.map_nil,gR,iy];refine .intro (fun m ρ2 H2=>Ab.Sub h H2∧H2 i2=some (.obj [.v (.int .i64 0), .s [], .v (.bool false), .v (.int .i64 0), .v (.int .i64 0), .v (.int .i64 0), .s []] 216)∧∃j:Nat,j≤l.length∧m=l.length - j∧(∀k (h1:k<l.length),k<j→(l[k].op==1 && !l[k].attr.must)=false)∧lk ρ2 2=some (.ptr i2 0)∧lk ρ2 8=some (.sl (t.map cH) .no)∧lk ρ2 9=some (.v (.int .i64 t.length))∧lk ρ2 10=some (.v (.int .i64 i))∧lk ρ2 19=some (.sl (l.map dD) .no)∧lk ρ2 20=some (.v (.int .i64 l.length))∧lk ρ2 21=some (.v (.int .i64 j))) l.length ?_ ?_
   ·refine ⟨hs,k2,0,by omega,rfl,fun k _ hk=>(by omega), ?_, ?_, ?_, ?_, ?_, ?_, ?_⟩<;>simp only [go_sem,r2,r8,r9,r10]
   ·rintro m ρ2 H2 ⟨hs2,k2,j,hj,rfl,hc,s2,s8,s9,s10,s19,s20,s21⟩
    simp only [go_sem,s20,s21];refine .intro (fun e=> ?_) (fun e=> ?_)
    ·have hlt2:j<l.length:=V7 e
     have w2:=V6 j (by omega)
     have iz:=fun k=>fj.eq (xs:=l.map dD) (sz:=7) j (by simpa using hlt2) (by rw [V1]; rfl) k
     rw [V1] at iz;have hci:=fun (d:(l[j].op==1 && !l[j].attr.must)=false)=>(fun k (h1:k<l.length) (hk:k<j+1)=>(by
      by_cases hji:k=j
      ·subst hji; exact d
      ·exact hc k h1 (by omega):(l[k].op==1 && !l[k].attr.must)=false))
     have hat:=fun (d:(l[j].op==1 && !l[j].attr.must)=true)=>(List.find?_eq_some_iff_getElem.2 ⟨d,j,hlt2,rfl,fun k hk=>by rw [hc k (by omega) hk]; rfl⟩:(l.find? fun m=>m.op==1 && !m.attr.must)=some l[j])
     obtain ⟨z,ez⟩:∃z,l[j]=z:=⟨_,rfl⟩;rw [ez] at iz hci hat;simp only [mE] at iz;simp only [go_sem,s19,s21,iz];intro i7 h7;have n72:i7≠i2:=fun e=>by rw [e,k2] at h7; cases h7
     cases a1:(z.op==1)
     ·simp only [go_sem,s21,a1,w2]
      refine ⟨_, ?_,hs2.trans (.ai h7),by rw [ag _ _ n72.symm]; exact k2,j+1,by omega,rfl,hci (by rw [a1]; rfl), ?_, ?_, ?_, ?_, ?_, ?_, ?_⟩
      ·omega
      all_goals simp only [go_sem,s2,s8,s9,s10,s19,s20]
     ·cases a2:z.attr.must
      ·have hkk:=hk.symm.trans (HK (hat (by rw [a1,a2]; rfl)))
       simp only [go_sem,s2,a1,aj,n72.symm,k2];exact .mk _ (.refl _) ((hs2.trans (.ai h7)).put h2 _) ⟨by rw [hkk]; simp only [J0,mE,a2]; rfl,rfl⟩
      ·simp only [go_sem,s21,a1,w2]
       refine ⟨_, ?_,hs2.trans (.ai h7),by rw [ag _ _ n72.symm]; exact k2,j+1,by omega,rfl,hci (by rw [a1,a2]; rfl), ?_, ?_, ?_, ?_, ?_, ?_, ?_⟩
       ·omega
       all_goals simp only [go_sem,s2,s8,s9,s10,s19,s20]
    ·have hge:j=l.length:=by have:=V3 e; omega
     subst hge;rw [HI (List.find?_eq_none.2 fun z hz=>by
      obtain ⟨k,hk,rfl⟩:=List.mem_iff_getElem.1 hz;rw [hc k hk hk]; decide)] at hk
     simp only [go_sem,s10,w1];refine ⟨_, ?_,hs2,k2,i+1,by omega,rfl,hk, ?_, ?_, ?_, ?_⟩
     ·omega
     all_goals simp only [go_sem,s2,s8,s9]
  ·have hge:i=t.length:=by have:=V3 e; omega
   subst hge;rw [List.drop_length] at hk;simp only [go_sem,r2,k2];exact .mk _ (.refl _) (hs.put h2 _) ⟨by rw [←hk]; rfl,rfl⟩
theorem FF {gs:List bk} {p:bG} (h:mD (qI p)=none):qF gs p=true:=by unfold qF; rw [h]
theorem FG {gs:List bk} {p:bG} {m:bN} (h:mD (qI p)=some m):qF gs p=decide (iJ gs m≠0):=by unfold qF; rw [h]
def rG (n:Nat):AV:= .v (.int .i64 n)
set_option maxRecDepth 100000 in
theorem Ir (l:List bG) (hl:l.length≤1000) (ht:∀p∈l,Jn (qI p)) (gs:List bk) (hf:pT gs) (h:Heap):ak Tryz.prog 103 [.sl (l.map aK) .no,bB gs] h fun r h' =>r= .sl ((ixP gs l l.length).map rG) .no∧h' =h:=by
 have hmt:=fun (m:bN) (G:Heap)=>yB m gs hf G
 simp only [mE,bB] at hmt;have uI:(U 3).sz=1:=by simp only [go_sem]
 refine ak.body hU hm Tryz.func103 rfl (by kernel_rfl) 37 rfl [.tmp 4] rfl (VZ rfl) (fun hwf=> ?_)
 simp only [go_sem,bB,V0];refine .intro (fun m ρ H=>∃(i:Nat) (y:AV),Acc U 3 h H y ((ixP gs l i).map rG)∧i≤l.length∧m=l.length - i∧lk ρ 1=some (.sl (gs.map jD) .no)∧lk ρ 5=some y∧lk ρ 10=some (.sl (l.map aK) .no)∧lk ρ 11=some (.v (.int .i64 l.length))∧lk ρ 12=some (.v (.int .i64 i))) l.length ?_ ?_
 ·refine ⟨0, .sl [] .full, .full (.refl _),by omega,rfl, ?_, ?_, ?_, ?_, ?_⟩<;>simp only [go_sem]
 ·rintro m ρ H ⟨i,y,hy,hi,rfl,r1,r5,r10,r11,r12⟩
  obtain ⟨qy,eqy⟩:=hy.row;subst eqy;simp only [go_sem,r11,r12];refine .intro (fun e=> ?_) (fun e=> ?_)
  ·have hlt:i<l.length:=V7 e
   have w1:=V6 i (by omega)
   have hsn:=Bc gs l hlt;have hpl:=D8 gs l i;have ix:=fun k=>fj.eq (xs:=l.map aK) (sz:=7) i (by simpa using hlt) (by rw [V1,iM]) k
   rw [V1] at ix;have hft:=ht _ (V5 hlt);obtain ⟨x,ex⟩:∃x,l[i]=x:=⟨_,rfl⟩;rw [ex] at ix hsn hft;have hky:=fun G=>Mq (qI x) hft G
   have mn:=fun h=>FF (gs:=gs) (p:=x) h
   have ms:=fun m h=>FG (gs:=gs) (p:=x) (m:=m) h
   obtain ⟨kid,kset,kalg,ktgt,krules,kkids,kobls⟩:=x;simp only [qI] at hky hft mn ms;simp only [aK,aT,au,aV] at ix;simp only [aT] at hky;simp only [go_sem,r10,r12,ix];intro i7 h7;simp only [go_sem];refine (hky _).pthen ?_;have hkeep:qF gs (.mk kid kset kalg ktgt krules kkids kobls)=true→ixP gs l (i+1)=ixP gs l i++ [i]:=fun e=>by rw [hsn,if_pos e]
   have hdrop:qF gs (.mk kid kset kalg ktgt krules kkids kobls)=false→ixP gs l (i+1)=ixP gs l i:=fun e=>by rw [hsn,if_neg (by rw [e]; decide),List.append_nil]
   cases hk:mD ktgt with
   |none=>
    simp only [go_sem,J0,mE];intro i8 h8;simp only [go_sem,r5];refine ((hy.sub (.ai h7)).sub (.ai h8)).app (zs:= [rG i]) (by rw [uI]; decide) (by simp only [go_sem,ne_eq,not_false_eq_true]) (fun k hk=>hk) (by rw [uI]; exact bl (f:=rG) (fun _=>rfl) _) (by rw [uI]; intro z hz; rw [List.mem_singleton.1 hz]; rfl) (by simp only [go_sem,V0,List.length_cons,List.length_nil]; omega) fun y' H' hy' kp=> ?_
    simp only [go_sem,r12,w1];refine ⟨_, ?_,i+1,y',by rw [hkeep (mn hk),List.map_append]; exact hy',by omega,rfl, ?_, ?_, ?_, ?_, ?_⟩
    ·omega
    all_goals simp only [go_sem,r1,r10,r11]
   |some m=>
    have hm2:=ms m hk;simp only [go_sem,J0,mE];intro i8 h8;simp only [go_sem,r1];refine (hmt m _).pthen ?_;cases dm:((iJ gs m:Int) !=0)
    ·have e0:iJ gs m=0:=by have:(iJ gs m:Int)=0:=(by simpa using dm); omega
     simp only [go_sem,r12,dm,w1];refine ⟨_, ?_,i+1,_,by rw [hdrop (by rw [hm2,e0]; rfl)]; exact (hy.sub (.ai h7)).sub (.ai h8),by omega,rfl, ?_, ?_, ?_, ?_, ?_⟩
     ·omega
     all_goals simp only [go_sem,r1,r5,r10,r11]
    ·have e0:iJ gs m≠0:=by intro e0; rw [e0] at dm; simp at dm
     simp only [go_sem,r5,dm];refine ((hy.sub (.ai h7)).sub (.ai h8)).app (zs:= [rG i]) (by rw [uI]; decide) (by simp only [go_sem,ne_eq,not_false_eq_true]) (fun k hk=>hk) (by rw [uI]; exact bl (f:=rG) (fun _=>rfl) _) (by rw [uI]; intro z hz; rw [List.mem_singleton.1 hz]; rfl) (by simp only [go_sem,V0,List.length_cons,List.length_nil]; omega) fun y' H' hy' kp=> ?_
     simp only [go_sem,r12,w1];refine ⟨_, ?_,i+1,y',by rw [hkeep (by rw [hm2]; exact decide_eq_true e0),List.map_append]; exact hy',by omega,rfl, ?_, ?_, ?_, ?_, ?_⟩
     ·omega
     all_goals simp only [go_sem,r1,r10,r11]
  ·have hge:i=l.length:=by have:=V3 e; omega
   subst hge;simp only [go_sem,r5];exact .mk _ (.sl _ _) hy.1 ⟨rfl,rfl⟩
theorem Py {id:Txt} {set:Bool} {alg:Int} {tgt:fP} {rules:List cO} {kids:List bG} {obls:List cw} {L:List AV} (hL:L=kids.map aK) (q:Perm):Weak (.agg [.s id, .v (.bool set), .v (.int .i64 alg), .sl (tgt.map cH) .no, .sl (rules.map aB) .no, .sl L q, .sl (obls.map bf) .no]) (aK (.mk id set alg tgt rules kids obls)):=by
 subst hL;rw [aK,aV];refine .agg _ _ rfl fun i a b=> ?_
 rcases i with _|_|_|_|_|_|_|i
 ·exact .refl _
 ·exact .refl _
 ·exact .refl _
 ·exact .refl _
 ·exact .refl _
 ·exact .sl _ _
 ·exact .refl _
 ·simp at a; omega
set_option maxRecDepth 100000 in
theorem yG:∀(n d:Nat),d+n=5→∀(p:bG),lD d p→∀(gs:List bk),pT gs→∀(h:Heap),ak Tryz.prog 63 [aK p,bB gs] h fun r h' =>r=aK (jk gs p)∧h' =h
 |0,d,hd, .mk id set alg tgt rules kids obls,hE,gs,hf,h=>by
  simp only [lD] at hE;omega
 |n+1,d,hd, .mk id set alg tgt rules kids obls,hE,gs,hf,h=>by
  have ih:=yG n (d+1) (by omega)
  simp only [lD,oJ] at hE;obtain ⟨_,_,_,_,_,_,hT,hO,hR,hK,hRE,hKE⟩:=hE;have hpk:=fun G=>Ir kids (by omega) (fun p hp=>by
   have h1:=hKE p hp;obtain ⟨kid,kset,kalg,ktgt,krules,kkids,kobls⟩:=p;simp only [lD] at h1;exact z6 h1.2.2.2.2.2.2.1) gs hf G
  have hpe:jk gs (.mk id set alg tgt rules kids obls)= .mk id set alg tgt rules (jj gs kids) obls:=by simp only [jk]
  have hfull:=HF gs kids;have hIlt:∀j∈ixP gs kids kids.length,j<kids.length:=fun j hj=>Mp hj
  have hIl:(ixP gs kids kids.length).length≤16:=Nat.le_trans (D8 _ _ _) hK;obtain ⟨I,eI⟩:∃I,ixP gs kids kids.length=I:=⟨_,rfl⟩;rw [eI] at hpk hfull hIlt hIl;simp only [bB] at hpk;have uP:(U 37).sz=7:=by simp only [go_sem]
  refine ak.body hU hm Tryz.func63 rfl (by kernel_rfl) 31 rfl [.cell 4 37] rfl (VZ rfl) (fun hwf=> ?_)
  simp only [go_sem,aK,bB,aV,aT,au];intro i2 h2;simp only [go_sem];intro i4 h4;have n42:=aH h4;have n4' :=aD h4;obtain ⟨H0,eH⟩:∃H0,upd (upd h i2 (some (.obj [.s id, .v (.bool set), .v (.int .i64 alg), .sl (tgt.map cH) .no, .sl (rules.map aB) .no, .sl (kids.map aK) .no, .sl (obls.map bf) .no] 37))) i4 (some (.obj [.s [], .v (.bool false), .v (.int .i64 0), .sl [] .full, .sl [] .full, .sl [] .full, .sl [] .full] 37))=H0:=⟨_,rfl⟩;have hH0:Ab.Sub h H0:=by rw [←eH]; exact ((Sub.refl h).put h2 _).put n4' _
  have g2:H0 i2=some (.obj [.s id, .v (.bool set), .v (.int .i64 alg), .sl (tgt.map cH) .no, .sl (rules.map aB) .no, .sl (kids.map aK) .no, .sl (obls.map bf) .no] 37):=by rw [←eH,ag _ _ n42.symm,ah]
  have g4:H0 i4=some (.obj [.s [], .v (.bool false), .v (.int .i64 0), .sl [] .full, .sl [] .full, .sl [] .full, .sl [] .full] 37):=by rw [←eH,ah]
  simp only [go_sem,aj,n42.symm];rw [eH];clear eH;refine (hpk _).pthen ?_;simp only [go_sem,V0];refine .intro (fun m ρ H=>∃(i:Nat) (y:AV),Acc U 37 H0 H y (((I.map fun j=>jk gs (kids.getD j jE)).take i).map aK)∧i≤I.length∧m=I.length - i∧lk ρ 1=some (.sl (gs.map jD) .no)∧lk ρ 2=some (.ptr i2 0)∧lk ρ 4=some (.ptr i4 0)∧lk ρ 5=some y∧lk ρ 11=some (.sl (I.map rG) .no)∧lk ρ 12=some (.v (.int .i64 I.length))∧lk ρ 13=some (.v (.int .i64 i))) I.length ?_ ?_
  ·refine ⟨0, .sl [] .full, .full (.refl _),by omega,rfl, ?_, ?_, ?_, ?_, ?_, ?_, ?_⟩<;>simp only [go_sem]
  ·rintro m ρ H ⟨i,y,hy,hi,rfl,r1,r2,r4,r5,r11,r12,r13⟩
   obtain ⟨qy,eqy⟩:=hy.row;subst eqy;have k2:=hy.1 _ _ g2;simp only [go_sem,r12,r13];refine .intro (fun e=> ?_) (fun e=> ?_)
   ·have hlt:i<I.length:=V7 e
    have w1:=V6 i (by omega)
    have hjlt:=hIlt _ (V5 hlt);have hsn:((I.map fun j=>jk gs (kids.getD j jE)).take (i+1)).map aK=((I.map fun j=>jk gs (kids.getD j jE)).take i).map aK++ [aK (jk gs (kids.getD I[i] jE))]:=by
     rw [List.take_succ_eq_append_getElem (by simpa using hlt),List.map_append,V1]; rfl
    have ix:=fun k=>fj.eq (xs:=I.map rG) (sz:=1) i (by simpa using hlt) (by rw [V1]; rfl) k
    rw [V1] at ix;obtain ⟨j,ej⟩:∃j,I[i]=j:=⟨_,rfl⟩;rw [ej] at ix hsn hjlt;have iy:=fun k=>fj.eq (xs:=kids.map aK) (sz:=7) j (by simpa using hjlt) (by rw [V1,iM]) k
    rw [V1] at iy;rw [show kids.getD j jE=kids[j] by simp [List.getD,List.getElem?_eq_getElem hjlt]] at hsn
    have hke:=hKE _ (V5 hjlt);obtain ⟨x,ex⟩:∃x,kids[j]=x:=⟨_,rfl⟩;rw [ex] at iy hsn hke;have hr1:=ih x hke gs hf;obtain ⟨z,ez⟩:∃z,jk gs x=z:=⟨_,rfl⟩;rw [ez] at hr1 hsn;obtain ⟨kid,kset,kalg,ktgt,krules,kkids,kobls⟩:=x;obtain ⟨zid,zset,zalg,ztgt,zrules,zkids,zobls⟩:=z;simp only [aK,aT,au,aV,bB] at iy hr1;simp only [rG] at ix;simp only [go_sem,r1,r2,r5,r11,r13,ix,k2,iy];refine (hr1 _).pthen ?_;simp only [go_sem];refine hy.app (zs:= [aK (.mk zid zset zalg ztgt zrules zkids zobls)]) (by rw [uP]; decide) (by simp only [go_sem,ne_eq,not_false_eq_true]) (fun k hk=>show k _ from (by simpa only [aK,aT,au,aV] using hk)) (by rw [uP]; exact bl (f:=aK) iM _) (by rw [uP]; intro z hz; rw [List.mem_singleton.1 hz,iM]) (by simp only [go_sem,V0,List.length_take,List.length_cons,List.length_nil]; omega) fun y' H' hy' kp=> ?_
    simp only [go_sem,r13,w1];refine ⟨_, ?_,i+1,y',by rw [hsn]; exact hy',by omega,rfl, ?_, ?_, ?_, ?_, ?_, ?_, ?_⟩
    ·omega
    all_goals simp only [go_sem,r1,r2,r4,r11,r12]
   ·have hge:i=I.length:=by have:=V3 e; omega
    subst hge;have htl:(I.map fun j=>jk gs (kids.getD j jE)).take I.length=jj gs kids:=by rw [List.take_of_length_le (by simp)]; exact hfull
    rw [htl] at r5 hy;have k4:=hy.1 _ _ g4;have n24:i2≠i4:=n42.symm;simp only [go_sem,r2,r4,r5,k2,aj,n42,k4];refine .mk (aK (.mk id set alg tgt rules (jj gs kids) obls)) (Py rfl _) (((hH0.trans hy.1).put h2 _).put n4' _) ⟨by rw [hpe],rfl⟩
theorem Bb (p:bG) (hp:fW p=0) (gs:List bk) (hf:pT gs) (h:Heap):ak Tryz.prog 33 [aK p,bB gs] h fun r h' =>r= .tup [rsA (dU gs p), .v (.int .i64 0)]∧h' =h:=by
 have hpk:=fun G=>yG 4 1 rfl p (o6 hp) gs hf G
 have hev:=fun G=>tM (jk gs p) (Di gs hp) gs hf G
 have hr:=fun G=>rV p G
 rw [hp] at hr;rw [yE] at hev;obtain ⟨w,ew⟩:∃w,jk gs p=w:=⟨_,rfl⟩;rw [ew] at hpk hev;obtain ⟨z,ez⟩:∃z,dU gs p=z:=⟨_,rfl⟩;rw [ez] at hev⊢;obtain ⟨id,set,alg,tgt,rules,kids,obls⟩:=p;obtain ⟨wid,wset,walg,wtgt,wrules,wkids,wobls⟩:=w;simp only [aK,aT,au,bB] at hpk hr hev;refine ak.body hU hm Tryz.func33 rfl (by kernel_rfl) 17 rfl [.cell 4 57, .tmp 5] rfl (VZ rfl) (fun hwf=> ?_)
 simp only [go_sem,aK,bB,aT,au];intro i2 h2;simp only [go_sem];intro i4 h4;have n42:=aH h4;have n4:=aD h4;have hs:∀x y,Ab.Sub h (upd (upd h i2 x) i4 y):=fun x y=>((Sub.refl h).put h2 x).put n4 y
 simp only [go_sem,aj,n42.symm];refine (hr _).pthen ?_;simp only [go_sem,aj,n42.symm];refine (hpk _).pthen ?_;simp only [go_sem];refine (hev _).pthen ?_;simp only [go_sem,rsA,aP,au];exact .mk _ (.refl _) (hs _ _) ⟨rfl,rfl⟩
def OwR (h0 h:Heap) (y:AV) (rs:List fQ):Prop:=y=dF rs∨OwE 54 h0 h 2 y (rs.map cD)
theorem OwR.rd {h0 h:Heap} {y:AV} {rs:List fQ} (hr:OwR h0 h y rs):Rd h 2 y (rs.map cD):=by
 rcases hr with rfl|hr
 ·exact eC cD 2 (fun _=>rfl) h rs
 ·exact hr.rd
theorem OwR.nid {h0 h:Heap} {y:AV} {rs:List fQ} (hr:OwR h0 h y rs) {k:Nat} (e:Ab.nid y=some k):h0 k=none∧h k≠none:=by
 rcases hr with rfl|hr
 ·cases e
 ·exact ⟨(hr.nid e).1,(hr.nid e).2.1⟩
theorem OwR.keep {h0 h h' :Heap} {y:AV} {rs:List fQ} (hr:OwR h0 h y rs) (hk:∀id,Ab.nid y=some id→h' id=h id):OwR h0 h' y rs:=by
 rcases hr with hr|hr
 ·exact .inl hr
 ·exact .inr (hr.keep hk)
theorem OwR.bH {g h0 h:Heap} {y:AV} {rs:List fQ} (hr:OwR h0 h y rs) (hg:∀i,h0 i=none→g i=none):OwR g h y rs:=by
 rcases hr with hr|hr
 ·exact .inl hr
 ·exact .inr (hr.bH hg)
theorem OwR.frz {g h:Heap} {y:AV} {rs:List fQ} (hr:OwR g h y rs):Frz g h y (dF rs):=by
 rcases hr with rfl|hr
 ·exact .pure (by simp only [dF,cC]; exact bn (fun _=>rfl) _)
 ·exact hr.frz (bn (fun _=>rfl) _)
structure gQ (h0 h:Heap) (y1 y2 y3 y4:AV) (s:an) (j:Nat):Prop where
 cs:kE h0 h [y1,y2,y3,y4] y1 s.cases j
 rv:OwE 71 h0 h 7 y2 (s.reviews.map fL)
 nt:OwE 84 h0 h 3 y3 (s.notices.map ku)
 rl:OwR h0 h y4 s.roles
 a12:apart y1 y2
 a13:apart y1 y3
 a14:apart y1 y4
 a23:apart y2 y3
 a24:apart y2 y4
 a34:apart y3 y4
def stC (s:an) (y1 y2 y3 y4:AV):List AV:= [.v (.int .i64 s.tick),y1,y2,y3,y4]++fB s.policy++ [.v (.int .i64 s.version)]
theorem qP.parts {h0 h:Heap} {x:AV} {s:an} {j:Nat} (ho:qP h0 h x s j):∃y1 y2 y3 y4,x= .agg (stC s y1 y2 y3 y4)∧gQ h0 h y1 y2 y3 y4 s j:=by
 obtain ⟨y1,y2,y3,y4,e,a,b,c,d,r1,r2,r3,r4,r5,r6⟩:=ho;exact ⟨y1,y2,y3,y4,e,a,b,c, .inr d,r1,r2,r3,r4,r5,r6⟩
theorem gQ.rd {h0 h:Heap} {y1 y2 y3 y4:AV} {s:an} {j:Nat} (ho:gQ h0 h y1 y2 y3 y4 s j):RdS h (.agg (stC s y1 y2 y3 y4)) s:=
 ⟨y1,y2,y3,y4,rfl,ho.cs.rd,ho.rv.rd,ho.nt.rd,ho.rl.rd⟩
theorem gQ.frz {g h:Heap} {y1 y2 y3 y4:AV} {s:an} {j:Nat} (ho:gQ g h y1 y2 y3 y4 s j):Frz g h (.agg (stC s y1 y2 y3 y4)) (cU s):=
 sD (ho.cs.frz (.refl _)) (ho.rv.frz (bn (fun _=>rfl) _)) (ho.nt.frz (bn (fun _=>rfl) _)) ho.rl.frz
theorem gQ.bH {g h0 h:Heap} {y1 y2 y3 y4:AV} {s:an} {j:Nat} (ho:gQ h0 h y1 y2 y3 y4 s j) (hg:∀i,h0 i=none→g i=none):gQ g h y1 y2 y3 y4 s j:=
 {ho with cs:=ho.cs.bH hg,rv:=ho.rv.bH hg,nt:=ho.nt.bH hg,rl:=ho.rl.bH hg}
theorem gQ.keep {h0 h h' :Heap} {y1 y2 y3 y4:AV} {s:an} {j:Nat} (ho:gQ h0 h y1 y2 y3 y4 s j) (hk:∀id,h0 id=none→h id≠none→h' id=h id):gQ h0 h' y1 y2 y3 y4 s j:=
 {ho with cs:=ho.cs.keepb hk,rv:=ho.rv.keepb hk,nt:=ho.nt.keepb hk,rl:=ho.rl.keep fun id e=>hk id (ho.rl.nid e).1 (ho.rl.nid e).2}
theorem gQ.mem {h0 h:Heap} {y1 y2 y3 y4:AV} {s:an} {j:Nat} (ho:gQ h0 h y1 y2 y3 y4 s j) {w:AV} (hw:w∈ [y1,y2,y3,y4]) {k:Nat} (e:Ab.nid w=some k):h0 k=none∧h k≠none:=by
 obtain ⟨xs,a,_⟩:=ho.cs;simp only [List.mem_cons,List.not_mem_nil,or_false] at hw;rcases hw with rfl|rfl|rfl|rfl
 ·exact ⟨(a.nid e).1,(a.nid e).2.1⟩
 ·exact ⟨(ho.rv.nid e).1,(ho.rv.nid e).2.1⟩
 ·exact ⟨(ho.nt.nid e).1,(ho.nt.nid e).2.1⟩
 ·exact ho.rl.nid e
theorem gQ.revs {h0 h h' :Heap} {y1 y2 y3 y4 z:AV} {s:an} {j:Nat} {rs:List mN} (ho:gQ h0 h y1 y2 y3 y4 s j) (hz:OwE 71 h0 h' 7 z (rs.map fL)) (hn:∀k,Ab.nid z=some k→h k=none∨Ab.nid y2=some k)
  (hk:∀id,h0 id=none→h id≠none→Ab.nid y2≠some id→h' id=h id):gQ h0 h' y1 z y3 y4 {s with reviews:=rs} j:=by
 obtain ⟨hcs,hrv,hnt,hrl,a12,a13,a14,a23,a24,a34⟩:=id ho;have ap:∀ {w:AV},w∈ [y1,y2,y3,y4]→apart w y2→apart w z:=fun hw ha k e1 e2=>(hn k e2).elim (fun h=>(ho.mem hw e1).2 h) (fun h=>ha k e1 h)
 refine ⟨hcs.move (z:=y2) (by simp) a12 hk fun w hw k e=> ?_,hz,hnt.keep fun id e=>hk id (hnt.nid e).1 (hnt.nid e).2.1 fun e1=>a23 id e1 e,hrl.keep fun id e=>hk id (hrl.nid e).1 (hrl.nid e).2 fun e1=>a24 id e1 e,ap (by simp) a12,a13,a14,(ap (by simp) a23.symm).symm,(ap (by simp) a24.symm).symm,a34⟩
 simp only [List.mem_cons,List.not_mem_nil,or_false] at hw;rcases hw with rfl|rfl|rfl|rfl
 ·exact .inr ⟨w,by simp,e⟩
 ·exact (hn k e).imp id fun h=>⟨y2,by simp,h⟩
 ·exact .inr ⟨w,by simp,e⟩
 ·exact .inr ⟨w,by simp,e⟩
theorem gQ.nots {h0 h h' :Heap} {y1 y2 y3 y4 z:AV} {s:an} {j:Nat} {rs:List ED} (ho:gQ h0 h y1 y2 y3 y4 s j) (hz:OwE 84 h0 h' 3 z (rs.map ku)) (hn:∀k,Ab.nid z=some k→h k=none∨Ab.nid y3=some k)
  (hk:∀id,h0 id=none→h id≠none→Ab.nid y3≠some id→h' id=h id):gQ h0 h' y1 y2 z y4 {s with notices:=rs} j:=by
 obtain ⟨hcs,hrv,hnt,hrl,a12,a13,a14,a23,a24,a34⟩:=id ho;have ap:∀ {w:AV},w∈ [y1,y2,y3,y4]→apart w y3→apart w z:=fun hw ha k e1 e2=>(hn k e2).elim (fun h=>(ho.mem hw e1).2 h) (fun h=>ha k e1 h)
 refine ⟨hcs.move (z:=y3) (by simp) a13 hk fun w hw k e=> ?_,hrv.keep fun id e=>hk id (hrv.nid e).1 (hrv.nid e).2.1 fun e1=>a23 id e e1,hz,hrl.keep fun id e=>hk id (hrl.nid e).1 (hrl.nid e).2 fun e1=>a34 id e1 e,a12,ap (by simp) a13,a14,ap (by simp) a23,a24,(ap (by simp) a34.symm).symm⟩
 simp only [List.mem_cons,List.not_mem_nil,or_false] at hw;rcases hw with rfl|rfl|rfl|rfl
 ·exact .inr ⟨w,by simp,e⟩
 ·exact .inr ⟨w,by simp,e⟩
 ·exact (hn k e).imp id fun h=>⟨y3,by simp,h⟩
 ·exact .inr ⟨w,by simp,e⟩
end Go.Proofs.YtnlbeamjpefpfaaGreatDoor
namespace Go.Bf
open Go Go.Ab Go.Proofs.YtnlbeamjpefpfaaGreatDoor
def gz (s:an):Prop:=∀r∈s.reviews,0≤r.tick∧r.tick≤1099511627776
theorem yV {s:an} (o:OpD) (w:Txt) (h:gz s) (ht:0≤s.tick∧s.tick≤1099511627776):gz (dz s o w):=fun r hr=>by
 simp only [dz,List.mem_append,List.mem_singleton] at hr;rcases hr with hr|rfl
 ·exact h r hr
 ·exact ht
theorem Gd {s:an} (o:OpD) (w:Txt) (h:gz s):gz (gY s o w):=fun r hr=>h r (by rw [(v7 s o w).2.2.2.2.1] at hr; exact hr)
theorem Gc {s:an} (o:OpD) (done:Bool) (x:cw) (h:gz s) (ht:0≤s.tick∧s.tick≤1099511627776):gz (eN o done s x):=by
 unfold eN;split
 ·exact Gd o _ h
 ·split
  ·exact yV o _ h ht
  ·split<;>exact h
theorem uo (o:OpD) (done:Bool):∀(l:List cw) {s:an},gz s→(0≤s.tick∧s.tick≤1099511627776)→gz (cM s o l done)
 | [],s,h,_=>h
 |x::l,s,h,ht=>uo o done l (Gc o done x h ht) (by rw [(AM o done s x).1]; exact ht)
theorem IY {s:an} (par:Txt→bG×Int×Int) (o:OpD) (h:gz s):gz (dK par s o):=fun r hr=>by
 rw [sy] at hr;split at hr
 ·rcases mem_modify hr with hr|⟨hi,rfl⟩
  ·exact h r hr
  ·have h2:=h _ (V5 hi)
   exact h2
 ·exact h r hr
theorem DB {k:Nat} {s:an} (o:OpD) (h:jL k s) (ht:gz s):gz (bt s o).1:=by
 unfold bt;split
 ·exact ht
 ·split
  ·exact ht
  ·show gz (bP s o)
   have h1:cW k (if cJ s o then dz s o o.reason else s):=by
    split
    ·exact zT o _ h.tocW (by have:=h.nr; omega)
    ·exact h.tocW
   have t1:gz (if cJ s o then dz s o o.reason else s):=by
    split
    ·exact yV o _ ht h.tick
    ·exact ht
   unfold bP;refine uo o _ _ ?_ ?_
   ·split
    ·exact IY _ o t1
    ·exact t1
   ·split
    ·exact (ny o h1).tick
    ·exact h1.tick
structure mc (k:Nat) (s:an):Prop extends jL k s where
 ticks:gz s
theorem qw:mc 0 rE:= {Fi with ticks:=fun r h=>(by cases h)}
theorem lT {k:Nat} {s:an} (o:OpD) (h:mc k s):mc (k+1) (bt s o).1:= {CQ o h.tojL with ticks:=DB o h.tojL h.ticks}
theorem JV {cs:List aJ} {id:Txt} (h:gF cs id<cs.length):cs[gF cs id].id=id:=by
 have:=List.findIdx_getElem (p:=fun c:aJ=>c.id==id) (w:=h)
 exact eq_of_beq this
theorem CX {cs:List aJ} (ha:Asc cs) {id:Txt} (h:gF cs id<cs.length):findD cs id=gF cs id:=by
 have hid:=JV h;have hin:bM cs id=true:=by rw [tc ha id]; exact List.any_eq_true.2 ⟨_,V5 h,by simp [hid]⟩
 have hir:Op.bytesLess id id=false:=by simpa [lt] using lt_irrefl id
 have h1:∃hl:findD cs id<cs.length,cs[findD cs id].id=id:=by
  unfold bM at hin;cases hf:cs[findD cs id]? with
  |none=>rw [hf] at hin; cases hin
  |some c=>
   rw [hf] at hin;obtain ⟨hl,e⟩:=List.getElem?_eq_some_iff.1 hf;exact ⟨hl,by rw [e]; simpa using hin⟩
 obtain ⟨hl,e⟩:=h1;rcases Nat.lt_trichotomy (findD cs id) (gF cs id) with hlt|heq|hgt
 ·exact absurd (List.not_of_lt_findIdx (p:=fun c:aJ=>c.id==id) hlt) (by simp [e])
 ·exact heq
 ·have:=List.not_of_lt_findIdx (p:=fun c:aJ=>geB c.id id) hgt
  rw [hid] at this;exact absurd this (by simp [geB,hir])
theorem HD {cs ds:List aJ} (h:ds.map (·.id)=cs.map (·.id)) (id:Txt):gF ds id=gF cs id:=by
 have e:∀l:List aJ,gF l id=(l.map (·.id)).findIdx fun x=>x==id:=fun l=>by
  unfold gF;rw [List.findIdx_map];rfl
 rw [e,e,h]
theorem Fz (s:an) (o:OpD) (w:Txt) (id:Txt):gF (gY s o w).cases id=gF s.cases id∧(gY s o w).cases.length=s.cases.length:=by
 unfold gY;split
 ·exact ⟨HD (jF (f:=fun c=>iH s c o.subj w) (g:=fun c:aJ=>c.id) fun c=>rfl) id,by simp⟩
 ·exact ⟨rfl,rfl⟩
theorem Fy (o:OpD) (done:Bool) (s:an) (x:cw) (id:Txt):gF (eN o done s x).cases id=gF s.cases id∧(eN o done s x).cases.length=s.cases.length:=by
 unfold eN;split
 ·exact Fz s o x.arg id
 ·split
  ·exact ⟨rfl,rfl⟩
  ·split<;>exact ⟨rfl,rfl⟩
end Go.Bf
namespace Go.Proofs.YtnlbeamjpefpfaaGreatDoor
open Go Go.Ab Go.Bf
theorem HG {α:Type} (y:AV) (xs:List AV) (ds:List α) (q:α→Bool) (g:FuncId) (cap:List AV) (h:Heap) (hb:Rd h 7 y xs) (hn:xs.length=ds.length) (hl:xs.length≤1000000000) (hx:∀x∈xs,bA x=true)
  (hp:∀i (h1:i<xs.length) (h2:i<ds.length),ak Tryz.prog g (xs[i]::cap) h fun r h' =>r= .v (.bool (q ds[i]))∧h' =h):
  ak Tryz.prog 85 [y, .fn g cap] h fun r h' =>r= .v (.int .i64 (ixD q ds))∧h' =h:=by
 refine ak.body hU hm Tryz.func85 rfl (by kernel_rfl) 19 rfl [.tmp 4] rfl (VZ rfl) (fun hwf=> ?_)
 simp only [go_sem,hb.len];refine .intro (fun m ρ h' =>h' =h∧∃i:Nat,i≤xs.length∧m=xs.length - i∧(∀j (hj:j<i) (h2:j<ds.length),q ds[j]=false)∧lk ρ 0=some y∧lk ρ 1=some (.fn g cap)∧lk ρ 7=some (.v (.int .i64 xs.length))∧lk ρ 8=some (.v (.int .i64 i))) xs.length ?_ ?_
 ·refine ⟨rfl,0,by omega,rfl,fun j hj=>(by omega), ?_, ?_, ?_, ?_⟩<;>simp only [go_sem]
 ·rintro m ρ h' ⟨rfl,i,hi,rfl,hc,r0,r1,r7,r8⟩
  simp only [go_sem,r7,r8];refine .intro (fun e=> ?_) (fun e=> ?_)
  ·have hlt:i<xs.length:=V7 e
   have hlt2:i<ds.length:=by omega
   have w1:=V6 i (by omega)
   simp only [go_sem,r0,r1,r8];refine hb.idx (e:=71) i rfl hlt (by simp only [go_sem]) (by decide) fun p hp1=> ?_
   have hld:=hp1.all (U:=U) (ty:=71) (by simp only [go_sem]) (by simp only [go_sem]; exact hb.1 _ (V5 hlt)) (by simp only [go_sem]; rw [hx _ (V5 hlt)])
   simp only [go_sem,hld];refine (show ak Tryz.prog g (xs[i]::cap) _ _ from hp i hlt hlt2).pthen ?_
   cases d1:q ds[i]
   ·simp only [go_sem,r8,w1]
    refine ⟨_, ?_,rfl,i+1,by omega,rfl,fun j hj h2=> ?_, ?_, ?_, ?_, ?_⟩
    ·omega
    ·by_cases hji:j=i
     ·subst hji; exact d1
     ·exact hc j (by omega) h2
    all_goals simp only [go_sem,r0,r1,r7]
   ·simp only [go_sem]
    exact .same (.refl _) ⟨by rw [mo hlt2 d1 fun j hj=>hc j hj (by omega)]; rfl,rfl⟩
  ·have hge:i=xs.length:=by have:=V3 e; omega
   simp only [go_sem];exact .same (.refl _) ⟨by rw [iD fun j hj=>hc j (by omega) hj]; rfl,rfl⟩
theorem HE {α:Type} (y:AV) (xs:List AV) (ds:List α) (q:α→Bool) (g:FuncId) (cap:List AV) (h:Heap) (hb:Rd h 3 y xs) (hn:xs.length=ds.length) (hl:xs.length≤1000000000) (hx:∀x∈xs,bA x=true)
  (hp:∀i (h1:i<xs.length) (h2:i<ds.length),ak Tryz.prog g (xs[i]::cap) h fun r h' =>r= .v (.bool (q ds[i]))∧h' =h):
  ak Tryz.prog 110 [y, .fn g cap] h fun r h' =>r= .v (.int .i64 (ixD q ds))∧h' =h:=by
 refine ak.body hU hm Tryz.func110 rfl (by kernel_rfl) 19 rfl [.tmp 4] rfl (VZ rfl) (fun hwf=> ?_)
 simp only [go_sem,hb.len];refine .intro (fun m ρ h' =>h' =h∧∃i:Nat,i≤xs.length∧m=xs.length - i∧(∀j (hj:j<i) (h2:j<ds.length),q ds[j]=false)∧lk ρ 0=some y∧lk ρ 1=some (.fn g cap)∧lk ρ 7=some (.v (.int .i64 xs.length))∧lk ρ 8=some (.v (.int .i64 i))) xs.length ?_ ?_
 ·refine ⟨rfl,0,by omega,rfl,fun j hj=>(by omega), ?_, ?_, ?_, ?_⟩<;>simp only [go_sem]
 ·rintro m ρ h' ⟨rfl,i,hi,rfl,hc,r0,r1,r7,r8⟩
  simp only [go_sem,r7,r8];refine .intro (fun e=> ?_) (fun e=> ?_)
  ·have hlt:i<xs.length:=V7 e
   have hlt2:i<ds.length:=by omega
   have w1:=V6 i (by omega)
   simp only [go_sem,r0,r1,r8];refine hb.idx (e:=64) i rfl hlt (by simp only [go_sem]) (by decide) fun p hp1=> ?_
   have hld:=hp1.all (U:=U) (ty:=64) (by simp only [go_sem]) (by simp only [go_sem]; exact hb.1 _ (V5 hlt)) (by simp only [go_sem]; rw [hx _ (V5 hlt)])
   simp only [go_sem,hld];refine (show ak Tryz.prog g (xs[i]::cap) _ _ from hp i hlt hlt2).pthen ?_
   cases d1:q ds[i]
   ·simp only [go_sem,r8,w1]
    refine ⟨_, ?_,rfl,i+1,by omega,rfl,fun j hj h2=> ?_, ?_, ?_, ?_, ?_⟩
    ·omega
    ·by_cases hji:j=i
     ·subst hji; exact d1
     ·exact hc j (by omega) h2
    all_goals simp only [go_sem,r0,r1,r7]
   ·simp only [go_sem]
    exact .same (.refl _) ⟨by rw [mo hlt2 d1 fun j hj=>hc j hj (by omega)]; rfl,rfl⟩
  ·have hge:i=xs.length:=by have:=V3 e; omega
   simp only [go_sem];exact .same (.refl _) ⟨by rw [iD fun j hj=>hc j (by omega) hj]; rfl,rfl⟩
theorem Fq (y:AV) (ds:List mN) (q:mN→Bool) (g:FuncId) (cap:List AV) (h:Heap) (hb:Rd h 7 y (ds.map fL)) (hl:ds.length≤1000000000)
  (hp:∀i (h2:i<ds.length),ak Tryz.prog g (fL ds[i]::cap) h fun r h' =>r= .v (.bool (q ds[i]))∧h' =h):
  ak Tryz.prog 51 [y, .fn g cap] h fun r h' =>r= .v (.bool (ds.any q))∧h' =h:=by
 refine ak.body hU hm Tryz.func51 rfl (by kernel_rfl) 9 rfl [.tmp 4] rfl (VZ rfl) (fun hwf=> ?_)
 simp only [go_sem];refine (HG y _ ds q g cap h hb (by simp) (by simpa using hl) (mP (fun _=>rfl) _) fun i a b=>by rw [V1]; exact hp i b).pthen ?_
 simp only [go_sem,sv];exact .same (.refl _) ⟨rfl,rfl⟩
theorem Fp (y:AV) (ds:List cw) (q:cw→Bool) (g:FuncId) (cap:List AV) (h:Heap) (hb:Rd h 3 y (ds.map bf)) (hl:ds.length≤1000000000)
  (hp:∀i (h2:i<ds.length),ak Tryz.prog g (bf ds[i]::cap) h fun r h' =>r= .v (.bool (q ds[i]))∧h' =h):
  ak Tryz.prog 72 [y, .fn g cap] h fun r h' =>r= .v (.bool (ds.any q))∧h' =h:=by
 refine ak.body hU hm Tryz.func72 rfl (by kernel_rfl) 9 rfl [.tmp 4] rfl (VZ rfl) (fun hwf=> ?_)
 simp only [go_sem];refine (HE y _ ds q g cap h hb (by simp) (by simpa using hl) (mP (fun _=>rfl) _) fun i a b=>by rw [V1]; exact hp i b).pthen ?_
 simp only [go_sem,sv];exact .same (.refl _) ⟨rfl,rfl⟩
theorem CT (y:AV) (xs:List AV) (ds:List aJ) (q:aJ→Bool) (g:FuncId) (cap:List AV) (h:Heap) (hb:Rd h 5 y xs) (hn:xs.length=ds.length) (hl:xs.length≤1000000000) (hx:∀x∈xs,bA x=true)
  (hp:∀i (h1:i<xs.length) (h2:i<ds.length),ak Tryz.prog g (xs[i]::cap) h fun r h' =>r= .v (.bool (q ds[i]))∧h' =h):
  ak Tryz.prog 77 [y, .fn g cap] h fun r h' =>r= .v (.bool (ds.any q))∧h' =h:=by
 refine ak.body hU hm Tryz.func77 rfl (by kernel_rfl) 9 rfl [.tmp 4] rfl (VZ rfl) (fun hwf=> ?_)
 simp only [go_sem];refine (sJ y xs ds q g cap h hb hn hl hx hp).pthen ?_;simp only [go_sem,sv];exact .same (.refl _) ⟨rfl,rfl⟩
theorem HL {h:Heap} (r:mN) {k1 k2:Nat} {subj:Txt} {s:an} (hk1:h k1=some (.obj [.s subj] 9)) (hk2:h k2=some (.obj (sL s) 39)) (ht:0≤s.tick∧s.tick≤1099511627776) (hr:0≤r.tick∧r.tick≤1099511627776):
  ak Tryz.prog 52 [fL r, .ptr k1 0, .ptr k2 0] h fun x h' =>x= .v (.bool (r.subj==subj && mJ s r))∧h' =h:=by
 have w:IntKind.i64.wrap (s.tick - r.tick)=s.tick - r.tick:=bx _ (by omega)
 obtain ⟨tick,cs,rv,nt,ro,⟨pid,pset,palg,ptgt,prules,pkids,pobls⟩,ver⟩:=s;simp only [sL] at hk2;simp only at w;refine ak.body hU hm Tryz.func52 rfl (by kernel_rfl) 21 rfl [.tmp 4] rfl (VZ rfl) (fun hwf=> ?_)
 simp only [go_sem,fL];intro i3 h3;have n31:i3≠k1:=fun e=>by rw [e,hk1] at h3; cases h3
 have n32:i3≠k2:=fun e=>by rw [e,hk2] at h3; cases h3
 cases d1:(r.subj==subj)
 ·simp only [go_sem,aj,n31.symm,hk1,d1]
  exact .mk _ (.refl _) (.ai h3) ⟨rfl,rfl⟩
 cases d2:r.isOpen
 ·simp only [go_sem,aj,n31.symm,hk1,d1]
  exact .mk _ (.refl _) (.ai h3) ⟨by simp only [mJ,d2]; rfl,rfl⟩
 ·simp only [go_sem,aj,n31.symm,n32.symm,hk1,hk2,d1,w]
  exact .mk _ (.refl _) (.ai h3) ⟨by simp only [mJ,d2]; rfl,rfl⟩
set_option maxRecDepth 100000 in
theorem D9 (s:an) (subj:Txt) (hn:s.reviews.length≤1000000) (ht:0≤s.tick∧s.tick≤1099511627776) (hr:gz s) (h:Heap):ak Tryz.prog 21 [cU s, .s subj] h fun x h' =>x= .v (.bool (Bh s subj))∧h' =h:=by
 have hl1:=fun (H:Heap) (k1 k2:Nat) (e1:H k1=some (.obj [.s subj] 9)) (e2:H k2=some (.obj (sL s) 39))=>Fq (qi s.reviews) s.reviews (fun r=>r.subj==subj && mJ s r) 52 [.ptr k1 0, .ptr k2 0] H (eC fL 7 (fun _=>rfl) H _) (by omega) fun i h2=>HL _ e1 e2 ht (hr _ (V5 h2))
 simp only [show∀l:List mN,(l.any fun r=>r.subj==subj && mJ s r)=Bh {s with reviews:=l} subj from fun l=>rfl] at hl1
 have hst:=fM s;obtain ⟨tick,cs,rv,nt,ro,⟨pid,pset,palg,ptgt,prules,pkids,pobls⟩,ver⟩:=s;rw [hst];simp only [sL] at hl1⊢;refine ak.body hU hm Tryz.func21 rfl (by kernel_rfl) 9 rfl [.tmp 4] rfl (VZ rfl) (fun hwf=> ?_)
 simp only [go_sem];intro i2 h2;simp only [go_sem];intro i3 h3;have n32:=aH h3;have n3:=aD h3;have hs:∀x y,Ab.Sub h (upd (upd h i2 x) i3 y):=fun x y=>((Sub.refl h).put h2 x).put n3 y
 simp only [go_sem,aj,n32.symm];refine (hl1 _ i3 i2 (ah ..) (by rw [ag _ _ n32.symm,ah])).pthen ?_
 simp only [go_sem];exact .mk _ (.refl _) (hs _ _) ⟨rfl,rfl⟩
set_option maxRecDepth 100000 in
theorem EL (s:an) (o:OpD) (m:aS) (hm9:M9 m) (hn:s.reviews.length≤1000000) (hro:s.roles.length≤1000000) (ht:0≤s.tick∧s.tick≤1099511627776) (hr:gz s) (h:Heap):ak Tryz.prog 34 [cU s,opA o,aP m] h fun x h' =>x= .v (.bool (pG s o m))∧h' =h:=by
 have hla:=fun G=>D9 s o.subj hn ht hr G
 have hha:=fun G=>zK (rdS G s) o.subj lg (by omega)
 have hbd:pG s o m=(o.glass && (m==bV||m==naM) && uB s.roles ⟨o.subj,lg⟩ && !Bh s o.subj):=rfl
 have de:=(nb hm9).de;have na:=(nb hm9).na;have hst:=fM s;obtain ⟨tick,cs,rv,nt,ro,⟨pid,pset,palg,ptgt,prules,pkids,pobls⟩,ver⟩:=s;rw [hst] at hla hha⊢;simp only [sL,lg] at hla hha hbd⊢;refine ak.body hU hm Tryz.func34 rfl (by kernel_rfl) 30 rfl [.tmp 6] rfl (VZ rfl) (fun hwf=> ?_)
 simp only [go_sem,opA,opC,aP];intro i3 h3;simp only [go_sem];intro i4 h4;have n43:=aH h4;have n4:=aD h4;have hs:∀x y,Ab.Sub h (upd (upd h i3 x) i4 y):=fun x y=>((Sub.refl h).put h3 x).put n4 y
 cases dg:o.glass
 ·simp only [go_sem]
  exact .mk _ (.refl _) (hs _ _) ⟨by rw [hbd,dg]; rfl,rfl⟩
 cases d1:(m==bV)<;>cases d2:(m==naM)
 case false.false=>
  simp only [go_sem,de,na,d1,d2];exact .mk _ (.refl _) (hs _ _) ⟨by rw [hbd,dg,d1,d2]; rfl,rfl⟩
 all_goals
  simp only [go_sem,aj,n43.symm,de,na,d1,d2];refine (hha _).pthen ?_;cases dh:uB ro ⟨o.subj,[103,108,97,115,115]⟩
  ·simp only [go_sem]
   exact .mk _ (.refl _) (hs _ _) ⟨by rw [hbd,dg,d1,d2,dh]; rfl,rfl⟩
  ·simp only [go_sem,aj,n43.symm]
   refine (hla _).pthen ?_;simp only [go_sem];exact .mk _ (.refl _) (hs _ _) ⟨by rw [hbd,dg,d1,d2,dh]; rfl,rfl⟩
theorem Ft {h:Heap} (x:cw) {k:Nat} {field:Txt} (hk:h k=some (.obj [.s field] 9)):ak Tryz.prog 73 [bf x, .ptr k 0] h fun r h' =>r= .v (.bool (x.kind==2 && x.arg==field))∧h' =h:=by
 refine ak.body hU hm Tryz.func73 rfl (by kernel_rfl) 13 rfl [.tmp 3] rfl (VZ rfl) (fun hwf=> ?_)
 simp only [go_sem,bf];intro i2 h2;have n2:i2≠k:=fun e=>by rw [e,hk] at h2; cases h2
 cases d1:(x.kind==2)
 all_goals
  simp only [go_sem,aj,n2.symm,hk,d1];exact .mk _ (.refl _) (.ai h2) ⟨rfl,rfl⟩
theorem Hx (l:List cw) (hl:l.length≤1000000000) (field:Txt) (h:Heap):ak Tryz.prog 38 [au l, .s field] h fun r h' =>r= .v (.bool (jf l field))∧h' =h:=by
 refine ak.body hU hm Tryz.func38 rfl (by kernel_rfl) 8 rfl [.tmp 4] rfl (VZ rfl) (fun hwf=> ?_)
 simp only [go_sem,au];intro i3 h3;simp only [go_sem];refine (Fp (.sl (l.map bf) .no) l (fun x=>x.kind==2 && x.arg==field) _ [.ptr i3 0] _ (eC bf 3 (fun _=>rfl) _ _) hl fun i h2=>Ft _ (ah ..)).pthen ?_
 simp only [go_sem];exact .mk _ (.refl _) (.ai h3) ⟨rfl,rfl⟩
theorem Ii {h:Heap} {x:AV} {c:aJ} (hb:RdC h x c):ak Tryz.prog 78 [x] h fun r h' =>r= .v (.bool (decide (256<c.log.length)))∧h' =h:=by
 obtain ⟨f,l,rfl,hf,hl⟩:=hb;have e:decide ((256:Int)<(c.log.length:Int))=decide (256<c.log.length):=by
  rw [decide_eq_decide]; omega
 refine ak.body hU hm Tryz.func78 rfl (by kernel_rfl) 7 rfl [.tmp 2] rfl (VZ rfl) (fun hwf=> ?_)
 simp only [go_sem];intro i1 h1;simp only [go_sem,hl.len,V0,e];exact .mk _ (.refl _) (.ai h1) ⟨rfl,rfl⟩
set_option maxRecDepth 100000 in
theorem Ik {h:Heap} {x:AV} {s:an} (hb:RdS h x s) (hc:s.cases.length≤1000000):ak Tryz.prog 41 [x] h fun r h' =>r= .v (.bool (oV s))∧h' =h:=by
 obtain ⟨y1,y2,y3,y4,rfl,⟨xs,hx,hn,hcs⟩,h2,h3,h4⟩:=hb;have hod:oV s=(decide (256<s.reviews.length)||decide (256<s.notices.length)||s.cases.any fun c=>decide (256<c.log.length)):=rfl
 have e2:decide ((256:Int)<(s.reviews.length:Int))=decide (256<s.reviews.length):=by
  rw [decide_eq_decide]; omega
 have e3:decide ((256:Int)<(s.notices.length:Int))=decide (256<s.notices.length):=by
  rw [decide_eq_decide]; omega
 have hca:=fun (G:Heap) (hG:Ab.Sub h G)=>CT y1 xs s.cases (fun c=>decide (256<c.log.length)) 78 [] G (hx.sub hG) hn (by omega) (xo.agg hn hcs) fun i a b=>Ii ((hcs i a b).sub hG)
 cases hpp:s.policy with
 |mk pid pset palg ptgt prules pkids pobls=>
 refine ak.body hU hm Tryz.func41 rfl (by kernel_rfl) 18 rfl [.tmp 2] rfl (VZ rfl) (fun hwf=> ?_)
 simp only [go_sem,fB,aV,List.cons_append,List.nil_append];intro i1 h1;cases d2:decide (256<s.reviews.length)
 case true=>
  simp only [go_sem,h2.len,V0,e2,d2];exact .mk _ (.refl _) (.ai h1) ⟨by rw [hod,d2]; rfl,rfl⟩
 cases d3:decide (256<s.notices.length)
 case true=>
  simp only [go_sem,h2.len,h3.len,V0,e2,e3,d2,d3];exact .mk _ (.refl _) (.ai h1) ⟨by rw [hod,d2,d3]; rfl,rfl⟩
 simp only [go_sem,h2.len,h3.len,V0,e2,e3,d2,d3];refine (hca _ (.ai h1)).pthen ?_;simp only [go_sem];exact .mk _ (.refl _) (.ai h1) ⟨by rw [hod,d2,d3]; rfl,rfl⟩
theorem HR {h:Heap} {x:AV} {c:aJ} (hb:RdC h x c) {k:Nat} {o:OpD} (hk:h k=some (.obj (opC o) 26)):ak Tryz.prog 111 [x, .ptr k 0] h fun r h' =>r= .v (.bool (c.id==o.case))∧h' =h:=by
 obtain ⟨f,l,rfl,hf,hl⟩:=hb;simp only [opC] at hk;refine ak.body hU hm Tryz.func111 rfl (by kernel_rfl) 9 rfl [.tmp 3] rfl (VZ rfl) (fun hwf=> ?_)
 simp only [go_sem];intro i1 h1;have n1:k≠i1:=fun e=>by subst e; rw [hk] at h1; cases h1
 simp only [go_sem,aj,n1,hk];exact .mk _ (.refl _) (.ai h1) ⟨rfl,rfl⟩
end Go.Proofs.YtnlbeamjpefpfaaGreatDoor
namespace Go.Ab
open Go
theorem OwE.more {tb:TypeId} {g h0 h:Heap} {sz:Nat} {y:AV} {xs:List AV} (hw:OwE tb h0 h sz y xs) (hg:∀id,h0 id=Option.none→h id≠Option.none→g id=Option.none):OwE tb g h sz y xs:=by
 rcases hw with hw|⟨id,e,hw⟩
 ·exact .inl hw
 ·exact .inr ⟨id,hg _ e hw.none,hw⟩
end Go.Ab
namespace Go.Proofs.YtnlbeamjpefpfaaGreatDoor
open Go Go.Ab Go.Bf
theorem eT.more {g h0 h:Heap} {ys:List AV} {x:AV} {c:aJ} (hm:eT h0 h ys x c) (hg:∀id,h0 id=none→h id≠none→g id=none):eT g h ys x c:=by
 obtain ⟨f,l,e,a,b,c⟩:=hm;exact ⟨f,l,e,a.more hg,b.more hg,c⟩
theorem kE.more {g h0 h:Heap} {ys:List AV} {y:AV} {cs:List aJ} {i0:Nat} (ho:kE h0 h ys y cs i0) (hg:∀id,h0 id=none→h id≠none→g id=none):kE g h ys y cs i0:=by
 obtain ⟨xs,a,b,c,d⟩:=ho;exact ⟨xs,a.more hg,b,c,fun h1 h2=>(d h1 h2).more hg⟩
theorem OwR.more {g h0 h:Heap} {y:AV} {rs:List fQ} (hr:OwR h0 h y rs) (hg:∀id,h0 id=none→h id≠none→g id=none):OwR g h y rs:=by
 rcases hr with hr|hr
 ·exact .inl hr
 ·exact .inr (hr.more hg)
theorem gQ.more {g h0 h:Heap} {y1 y2 y3 y4:AV} {s:an} {j:Nat} (ho:gQ h0 h y1 y2 y3 y4 s j) (hg:∀id,h0 id=none→h id≠none→g id=none):gQ g h y1 y2 y3 y4 s j:=
 {ho with cs:=ho.cs.more hg,rv:=ho.rv.more hg,nt:=ho.nt.more hg,rl:=ho.rl.more hg}
def GSt (g H:Heap) (k:Nat) (s:an) (j:Nat):Prop:=∃y1 y2 y3 y4,H k=some (.obj (stC s y1 y2 y3 y4) 39)∧gQ g H y1 y2 y3 y4 s j∧g k≠none∧∀i b,i≠k→g i=some b→H i=some b
theorem GSt.box {g H:Heap} {k:Nat} {s:an} {j:Nat} (hG:GSt g H k s j) {i:Nat} (hi:H i=none) (b:Blk):GSt (upd g i (some b)) (upd H i (some b)) k s j:=by
 obtain ⟨y1,y2,y3,y4,hk,ho,hgk,hfr⟩:=hG;have nk:i≠k:=fun e=>by rw [e,hk] at hi; cases hi
 refine ⟨y1,y2,y3,y4,by rw [ag _ _ nk.symm]; exact hk,(ho.more (g:=upd g i (some b)) fun id h0 hne=> ?_).keep fun id _ hne=>ag _ _ fun e=>hne (by rw [e]; exact hi),by rw [ag _ _ nk.symm]; exact hgk,fun q c hq hc=> ?_⟩
 ·rw [ag _ _ fun e=>hne (by rw [e]; exact hi)]; exact h0
 ·by_cases e:q=i
  ·subst e; rw [ah] at hc⊢; exact hc
  ·rw [ag _ _ e] at hc⊢; exact hfr q c hq hc
theorem GSt.unbox {g H:Heap} {k:Nat} {s:an} {j:Nat} {i:Nat} {b:Blk} (hG:GSt (upd g i (some b)) H k s j) (hi:i≠k) (hgi:g i=none):GSt g H k s j∧H i=some b:=by
 obtain ⟨y1,y2,y3,y4,hk,ho,hgk,hfr⟩:=hG;refine ⟨⟨y1,y2,y3,y4,hk,ho.bH fun q hq=> ?_,by rw [ag _ _ hi.symm] at hgk; exact hgk,fun q c hq hc=>hfr q c hq ?_⟩,hfr i b hi (ah ..)⟩
 ·by_cases e:q=i
  ·rw [e]; exact hgi
  ·rw [ag _ _ e] at hq; exact hq
 ·rw [ag _ _ fun e=>by rw [e,hgi] at hc; cases hc]; exact hc
theorem GSt.base {g H:Heap} {k:Nat} {s:an} {j:Nat} (hG:GSt g H k s j):∃G,Ab.Sub G H∧(∀i,G i=none↔g i=none)∧∀i,i≠k→G i=g i:=by
 obtain ⟨y1,y2,y3,y4,hk,ho,hgk,hfr⟩:=hG;refine ⟨upd g k (H k),fun i b hi=> ?_,fun i=> ?_,fun i hi=>ag _ _ hi⟩
 ·by_cases e:i=k
  ·subst e; rw [ah] at hi; exact hi
  ·rw [ag _ _ e] at hi; exact hfr i b e hi
 ·by_cases e:i=k
  ·subst e; rw [ah,hk]; simp [hgk]
  ·rw [ag _ _ e]
theorem GSt.rd {g H:Heap} {k:Nat} {s:an} {j:Nat} (hG:GSt g H k s j):∃y1 y2 y3 y4,H k=some (.obj (stC s y1 y2 y3 y4) 39)∧RdS H (.agg (stC s y1 y2 y3 y4)) s:=by
 obtain ⟨y1,y2,y3,y4,hk,ho,_⟩:=hG;exact ⟨y1,y2,y3,y4,hk,ho.rd⟩
set_option maxRecDepth 100000 in
theorem Bx {g H:Heap} {k:Nat} {s:an} {j:Nat} (hG:GSt g H k s j) (o:OpD) (w:Txt) (hk64:i64 o.kind) (hn:s.reviews.length≤1000000000):
  ak Tryz.prog 36 [.ptr k 0,opA o, .s w] H fun r H' =>GSt g H' k (dz s o w) j:=by
 obtain ⟨G,sG,nG,oG⟩:=hG.base;obtain ⟨y1,y2,y3,y4,hk,ho,hgk,hfr⟩:=hG;have ho2:gQ G H y1 y2 y3 y4 s j:=ho.bH fun i hi=>(nG i).2 hi
 have w1:IntKind.i64.wrap ((s.reviews.length:Int)+1)=(s.reviews.length:Int)+1:=bx _ (by omega)
 obtain ⟨pid,pset,palg,ptgt,prules,pkids,pobls,hpp⟩:∃a b c d e f g,s.policy= .mk a b c d e f g:=by cases s.policy; exact ⟨_,_,_,_,_,_,_,rfl⟩
 have hst:∀z,stC (dz s o w) y1 z y3 y4= [.v (.int .i64 s.tick),y1,z,y3,y4, .s pid, .v (.bool pset), .v (.int .i64 palg),aT ptgt, .sl (prules.map aB) .no, .sl (pkids.map aK) .no,au pobls, .v (.int .i64 s.version)]:=fun z=>by simp [stC,dz,hpp,fB,aV]
 have hst0:stC s y1 y2 y3 y4= [.v (.int .i64 s.tick),y1,y2,y3,y4, .s pid, .v (.bool pset), .v (.int .i64 palg),aT ptgt, .sl (prules.map aB) .no, .sl (pkids.map aK) .no,au pobls, .v (.int .i64 s.version)]:=by simp [stC,hpp,fB,aV]
 rw [hst0] at hk;refine ak.body hU hm Tryz.func36 rfl (by kernel_rfl) 34 rfl [] rfl (VZ rfl) (fun hwf=> ?_)
 simp only [go_sem,opA,opC];intro i4 h4;have n4k:i4≠k:=fun e=>by rw [e,hk] at h4; cases h4
 simp only [go_sem];obtain ⟨K,eK⟩:∃K,upd H i4 (some (.obj [.v (.int .i64 o.kind), .s o.subj, .s o.case, .s o.field, .s o.to, .v (.int .i64 o.val.kind), .v (.int .i64 o.val.n), .s o.val.s, .v (.int .i64 o.review), .s o.text, .s o.reason, .v (.bool o.glass)] 26))=K:=⟨_,rfl⟩;have sK:Ab.Sub H K:=by rw [←eK]; exact .ai h4
 have k4:K i4=some (.obj [.v (.int .i64 o.kind), .s o.subj, .s o.case, .s o.field, .s o.to, .v (.int .i64 o.val.kind), .v (.int .i64 o.val.n), .s o.val.s, .v (.int .i64 o.review), .s o.text, .s o.reason, .v (.bool o.glass)] 26):=by rw [←eK,ah]
 have kk:=sK _ _ hk;have hoK:gQ G K y1 y2 y3 y4 s j:=ho2.keep fun id _ hne=>by rw [←eK]; exact ag _ _ fun e=>hne (by rw [e]; exact h4)
 rw [eK];have p4:=(bz (H:=K) (l:= [k,i4]) (show i4∈ [k,i4] by simp)).trans k4
 have pk:=(bz (H:=K) (l:= [k,i4]) (show k∈ [k,i4] by simp)).trans kk
 refine .stage (pick K [k,i4]) [0,1,2,3,4,5,6,7,8,9,10,11,12,13,14,15,16,17,18,19,20,22,21,23,24,25,26,27] [28] br (by kernel_rfl) ?_
 simp only [go_sem,pk,p4,hoK.rv.rd.len,V0,w1];refine (xU o.kind hk64 _).pthen ?_;refine ⟨br, ?_⟩;simp only [go_sem];have hap1:Rd K 7 (.sl [fL (wQ s o w)] .full) [fL (wQ s o w)]:= .sl (by intro z hz; rw [List.mem_singleton.1 hz]; rfl) .full
 refine OwE.app (U:=U) (tb:=71) hoK.rv (sG.trans sK) hap1 (by simp only [go_sem]) (by decide) (by simp only [go_sem,ne_eq,not_false_eq_true]) (by simp only [go_sem]) (by simp) (by simp only [go_sem,List.length_cons,List.length_nil,V0]; omega) fun id y' K2 hid hor how hoth=> ?_
 have hor' :K id=none∨nid y2=some id:=by
  rcases hor with hor|⟨l,c,ey⟩
  ·exact .inl hor
  ·exact .inr (by rw [ey]; rfl)
 have nik:k≠id:=fun e=>hgk ((nG k).1 (by rw [e]; exact hid))
 have ni4:i4≠id:=by
  rcases hor' with hor|hor
  ·exact fun e=>by rw [←e,k4] at hor; cases hor
  ·exact fun e=>(ho2.rv.nid hor).2.1 (by rw [←e]; exact h4)
 have m4:=(hoth i4 ni4).trans k4;have mk:=(hoth k nik).trans kk;refine ⟨gV fun q hq=> ?_, ?_⟩
 ·simp only [List.mem_cons,List.not_mem_nil,or_false] at hq
  rcases hq with rfl|rfl
  ·rw [mk,kk]
  ·rw [m4,k4]
 simp only [go_sem];refine ⟨cN,fun _ _ e=>(by cases e), ?_⟩
 simp only [go_sem,mk,how.rd.fit,how.rd.cells];refine ⟨fun _ _ e=>(by cases e), ?_⟩
 refine .same (.refl _) ⟨y1,y',y3,y4,by rw [ah,hst],gQ.bH (h0:=G) ?_ fun i hi=>(nG i).1 hi,hgk,fun i b hi hb=> ?_⟩
 ·refine hoK.revs (rs:=s.reviews++ [wQ s o w]) (.inr ⟨id,hid,by rw [List.map_append]; exact how.same (ag _ _ nik.symm)⟩) (fun q hq=> ?_) fun q hq hne hz=> ?_
  ·have:id=q:=by have:=how.nid; rw [hq] at this; exact (Option.some.inj this).symm
   rw [←this]; exact hor'
  ·have n1:q≠k:=fun e=>hgk ((nG k).1 (by rw [←e]; exact hq))
   have n2:q≠id:=fun e=>by
    rcases hor' with h|h
    ·exact hne (by rw [e]; exact h)
    ·exact hz (by rw [e]; exact h)
   rw [ag _ _ n1,hoth q n2]
 ·have n2:i≠id:=fun e=>by
   have:=(nG id).1 hid;rw [←e,hb] at this; cases this
  rw [ag _ _ hi,hoth i n2];exact sK _ _ (hfr i b hi hb)
end Go.Proofs.YtnlbeamjpefpfaaGreatDoor
namespace Go.Bf
open Go Go.Ab Go.Proofs.YtnlbeamjpefpfaaGreatDoor
theorem Bl {s:an} {o:OpD} {w:Txt} (h:¬(gF s.cases o.case<s.cases.length∧o.kind≠6)):gY s o w=s:=by unfold gY; rw [if_neg h]
theorem HS {s:an} {o:OpD} {w:Txt} {j:Nat} (h1:gF s.cases o.case<s.cases.length) (h2:o.kind≠6) (e:gF s.cases o.case=j):gY s o w= {s with cases:=s.cases.modify j fun c=>iH s c o.subj w}:=by unfold gY; rw [if_pos ⟨h1,h2⟩,e]
end Go.Bf
namespace Go.Proofs.YtnlbeamjpefpfaaGreatDoor
open Go Go.Ab Go.Bf
set_option maxRecDepth 100000 in
theorem HT {g H:Heap} {k:Nat} {s:an} {j:Nat} (hG:GSt g H k s j) (o:OpD) (w:Txt) (hc:s.cases.length≤1000000) (hl:∀c∈s.cases,c.log.length≤1000000000) (hj:gF s.cases o.case<s.cases.length→o.kind≠6→j=gF s.cases o.case):
  ak Tryz.prog 76 [.ptr k 0,opA o, .s w] H fun r H' =>GSt g H' k (gY s o w) j:=by
 obtain ⟨G,sG,nG,oG⟩:=hG.base;obtain ⟨y1,y2,y3,y4,hk,ho,hgk,hfr⟩:=hG;have ho2:gQ G H y1 y2 y3 y4 s j:=ho.bH fun i hi=>(nG i).2 hi
 obtain ⟨pid,pset,palg,ptgt,prules,pkids,pobls,hpp⟩:∃a b c d e f g,s.policy= .mk a b c d e f g:=by cases s.policy; exact ⟨_,_,_,_,_,_,_,rfl⟩
 have hst0:stC s y1 y2 y3 y4= [.v (.int .i64 s.tick),y1,y2,y3,y4, .s pid, .v (.bool pset), .v (.int .i64 palg),aT ptgt, .sl (prules.map aB) .no, .sl (pkids.map aK) .no,au pobls, .v (.int .i64 s.version)]:=by simp [stC,hpp,fB,aV]
 rw [hst0] at hk;refine ak.body hU hm Tryz.func76 rfl (by kernel_rfl) 44 rfl [] rfl (VZ rfl) (fun hwf=> ?_)
 simp only [go_sem,opA,opC];intro i4 h4;have n4k:i4≠k:=fun e=>by rw [e,hk] at h4; cases h4
 obtain ⟨K,eK⟩:∃K,upd H i4 (some (.obj [.v (.int .i64 o.kind), .s o.subj, .s o.case, .s o.field, .s o.to, .v (.int .i64 o.val.kind), .v (.int .i64 o.val.n), .s o.val.s, .v (.int .i64 o.review), .s o.text, .s o.reason, .v (.bool o.glass)] 26))=K:=⟨_,rfl⟩;have sK:Ab.Sub H K:=by rw [←eK]; exact .ai h4
 have k4:K i4=some (.obj [.v (.int .i64 o.kind), .s o.subj, .s o.case, .s o.field, .s o.to, .v (.int .i64 o.val.kind), .v (.int .i64 o.val.n), .s o.val.s, .v (.int .i64 o.review), .s o.text, .s o.reason, .v (.bool o.glass)] 26):=by rw [←eK,ah]
 have kk:=sK _ _ hk;have hoK:gQ G K y1 y2 y3 y4 s j:=ho2.keep fun id _ hne=>by rw [←eK]; exact ag _ _ fun e=>hne (by rw [e]; exact h4)
 have hfin:GSt g K k s j:=⟨y1,y2,y3,y4,by rw [hst0]; exact kk,hoK.bH fun i hi=>(nG i).1 hi,hgk,fun i b hi hb=>sK _ _ (hfr i b hi hb)⟩
 have hix:ak Tryz.prog 86 [y1, .fn 111 [.ptr i4 0]] K fun r h' =>r= .v (.int .i64 (ixD (fun c:aJ=>c.id==o.case) s.cases))∧h' =K:=by
  obtain ⟨xs,hx,hn,hcs⟩:=hoK.cs.rd;exact sJ y1 xs s.cases (fun c=>c.id==o.case) _ [.ptr i4 0] K hx hn (by omega) (xo.agg hn hcs) fun i a b=>HR (hcs i a b) k4
 have hcsK:=hoK.cs;have n4G:∀id,G id=none→K id≠none→id≠i4→H id=K id:=fun id _ _ h=>by rw [←eK,ag _ _ h]
 simp only [go_sem,aj,n4k.symm,hk];rw [eK];refine hix.pthen ?_
 by_cases hx:gF s.cases o.case<s.cases.length
 case neg=>
  have e1:ixD (fun c:aJ=>c.id==o.case) s.cases= -1:=if_neg hx
  have d1:decide ((-1:Int)<0)=true:=rfl;rw [e1];simp only [go_sem,d1];exact .same (.refl _) (by rw [Bl fun h=>hx h.1]; exact hfin)
 have e1:ixD (fun c:aJ=>c.id==o.case) s.cases=(gF s.cases o.case:Nat):=if_pos hx
 have d1:decide (((gF s.cases o.case:Nat):Int)<0)=false:=decide_eq_false (by omega)
 rw [e1];cases d6:(o.kind==6)
 case true=>
  have h6:o.kind=6:=by simpa using d6
  simp only [go_sem,d1,k4,d6];exact .same (.refl _) (by rw [Bl fun h=>h.2 h6]; exact hfin)
 have h6:o.kind≠6:=by simpa using d6
 have hjj:=hj hx h6;have hlo:=HS (w:=w) hx h6 hjj.symm;have hjc:j<s.cases.length:=by rw [hjj]; exact hx
 rw [←hjj] at d1⊢;rw [hlo];obtain ⟨xs,w1,hnx,hlw,hmy⟩:=hcsK;have hjx:j<xs.length:=by omega
 obtain ⟨f,l,ex,of,ol,hap,hys⟩:=hmy hjx hjc;obtain ⟨id1,hg1,o1⟩:=w1.ow (by intro e; rw [e] at hjx; cases hjx)
 have o1' :=o1;obtain ⟨cap,rest,ey,hid,hrl,hcap,hsz⟩:=o1';have lA:j*5=(aq (xs.take j)).length:=by rw [aW fun z hz=>hsz z (List.mem_of_mem_take hz),List.length_take]; omega
 have hidK:K id1=some (.obj (aq (xs.take j)++(bZ s.cases[j] f l++(aq (xs.drop (j+1))++rest))) 78):=by
  rw [hid,zF hjx,ex];simp [bZ,AV.cells]
 have n1k:id1≠k:=kD o1 kk (by decide)
 have n14:id1≠i4:=kD o1 k4 (by decide)
 have hll:=hl _ (V5 hjc);have p4:=(bz (H:=K) (l:= [k,i4,id1]) (show i4∈ [k,i4,id1] by simp)).trans k4
 have pk:=(bz (H:=K) (l:= [k,i4,id1]) (show k∈ [k,i4,id1] by simp)).trans kk
 have p1:=(bz (H:=K) (l:= [k,i4,id1]) (show id1∈ [k,i4,id1] by simp)).trans hidK
 have hc4:(aq (xs.take j)++(bZ s.cases[j] f l++(aq (xs.drop (j+1))++rest)))[j*5+4]? =some l:=by rw [lA,List.getElem?_append_right (by omega),Nat.add_sub_cancel_left]; rfl
 obtain ⟨CS,eCS⟩:∃CS,aq (xs.take j)++(bZ s.cases[j] f l++(aq (xs.drop (j+1))++rest))=CS:=⟨_,rfl⟩;rw [eCS] at hc4 p1 hidK;simp only [go_sem,d1,k4,d6,kk];refine o1.idx (U:=U) (e:=78) j rfl hjx l8 (by decide) ?_
 simp only [go_sem];refine .stage (pick K [k,i4,id1]) [0,1,2,3,4,5,6,7,8,9,10,11,12,13,14,15,16] [17] br (by kernel_rfl) ?_
 simp only [go_sem,pk,p4,p1,hc4];have hap1:Rd K 3 (.sl [fF ⟨s.tick,o.subj,w⟩] .full) [fF ⟨s.tick,o.subj,w⟩]:= .sl (by intro z hz; rw [List.mem_singleton.1 hz]; rfl) .full
 refine OwE.app (U:=U) (tb:=82) ol (sG.trans sK) hap1 (by simp only [go_sem]) (by decide) (by simp only [go_sem,ne_eq,not_false_eq_true]) (by simp only [go_sem]) (by simp) (by simp only [go_sem,List.length_cons,List.length_nil,V0]; omega) fun id2 y' K2 g2 hor how hoth=> ?_
 have hor' :K id2=none∨nid l=some id2:=by
  rcases hor with hor|⟨l,c,ey⟩
  ·exact .inl hor
  ·exact .inr (by rw [ey]; rfl)
 have n2:∀ {q b t},K q=some (.obj b t)→t≠82→q≠id2:=fun {q b t} hq ht e=>by
  rcases hor' with h|h
  ·rw [e,h] at hq; cases hq
  ·exact kD (ol.nid h).2.2 hq ht e.symm
 have m4:=(hoth i4 (n2 k4 (by decide))).trans k4
 have mk:=(hoth k (n2 kk (by decide))).trans kk
 have m1:=(hoth id1 (n2 hidK (by decide))).trans hidK
 refine ⟨gV fun q hq=> ?_, ?_⟩
 ·simp only [List.mem_cons,List.not_mem_nil,or_false] at hq
  rcases hq with rfl|rfl|rfl
  ·rw [mk,kk]
  ·rw [m4,k4]
  ·rw [m1,hidK]
 simp only [go_sem];refine ⟨cN,fun _ _ e=>(by cases e), ?_⟩
 simp only [go_sem,m1,how.rd.fit,how.rd.cells];have e5:List.take (j*5+4) CS++ [y']++List.drop (j*5+4+1) CS=aq (xs.take j)++(bZ s.cases[j] f y' ++(aq (xs.drop (j+1))++rest)):=by
  have:=mV (A:=aq (xs.take j)++ [.s s.cases[j].id, .s s.cases[j].owner, .s s.cases[j].state,f]) (B:= [l]) (C:=aq (xs.drop (j+1))++rest) (X:= [y']) (k:=j*5+4) (m:=1) (by rw [lA]; simp) rfl rfl
  simp only [←eCS,bZ,List.append_assoc,List.cons_append,List.nil_append] at this⊢;exact this
 rw [e5];refine ⟨by rw [←eCS]; simp only [V4,←lA,bZ,List.length_cons,List.length_nil]; omega,(fun _ _ e=>by cases e), ?_⟩
 obtain ⟨F,eF⟩:∃F,upd K2 id1 (some (.obj (aq (xs.take j)++(bZ s.cases[j] f y' ++(aq (xs.drop (j+1))++rest))) 78))=F:=⟨_,rfl⟩;have kF:∀q,q≠id1→q≠id2→F q=K q:=fun q a b=>by rw [←eF,ag _ _ a,hoth q b]
 have kF' :∀q,K q≠none→q≠id1→nid l≠some q→F q=K q:=fun q a b c=>kF q b fun e=>by
  rcases hor' with h|h
  ·exact a (by rw [e]; exact h)
  ·exact c (by rw [e]; exact h)
 have hF1:F id1=some (.obj (aq (xs.take j)++(bZ s.cases[j] f y' ++(aq (xs.drop (j+1))++rest))) 78):=by rw [←eF,ah]
 have n12:id1≠id2:=n2 hidK (by decide)
 have hX5:Sized 5 (xs.set j (.agg (bZ s.cases[j] f y'))):=fun z hz=>by
  rcases List.mem_or_eq_of_mem_set hz with hz|rfl
  ·exact hsz z hz
  ·rfl
 have hOw:Ow 78 F 5 id1 y1 (xs.set j (.agg (bZ s.cases[j] f y'))):=⟨cap,rest,by rw [List.length_set]; exact ey,by rw [hF1,rf hjx]; simp [AV.cells],by rw [List.length_set]; exact hrl,by rw [List.length_set]; exact hcap,hX5⟩
 have hl' :OwE 82 G F 3 y' ((s.cases[j].log++ [(⟨s.tick,o.subj,w⟩:sr)]).map fF):=by
  rw [List.map_append];exact .inr ⟨id2,g2,how.same (by rw [←eF,ag _ _ n12.symm])⟩
 have hny:∀q,nid y' =some q→q=id2:=fun q hq=>by have:=how.nid; rw [hq] at this; exact Option.some.inj this
 have nf1:nid f≠some id1:=fun e=>(hys y1 (by simp)).1 id1 e o1.nid
 have hof:OwE 111 G F 4 f (s.cases[j].fields.map bw):=of.keep fun q e=>kF' q (of.nid e).2.1 (fun e' =>nf1 (by rw [←e']; exact e)) (hap q e)
 have hnid:∀ {y:AV},y∈ [y1,y2,y3,y4]→∀q,nid y=some q→K q≠none:=fun hy q e=>(hoK.mem hy e).2
 have hap2:∀ {y:AV},y∈ [y1,y2,y3,y4]→apart y' y:=fun {y} hy q e1 e2=>by
  have:=hny q e1;subst this;rcases hor' with h|h
  ·exact hnid hy _ e2 h
  ·exact (hys y hy).2 _ h e2
 have hkp:∀ {y:AV},y∈ [y2,y3,y4]→apart y1 y→∀q,nid y=some q→F q=K q:=fun {y} hy ha q e=>by
  have hy' :y∈ [y1,y2,y3,y4]:=List.mem_cons_of_mem _ hy;refine kF' q (hnid hy' q e) (fun e' =>ha id1 o1.nid (by rw [←e']; exact e)) fun e' =>(hys y hy').2 q e' e
 rw [eF];refine .same (.refl _) ⟨y1,y2,y3,y4, ?_,gQ.bH (h0:=G) ?_ fun i hi=>(nG i).1 hi,hgk,fun i b hi hb=> ?_⟩
 ·rw [kF k n1k.symm (n2 kk (by decide)),kk]
  simp [stC,hpp,fB,aV]
 ·refine ⟨zU (X:= .agg (bZ s.cases[j] f y')) (.inr ⟨id1,hg1,hOw⟩) hnx (fun q h1 h2 hq=>hlw q h1 h2 hq) fun hh=>⟨f,y',rfl,hof,hl',fun q e1 e2=> ?_,fun y hy=>⟨(hys y hy).1,hap2 hy⟩⟩,hoK.rv.keep (hkp (by simp) hoK.a12),hoK.nt.keep (hkp (by simp) hoK.a13),hoK.rl.keep (hkp (by simp) hoK.a14),hoK.a12,hoK.a13,hoK.a14,hoK.a23,hoK.a24,hoK.a34⟩
  have:=hny q e2;subst this;rcases hor' with h|h
  ·exact (of.nid e1).2.1 h
  ·exact hap _ e1 h
 ·have hGi:G i=some b:=by rw [oG i hi]; exact hb
  rw [kF i (fun e=>by rw [e,hg1] at hGi; cases hGi) (fun e=>by rw [e,g2] at hGi; cases hGi)]
  exact sK _ _ (hfr i b hi hb)
end Go.Proofs.YtnlbeamjpefpfaaGreatDoor
namespace Go.Bf
open Go Go.Ab Go.Proofs.YtnlbeamjpefpfaaGreatDoor
def pZ (B:Nat) (s:an):Prop:=(∀c∈s.cases,c.log.length≤B)∧s.reviews.length≤B∧s.notices.length≤B
theorem pZ.up {B C:Nat} {s:an} (h:pZ B s) (hc:B≤C):pZ C s:=⟨fun c hcc=>Nat.le_trans (h.1 c hcc) hc,Nat.le_trans h.2.1 hc,Nat.le_trans h.2.2 hc⟩
theorem Fh {B:Nat} {s:an} (o:OpD) (done:Bool) (x:cw) (h:pZ B s):pZ (B+1) (eN o done s x):=by
 unfold eN;split
 ·unfold gY
  split
  ·refine ⟨fun c hc=> ?_,Nat.le_succ_of_le h.2.1,Nat.le_succ_of_le h.2.2⟩
   rcases mem_modify hc with hc|⟨hi,rfl⟩
   ·exact Nat.le_succ_of_le (h.1 c hc)
   ·have:=h.1 _ (V5 hi)
    simp only [iH,V4,List.length_singleton];omega
  ·exact h.up (by omega)
 ·split
  ·refine ⟨fun c hc=>Nat.le_succ_of_le (h.1 c hc), ?_,Nat.le_succ_of_le h.2.2⟩
   have:=h.2.1;simp only [dz,V4,List.length_singleton];omega
  ·split
   ·refine ⟨fun c hc=>Nat.le_succ_of_le (h.1 c hc),Nat.le_succ_of_le h.2.1, ?_⟩
    have:=h.2.2;simp only [V4,List.length_singleton];omega
   ·exact h.up (by omega)
theorem tT (o:OpD) (done:Bool):∀(l:List cw) {B:Nat} {s:an},pZ B s→pZ (B+l.length) (cM s o l done)
 | [],B,s,h=>h
 |x::l,B,s,h=>(tT o done l (Fh o done x h)).up (by rw [List.length_cons]; omega)
theorem AK (s:an) (o:OpD) (done:Bool) {l:List cw} {i:Nat} (h:i<l.length):cM s o (l.take (i+1)) done=eN o done (cM s o (l.take i) done) l[i]:=by
 unfold cM;rw [List.take_succ_eq_append_getElem h,List.foldl_append];rfl
theorem tX (o:OpD) (done:Bool) (id:Txt):∀(l:List cw) (s:an),gF (cM s o l done).cases id=gF s.cases id∧(cM s o l done).cases.length=s.cases.length
 | [],s=>⟨rfl,rfl⟩
 |x::l,s=>by
  obtain ⟨a1,a2⟩:=Fy o done s x id;obtain ⟨b1,b2⟩:=tX o done id l (eN o done s x);exact ⟨b1.trans a1,b2.trans a2⟩
theorem EW {o:OpD} {s:an} {x:cw} (h:x.kind=1):eN o true s x=gY s o x.arg:=by unfold eN; rw [if_pos ⟨h,rfl⟩]
theorem CE {o:OpD} {done:Bool} {s:an} {x:cw} (h:x.kind=3):eN o done s x=dz s o x.arg:=by unfold eN; rw [if_neg (by rw [h]; simp),if_pos h]
theorem CF {o:OpD} {done:Bool} {s:an} {x:cw} (h:x.kind=4):eN o done s x= {s with notices:=s.notices++ [⟨s.tick,o.case,x.arg⟩]}:=by unfold eN; rw [if_neg (by rw [h]; simp),if_neg (by rw [h]; decide),if_pos h]
theorem AL {o:OpD} {done:Bool} {s:an} {x:cw} (h1:¬(x.kind=1∧done=true)) (h3:x.kind≠3) (h4:x.kind≠4):eN o done s x=s:=by unfold eN; rw [if_neg h1,if_neg h3,if_neg h4]
end Go.Bf
namespace Go.Proofs.YtnlbeamjpefpfaaGreatDoor
open Go Go.Ab Go.Bf
set_option maxRecDepth 100000 in
theorem CD {g H:Heap} {k:Nat} {s:an} {j:Nat} (hG:GSt g H k s j) (o:OpD) (hk64:i64 o.kind) (l:List cw) (hll:l.length≤100000000) (done:Bool) (hc:s.cases.length≤1000000) (hgr:pZ 1000 s) (hj:done=true→gF s.cases o.case<s.cases.length→o.kind≠6→j=gF s.cases o.case):
  ak Tryz.prog 40 [.ptr k 0,opA o,au l, .v (.bool done)] H fun r H' =>GSt g H' k (cM s o l done) j:=by
 have hkn:H k≠none:=by obtain ⟨y1,y2,y3,y4,hk,_⟩:=hG; rw [hk]; simp
 refine ak.body hU hm Tryz.func40 rfl (by kernel_rfl) 60 rfl [] rfl (VZ rfl) (fun hwf=> ?_)
 simp only [go_sem,opA,opC,au];intro i5 h5;have n5k:i5≠k:=fun e=>hkn (by rw [←e]; exact h5)
 have hg5:g i5=none:=by
  obtain ⟨y1,y2,y3,y4,hk,ho,hgk,hfr⟩:=hG;cases hh:g i5 with
  |none=>rfl
  |some b=>have:=hfr i5 b n5k hh; rw [h5] at this; cases this
 have hG5:=hG.box h5 (.obj [.v (.int .i64 o.kind), .s o.subj, .s o.case, .s o.field, .s o.to, .v (.int .i64 o.val.kind), .v (.int .i64 o.val.n), .s o.val.s, .v (.int .i64 o.review), .s o.text, .s o.reason, .v (.bool o.glass)] 26);obtain ⟨g5,eg5⟩:∃g5,upd g i5 (some (.obj [.v (.int .i64 o.kind), .s o.subj, .s o.case, .s o.field, .s o.to, .v (.int .i64 o.val.kind), .v (.int .i64 o.val.n), .s o.val.s, .v (.int .i64 o.review), .s o.text, .s o.reason, .v (.bool o.glass)] 26))=g5:=⟨_,rfl⟩;have g55:g5 i5=some (.obj [.v (.int .i64 o.kind), .s o.subj, .s o.case, .s o.field, .s o.to, .v (.int .i64 o.val.kind), .v (.int .i64 o.val.n), .s o.val.s, .v (.int .i64 o.review), .s o.text, .s o.reason, .v (.bool o.glass)] 26):=by rw [←eg5,ah]
 rw [eg5] at hG5;have hback:∀ {H' :Heap} {s' :an},GSt g5 H' k s' j→GSt g H' k s' j:=fun {H' s'} h=>by
  rw [←eg5] at h;exact (h.unbox n5k hg5).1
 have hgk5:g5 k≠none:=by obtain ⟨_,_,_,_,_,_,h,_⟩:=hG5; exact h
 simp only [go_sem,V0];refine .intro (fun m ρ H2=>∃i:Nat,GSt g5 H2 k (cM s o (l.take i) done) j∧i≤l.length∧m=l.length - i∧lk ρ 0=some (.ptr k 0)∧lk ρ 3=some (.v (.bool done))∧lk ρ 5=some (.ptr i5 0)∧lk ρ 10=some (.sl (l.map bf) .no)∧lk ρ 11=some (.v (.int .i64 l.length))∧lk ρ 12=some (.v (.int .i64 i))) l.length ?_ ?_
 ·refine ⟨0,hG5,by omega,rfl, ?_, ?_, ?_, ?_, ?_, ?_⟩<;>simp only [go_sem]
 ·rintro m ρ H2 ⟨i,hS,hi,rfl,r0,r3,r5,r10,r11,r12⟩
  simp only [go_sem,r11,r12];refine .intro (fun e=> ?_) (fun e=> ?_)
  ·have hlt:i<l.length:=V7 e
   have w1:=V6 i (by omega)
   have hsn:=AK s o done hlt;have hgi:=tT o done (l.take i) hgr;have hgi:pZ 1000000000 (cM s o (l.take i) done):=hgi.up (by rw [List.length_take]; omega)
   obtain ⟨hix,hcl⟩:=tX o done o.case (l.take i) s;have ix:=fun k=>fj.eq (xs:=l.map bf) (sz:=3) i (by simpa using hlt) (by rw [V1]; rfl) k
   rw [V1] at ix;obtain ⟨x,ex⟩:∃x,l[i]=x:=⟨_,rfl⟩;rw [ex] at ix hsn;obtain ⟨t,et⟩:∃t,cM s o (l.take i) done=t:=⟨_,rfl⟩;rw [et] at hS hsn hgi hix hcl;have hjt:done=true→gF t.cases o.case<t.cases.length→o.kind≠6→j=gF t.cases o.case:=fun a b c=>by rw [hix] at b⊢; rw [hcl] at b; exact hj a b c
   simp only [bf] at ix;simp only [go_sem,r10,r12,ix];intro i9 h9;have kkn:H2 k≠none:=by obtain ⟨y1,y2,y3,y4,hk,_⟩:=hS; rw [hk]; simp
   have n9k:i9≠k:=fun e=>kkn (by rw [←e]; exact h9)
   have hg9:g5 i9=none:=by
    obtain ⟨y1,y2,y3,y4,hk,ho,hgk,hfr⟩:=hS;cases hh:g5 i9 with
    |none=>rfl
    |some b=>have:=hfr i9 b n9k hh; rw [h9] at this; cases this
   have n95:i9≠i5:=fun e=>by rw [e,g55] at hg9; cases hg9
   have k5:H2 i5=some (.obj [.v (.int .i64 o.kind), .s o.subj, .s o.case, .s o.field, .s o.to, .v (.int .i64 o.val.kind), .v (.int .i64 o.val.n), .s o.val.s, .v (.int .i64 o.review), .s o.text, .s o.reason, .v (.bool o.glass)] 26):=by obtain ⟨_,_,_,_,_,_,_,hfr⟩:=hS; exact hfr i5 _ n5k g55
   have hS9:=hS.box h9 (.obj [.v (.int .i64 x.on), .v (.int .i64 x.kind), .s x.arg] 64);have hb9:∀ {H' :Heap} {s' :an},GSt (upd g5 i9 (some (.obj [.v (.int .i64 x.on), .v (.int .i64 x.kind), .s x.arg] 64))) H' k s' j→GSt g5 H' k s' j:=fun {H' s'} h=>(h.unbox n9k hg9).1
   have hlog:=fun (hd:done=true)=>HT hS9 o x.arg (by rw [hcl]; exact hc) hgi.1 (hjt hd)
   have hopen:=Bx hS9 o x.arg hk64 hgi.2.1;simp only [opA,opC] at hlog hopen;cases a1:(x.kind==1)
   case true=>
    have e1:x.kind=1:=by simpa using a1
    have a3:(x.kind==3)=false:=by rw [e1]; rfl
    have a4:(x.kind==4)=false:=by rw [e1]; rfl
    cases done
    ·simp only [go_sem,r3,r12,a1,a3,a4,w1]
     refine ⟨_, ?_,i+1,by rw [hsn,AL (fun h=>by cases h.2) (by rw [e1]; decide) (by rw [e1]; decide)]; exact hb9 hS9,by omega,rfl, ?_, ?_, ?_, ?_, ?_, ?_⟩
     ·omega
     all_goals simp only [go_sem,r0,r3,r5,r10,r11]
    ·simp only [go_sem,r0,r3,r5,a1,aj,n95.symm,k5]
     refine (hlog rfl).mono fun r H3 h3=> ?_
     simp only [go_sem,r12,w1];refine ⟨_, ?_,i+1,by rw [hsn,EW e1]; exact hb9 h3,by omega,rfl, ?_, ?_, ?_, ?_, ?_, ?_⟩
     ·omega
     all_goals simp only [go_sem,r0,r3,r5,r10,r11]
   have e1:¬(x.kind=1∧done=true):=fun h=>by rw [h.1] at a1; cases a1
   cases a3:(x.kind==3)
   case true=>
    have e3:x.kind=3:=by simpa using a3
    simp only [go_sem,r0,r5,a1,a3,aj,n95.symm,k5];refine hopen.mono fun r H3 h3=> ?_
    simp only [go_sem,r12,w1];refine ⟨_, ?_,i+1,by rw [hsn,CE e3]; exact hb9 h3,by omega,rfl, ?_, ?_, ?_, ?_, ?_, ?_⟩
    ·omega
    all_goals simp only [go_sem,r0,r3,r5,r10,r11]
   have e3:x.kind≠3:=by simpa using a3
   cases a4:(x.kind==4)
   case false=>
    have e4:x.kind≠4:=by simpa using a4
    simp only [go_sem,r12,a1,a3,a4,w1];refine ⟨_, ?_,i+1,by rw [hsn,AL e1 e3 e4]; exact hb9 hS9,by omega,rfl, ?_, ?_, ?_, ?_, ?_, ?_⟩
    ·omega
    all_goals simp only [go_sem,r0,r3,r5,r10,r11]
   have e4:x.kind=4:=by simpa using a4
   rw [CF e4] at hsn;obtain ⟨G,sG,nG,oG⟩:=hS9.base;obtain ⟨y1,y2,y3,y4,kk,ho,hgk,hfr⟩:=hS9;obtain ⟨K,eK⟩:∃K,upd H2 i9 (some (.obj [.v (.int .i64 x.on), .v (.int .i64 x.kind), .s x.arg] 64))=K:=⟨_,rfl⟩;have k9:K i9=some (.obj [.v (.int .i64 x.on), .v (.int .i64 x.kind), .s x.arg] 64):=by rw [←eK,ah]
   have k5' :K i5=some (.obj [.v (.int .i64 o.kind), .s o.subj, .s o.case, .s o.field, .s o.to, .v (.int .i64 o.val.kind), .v (.int .i64 o.val.n), .s o.val.s, .v (.int .i64 o.review), .s o.text, .s o.reason, .v (.bool o.glass)] 26):=by rw [←eK,ag _ _ n95.symm]; exact k5
   rw [eK] at sG kk ho hfr;have hoK:gQ G K y1 y2 y3 y4 t j:=ho.bH fun i hi=>(nG i).2 hi
   obtain ⟨pid,pset,palg,ptgt,prules,pkids,pobls,hpp⟩:∃a b c d e f g,t.policy= .mk a b c d e f g:=by cases t.policy; exact ⟨_,_,_,_,_,_,_,rfl⟩
   have hst:∀z (n:List ED),stC {t with notices:=n} y1 y2 z y4= [.v (.int .i64 t.tick),y1,y2,z,y4, .s pid, .v (.bool pset), .v (.int .i64 palg),aT ptgt, .sl (prules.map aB) .no, .sl (pkids.map aK) .no,au pobls, .v (.int .i64 t.version)]:=fun z n=>by simp [stC,hpp,fB,aV]
   have hst0:stC t y1 y2 y3 y4= [.v (.int .i64 t.tick),y1,y2,y3,y4, .s pid, .v (.bool pset), .v (.int .i64 palg),aT ptgt, .sl (prules.map aB) .no, .sl (pkids.map aK) .no,au pobls, .v (.int .i64 t.version)]:=by simp [stC,hpp,fB,aV]
   rw [hst0] at kk;have p9:=(bz (H:=K) (l:= [k,i5,i9]) (show i9∈ [k,i5,i9] by simp)).trans k9
   have p5:=(bz (H:=K) (l:= [k,i5,i9]) (show i5∈ [k,i5,i9] by simp)).trans k5'
   have pk:=(bz (H:=K) (l:= [k,i5,i9]) (show k∈ [k,i5,i9] by simp)).trans kk
   simp only [go_sem,a1,a3,a4];rw [eK];refine .stage (pick K [k,i5,i9]) [0,1,2,3,4,5,6,7,8,9,10,11,12,13,14,15,16,17] [18] br (by kernel_rfl) ?_
   simp only [go_sem,r0,r5,pk,p5,p9];have hap1:Rd K 3 (.sl [ku ⟨t.tick,o.case,x.arg⟩] .full) [ku ⟨t.tick,o.case,x.arg⟩]:= .sl (by intro z hz; rw [List.mem_singleton.1 hz]; rfl) .full
   have hnl:=hgi.2.2;refine OwE.app (U:=U) (tb:=84) hoK.nt sG hap1 (by simp only [go_sem]) (by decide) (by simp only [go_sem,ne_eq,not_false_eq_true]) (by simp only [go_sem]) (by simp) (by simp only [go_sem,List.length_cons,List.length_nil,V0]; omega) fun id y' K2 hid hor how hoth=> ?_
   have hor' :K id=none∨nid y3=some id:=by
    rcases hor with hor|⟨l,c,ey⟩
    ·exact .inl hor
    ·exact .inr (by rw [ey]; rfl)
   have n2:∀ {q b t},K q=some (.obj b t)→t≠84→q≠id:=fun {q b t} hq ht e=>by
    rcases hor' with h|h
    ·rw [e,h] at hq; cases hq
    ·exact kD (hoK.nt.nid h).2.2 hq ht e.symm
   have m9:=(hoth i9 (n2 k9 (by decide))).trans k9
   have m5:=(hoth i5 (n2 k5' (by decide))).trans k5'
   have nik:=n2 kk (by decide)
   have mk:=(hoth k nik).trans kk;refine ⟨gV fun q hq=> ?_, ?_⟩
   ·simp only [List.mem_cons,List.not_mem_nil,or_false] at hq
    rcases hq with rfl|rfl|rfl
    ·rw [mk,kk]
    ·rw [m5,k5']
    ·rw [m9,k9]
   simp only [go_sem];refine ⟨cN,fun _ _ e=>(by cases e), ?_⟩
   simp only [go_sem,r12,mk,how.rd.fit,how.rd.cells];refine ⟨fun _ _ e=>(by cases e), ?_⟩
   simp only [go_sem,w1];obtain ⟨F,eF⟩:∃F,upd K2 k (some (.obj [.v (.int .i64 t.tick),y1,y2,y',y4, .s pid, .v (.bool pset), .v (.int .i64 palg),aT ptgt, .sl (prules.map aB) .no, .sl (pkids.map aK) .no,au pobls, .v (.int .i64 t.version)] 39))=F:=⟨_,rfl⟩;have Fk:F k=(some (.obj [.v (.int .i64 t.tick),y1,y2,y',y4, .s pid, .v (.bool pset), .v (.int .i64 palg),aT ptgt, .sl (prules.map aB) .no, .sl (pkids.map aK) .no,au pobls, .v (.int .i64 t.version)] 39)):=by rw [←eF,ah]
   have Fo:∀q,q≠k→F q=K2 q:=fun q hq=>by rw [←eF,ag _ _ hq]
   have hoz:OwE 84 G F 3 y' ((t.notices++ [(⟨t.tick,o.case,x.arg⟩:ED)]).map ku):=by
    rw [List.map_append];exact .inr ⟨id,hid,how.same (Fo id nik.symm)⟩
   have hop:gQ G F y1 y2 y' y4 {t with notices:=t.notices++ [⟨t.tick,o.case,x.arg⟩]} j:=by
    refine gQ.nots (h:=K) (h' :=F) hoK hoz (fun q hq=> ?_) fun q hq hne hz=> ?_
    ·have:id=q:=by have:=how.nid; rw [hq] at this; exact (Option.some.inj this).symm
     rw [←this]; exact hor'
    ·have n1:q≠k:=fun e=>hgk ((nG k).1 (by rw [←e]; exact hq))
     have n2:q≠id:=fun e=>by
      rcases hor' with h|h
      ·exact hne (by rw [e]; exact h)
      ·exact hz (by rw [e]; exact h)
     rw [Fo q n1,hoth q n2]
   have hgs:GSt (upd g5 i9 (some (.obj [.v (.int .i64 x.on), .v (.int .i64 x.kind), .s x.arg] 64))) F k {t with notices:=t.notices++ [⟨t.tick,o.case,x.arg⟩]} j:=by
    refine ⟨y1,y2,y',y4,by rw [Fk,hst],gQ.bH hop fun i hi=>(nG i).1 hi,hgk,fun i b hi hb=> ?_⟩
    have n2:i≠id:=fun e=>by
     have:=(nG id).1 hid;rw [←e,hb] at this; cases this
    rw [Fo i hi,hoth i n2];exact hfr i b hi hb
   rw [←eF] at hgs;refine ⟨_, ?_,i+1,by rw [hsn]; exact hb9 hgs,by omega,rfl, ?_, ?_, ?_, ?_, ?_, ?_⟩
   ·omega
   all_goals simp only [go_sem,r0,r3,r5,r10,r11]
  ·have hge:i=l.length:=by have:=V3 e; omega
   subst hge;rw [List.take_length] at hS;simp only [go_sem];exact .same (.refl _) (hback hS)
set_option maxRecDepth 100000 in
theorem JR (s:an) (hf:Few s) (h:Heap):ak Tryz.prog 35 [cU s] h fun r h' =>∃y1 y2 y3,r= .agg (stC s y1 y2 y3 (dF s.roles))∧gQ h h' y1 y2 y3 (dF s.roles) s s.cases.length∧Ab.Sub h h' :=by
 have hst:=fM s;have hsc:∀y1 y2 y3,stC s y1 y2 y3 (dF s.roles)=stC s y1 y2 y3 (dF s.roles):=fun _ _ _=>rfl
 have hfc:=hf.cases;have hfg:=hf.log;have hfr:=hf.reviews;have hfn:=hf.notices;obtain ⟨tick,cs,rv,nt,ro,⟨pid,pset,palg,ptgt,prules,pkids,pobls⟩,ver⟩:=s;simp only at hfc hfg hfr hfn;rw [hst];simp only [sL,iY,qi,rF,dF,aV];refine ak.body hU hm Tryz.func35 rfl (by kernel_rfl) 35 rfl [.cell 2 39] rfl (VZ rfl) (fun hwf=> ?_)
 simp only [go_sem];intro i1 h1;simp only [go_sem];intro i2 h2;have n21:=aH h2;have n2:=aD h2;simp only [go_sem];obtain ⟨H,eH⟩:∃H,upd (upd h i1 (some (.obj [.v (.int .i64 tick), .sl (cs.map bJ) .no, .sl (rv.map fL) .no, .sl (nt.map ku) .no, .sl (ro.map cD) .no, .s pid, .v (.bool pset), .v (.int .i64 palg),aT ptgt, .sl (prules.map aB) .no, .sl (pkids.map aK) .no,au pobls, .v (.int .i64 ver)] 39))) i2 (some (.obj [.v (.int .i64 0), .sl [] .full, .sl [] .full, .sl [] .full, .sl [] .full, .s [], .v (.bool false), .v (.int .i64 0), .sl [] .full, .sl [] .full, .sl [] .full, .sl [] .full, .v (.int .i64 0)] 39))=H:=⟨_,rfl⟩;have hH:Ab.Sub h H:=by rw [←eH]; exact ((Sub.refl h).put h1 _).put n2 _
 have g1:H i1=some (.obj [.v (.int .i64 tick), .sl (cs.map bJ) .no, .sl (rv.map fL) .no, .sl (nt.map ku) .no, .sl (ro.map cD) .no, .s pid, .v (.bool pset), .v (.int .i64 palg),aT ptgt, .sl (prules.map aB) .no, .sl (pkids.map aK) .no,au pobls, .v (.int .i64 ver)] 39):=by rw [←eH,ag _ _ n21.symm,ah]
 have g2:H i2=some (.obj [.v (.int .i64 0), .sl [] .full, .sl [] .full, .sl [] .full, .sl [] .full, .s [], .v (.bool false), .v (.int .i64 0), .sl [] .full, .sl [] .full, .sl [] .full, .sl [] .full, .v (.int .i64 0)] 39):=by rw [←eH,ah]
 rw [eH];clear eH;refine .stage (hm1 i1 (.obj [.v (.int .i64 tick), .sl (cs.map bJ) .no, .sl (rv.map fL) .no, .sl (nt.map ku) .no, .sl (ro.map cD) .no, .s pid, .v (.bool pset), .v (.int .i64 palg),aT ptgt, .sl (prules.map aB) .no, .sl (pkids.map aK) .no,au pobls, .v (.int .i64 ver)] 39)) [0,1,3,4,6,7,2,9,5,8] [10,11,12,13,14] (.hm1 g1) (by kernel_rfl) ?_
 simp only [go_sem,fJ];refine (tH _ (rv.map fL) H (eC fL 7 (fun _=>rfl) _ _) (by simpa using hfr)).mono fun z2 H1 ⟨o2,s1⟩=> ?_
 refine ⟨.hm1 (s1 _ _ g1), ?_⟩;simp only [go_sem];refine (tG _ (nt.map ku) H1 (eC ku 3 (fun _=>rfl) _ _) (by simpa using hfn)).mono fun z3 H2 ⟨o3,s2⟩=> ?_
 refine ⟨.hm1 (s2 _ _ (s1 _ _ g1)), ?_⟩;simp only [go_sem];refine (xY _ (cs.map bJ) H2 (eC bJ 5 (fun _=>rfl) _ _) (by simpa using hfc)).mono fun z1 H3 ⟨o1,s3⟩=> ?_
 have s03:Ab.Sub H H3:=s1.trans (s2.trans s3);have q1' :=s03 _ _ g1;have q2' :=s03 _ _ g2;refine ⟨.hm1 q1',cN,(fun _ _ e=>by cases e), ?_⟩
 simp only [go_sem,q1',o1.rd.fit,o1.rd.cells,o2.rd.fit,o2.rd.cells,o3.rd.fit,o3.rd.cells];refine ⟨fun _ _ e=>(by cases e),fun _ _ e=>(by cases e),fun _ _ e=>(by cases e), ?_⟩
 obtain ⟨M,eM⟩:∃M,upd H3 i1 (some (.obj [.v (.int .i64 tick),z1,z2,z3, .sl (ro.map cD) .no, .s pid, .v (.bool pset), .v (.int .i64 palg),aT ptgt, .sl (prules.map aB) .no, .sl (pkids.map aK) .no,au pobls, .v (.int .i64 ver)] 39))=M:=⟨_,rfl⟩;have oM:∀q,q≠i1→M q=H3 q:=fun q hq=>by rw [←eM,ag _ _ hq]
 have m1:M i1=some (.obj [.v (.int .i64 tick),z1,z2,z3, .sl (ro.map cD) .no, .s pid, .v (.bool pset), .v (.int .i64 palg),aT ptgt, .sl (prules.map aB) .no, .sl (pkids.map aK) .no,au pobls, .v (.int .i64 ver)] 39):=by rw [←eM,ah]
 have m2:=(oM i2 n21).trans q2';have hM:Ab.Sub h M:=by rw [←eM]; exact (hH.trans s03).put h1 _
 have new:∀ {tb:TypeId} {z:AV} {xs:List AV} {n:Nat} {g:Heap},OwE tb g H3 n z xs→Ab.Sub H g→OwE tb h M n z xs:=fun w hg=>(w.less (hH.trans hg)).keep fun id e=>oM id (cF (w.nid e).1 (hg _ _ g1))
 have w1:=new o1 (s1.trans s2);have w2:=new (o2.sub (s2.trans s3)) (.refl _);have w3:=new (o3.sub s3) s1;have a12:apart z1 z2:=(dP o1 (o2.there s2.some)).symm;have a13:apart z1 z3:=(dP o1 (o3.there fun k hk=>hk)).symm
 have a23:apart z2 z3:=dP o3 (o2.there fun k hk=>hk)
 simp only [go_sem,o1.rd.len,V0];rw [eM];have h12:i1≠i2:=n21.symm;refine .intro (fun m ρ G=>∃i:Nat,Ab.Sub M G∧i≤cs.length∧m=cs.length - i∧lk ρ 1=some (.ptr i1 0)∧lk ρ 2=some (.ptr i2 0)∧lk ρ 18=some z1∧lk ρ 19=some (.v (.int .i64 cs.length))∧lk ρ 20=some (.v (.int .i64 i))) cs.length ?_ ?_
 ·refine ⟨0, .refl _,by omega,rfl, ?_, ?_, ?_, ?_, ?_⟩<;>simp only [go_sem]
 ·rintro m ρ G ⟨i,hs,hi,rfl,r1,r2,r18,r19,r20⟩
  have v1:=w1.sub hs;simp only [go_sem,r19,r20];refine .intro (fun e=> ?_) (fun e=> ?_)
  ·have hlt:i<cs.length:=V7 e
   have w1' :IntKind.i64.wrap ((i:Int)+1)=((i+1:Nat):Int):=by rw [bx _ (by omega)]; omega
   have hfl:=hfg _ (V5 hlt);have hxi:(cs.map bJ)[i]'(by simpa using hlt)=bJ cs[i]:=V1 ..
   simp only [go_sem,r18,r20];refine v1.rd.idx (U:=U) (e:=78) i rfl (by simpa using hlt) l8 (by decide) fun p hp1=> ?_
   have hld:=hp1.all (U:=U) (ty:=78) (by simp only [go_sem]) (by rw [l8,hxi]; rfl) (by simp only [go_sem]; rw [hxi]; rfl)
   obtain ⟨c,ec⟩:∃c,cs[i]=c:=⟨_,rfl⟩;rw [hxi,ec] at hld;rw [ec] at hfl hxi;simp only [bJ,kZ,fG,pX] at hld;simp only [go_sem,hld];intro i4 h4;have k1:=hs _ _ m1;have n41:i4≠i1:=cF h4 k1;obtain ⟨G4,eG4⟩:∃G4,upd G i4 (some (.obj [.s c.id, .s c.owner, .s c.state, .sl (c.fields.map bw) .no, .sl (c.log.map fF) .no] 78))=G4:=⟨_,rfl⟩;have sG:Ab.Sub G G4:=by rw [←eG4]; exact .ai h4
   have p1:=sG _ _ k1;have p4:G4 i4=some (.obj [.s c.id, .s c.owner, .s c.state, .sl (c.fields.map bw) .no, .sl (c.log.map fF) .no] 78):=by rw [←eG4,ah]
   simp only [go_sem];rw [eG4];refine .stage (hm2 i1 (.obj [.v (.int .i64 tick),z1,z2,z3, .sl (ro.map cD) .no, .s pid, .v (.bool pset), .v (.int .i64 palg),aT ptgt, .sl (prules.map aB) .no, .sl (pkids.map aK) .no,au pobls, .v (.int .i64 ver)] 39) i4 (.obj [.s c.id, .s c.owner, .s c.state, .sl (c.fields.map bw) .no, .sl (c.log.map fF) .no] 78)) [0,1,2,3,4,5,6,7] [8] (.hm2 p1 p4) (by kernel_rfl) ?_
   simp only [go_sem,r1,ry _ _ n41.symm,rz];refine (uA _ (c.log.map fF) G4 (eC fF 3 (fun _=>rfl) _ _) (by simpa using hfl) (bn (fun _=>rfl) _)).pthen ?_
   refine ⟨.hm2 p1 p4, ?_⟩;simp only [go_sem];obtain ⟨id1,hg1,u1⟩:=(v1.sub sG).ow (by intro e; rw [List.map_eq_nil_iff] at e; rw [e] at hlt; cases hlt)
   refine u1.idx (U:=U) (e:=78) i rfl (by simpa using hlt) l8 (by decide) ?_
   simp only [go_sem];refine ⟨cN,(fun _ _ e=>by cases e), ?_⟩
   have u1' :=u1;obtain ⟨cap,rest,ey,hid,hr,hcap,hsz⟩:=u1';have hbd:i*5+5≤(aq (cs.map bJ)++rest).length:=by
    rw [V4,aW hsz,V0]; omega
   have e5:List.take (i*5+4) (aq (cs.map bJ)++rest)++ [.sl (c.log.map fF) .no]++List.drop (i*5+4+1) (aq (cs.map bJ)++rest)=aq (cs.map bJ)++rest:=by
    refine (j5 hsz i (by simpa using hlt) 4 [.sl (c.log.map fF) .no] (VZ rfl)).trans ?_
    rw [o8];rw [List.getElem?_eq_getElem (by simpa using hlt),hxi]; rfl
   simp only [go_sem,r20,hid];rw [e5,tg hid];refine ⟨by omega,(fun _ _ e=>by cases e), ?_⟩
   simp only [go_sem,w1'];refine ⟨_, ?_,i+1,hs.trans sG,by omega,rfl, ?_, ?_, ?_, ?_, ?_⟩
   ·omega
   all_goals simp only [go_sem,r1,r2,r18,r19]
  ·have hge:i=cs.length:=by have:=V3 e; omega
   have k1:=hs _ _ m1;have k2:=hs _ _ m2;have n21' :i2≠i1:=n21;simp only [go_sem,r1,r2,k1,k2];have kp:∀b q,h q=none→M q≠none→q≠i2→upd G i2 b q=M q:=fun b q a c d=>by
    rw [ag _ _ d];cases hh:M q with
    |none=>exact (c hh).elim
    |some b=>exact hs _ _ hh
   have ne2:∀ {tb:TypeId} {z:AV} {xs:List AV} {n:Nat},OwE tb h M n z xs→tb≠39→∀q,nid z=some q→q≠i2:=fun w ht q e=>kD (w.nid e).2.2 m2 ht.symm
   refine .mk _ (.refl _) (.refl _) ⟨z1,z2,z3,by simp [stC,fB,aV]<;>rfl,⟨⟨cs.map bJ,w1.keep fun q e=>kp _ q (w1.nid e).1 (w1.nid e).2.1 (ne2 w1 (by decide) q e),by simp,fun j a b _=>V1 ..,fun a b=>absurd b (Nat.lt_irrefl _)⟩,w2.keep fun q e=>kp _ q (w2.nid e).1 (w2.nid e).2.1 (ne2 w2 (by decide) q e),w3.keep fun q e=>kp _ q (w3.nid e).1 (w3.nid e).2.1 (ne2 w3 (by decide) q e), .inl rfl,a12,a13,fun q _ e=>(by cases e),a23,fun q _ e=>(by cases e),fun q _ e=>(by cases e)⟩,(hM.trans hs).put n2 _⟩
end Go.Proofs.YtnlbeamjpefpfaaGreatDoor
namespace Go.Bf
open Go Go.Ab Go.Proofs.YtnlbeamjpefpfaaGreatDoor
def IC (r:nV):List AV:= [.v (.int .i64 r.err),aP r.mark, .v (.bool r.glass), .v (.int .i64 r.val.kind), .v (.int .i64 r.val.n), .s r.val.s, .v (.bool r.hidden), .v (.int .i64 r.at_)]
def zC (d:EC):List AV:=opC d.op++ [.v (.int .i64 d.version),aP d.mark, .v (.bool d.glass),au d.obls]
def fI (x:an×nV×EC×Int):AV:= .tup [cU x.1, .agg (IC x.2.1), .agg (zC x.2.2.1), .v (.int .i64 x.2.2.2)]
theorem yg {cs ds:List aJ} (h:ds.map (·.id)=cs.map (·.id)) (id:Txt):findD ds id=findD cs id:=by
 have e:∀l:List aJ,findD l id=(l.map (·.id)).findIdx fun x=>geB x id:=fun l=>by
  unfold findD;rw [List.findIdx_map];rfl
 rw [e,e,h]
theorem Hv (id:Txt):geB id id=true:=by
 have:Op.bytesLess id id=false:=by simpa [lt] using lt_irrefl id
 simp [geB,this]
theorem EV {s:an} {o:OpD} (hr:bI s o=0):findD (dK aR s o).cases o.case=findD s.cases o.case:=by
 unfold dK;rw [if_pos hr];unfold doD
 by_cases k1:o.kind=1
 ·simp only [k1,if_true]
  obtain ⟨f,ef⟩:∃f,findD s.cases o.case=f:=⟨_,rfl⟩;have hf:f≤s.cases.length:=by rw [←ef]; exact List.findIdx_le_length
  rw [ef];unfold findD;refine (List.findIdx_eq (by simp; omega)).2 ⟨?_,fun j hj=> ?_⟩
  ·have:((List.take f s.cases++ [iH s ⟨o.case,o.subj,gI,[],[]⟩ o.subj [110,101,119]]++List.drop f s.cases)[f]?)=some (iH s ⟨o.case,o.subj,gI,[],[]⟩ o.subj [110,101,119]):=by
    rw [List.append_assoc,List.getElem?_append_right (by simp; omega)]
    simp [Nat.min_eq_left hf]
   rw [(List.getElem_eq_iff _).2 this];exact Hv _
  ·have hj2:j<s.cases.length:=by omega
   have:((List.take f s.cases++ [iH s ⟨o.case,o.subj,gI,[],[]⟩ o.subj [110,101,119]]++List.drop f s.cases)[j]?)=some s.cases[j]:=by
    rw [List.append_assoc,List.getElem?_append_left (by simp; omega),List.getElem?_take,if_pos hj,List.getElem?_eq_getElem hj2]
   rw [(List.getElem_eq_iff _).2 this];have h3:j<s.cases.findIdx fun c=>geB c.id o.case:=by show j<findD s.cases o.case; omega
   simpa using List.not_of_lt_findIdx h3
 ·by_cases k3:o.kind=3
  ·simp only [k3,show¬(3:Int)=1 by decide,if_false,if_true]
   exact yg (jF (f:=fun c=>iH s {c with fields:=eL c.fields o.field o.val} o.subj [119,114,105,116,101]) (g:=fun c:aJ=>c.id) fun c=>rfl) _
  ·by_cases k4:o.kind=4
   ·simp only [k4,show¬(4:Int)=1 by decide,show¬(4:Int)=3 by decide,if_false,if_true]
    exact yg (jF (f:=fun c=>iH s {c with state:=o.to} o.subj o.to) (g:=fun c:aJ=>c.id) fun c=>rfl) _
   ·simp only [k1,k3,k4,if_false]
    split
    ·rfl
    ·split
     ·split<;>rfl
     ·split
      ·split<;>rfl
      ·split<;>rfl
theorem JL {k:Nat} {s:an} {o:OpD} (h:cW k s) (hr:bI s o=0) (hx:gF (dK aR s o).cases o.case<(dK aR s o).cases.length):findD s.cases o.case=gF (dK aR s o).cases o.case:=by
 rw [←EV hr];exact CX (ny o h).asc hx
theorem FP {t:Txt} (h:(aR t).2.1=0):(aR t).2.2=0:=by
 unfold aR at h⊢;cases hl:qE t with
 |bad e a=>
  rw [hl] at h;simp only at h;have:=(vW hl).1;omega
 |ok ts=>
  rw [hl] at h;simp only [wD] at h⊢;split at h
  ·rename_i hb; rw [if_pos hb]
  ·rename_i hb; exact (hb h).elim
end Go.Bf
namespace Go.Proofs.YtnlbeamjpefpfaaGreatDoor
open Go Go.Ab Go.Bf
theorem FT (c:aJ):cC (bJ c)=true:=by
 simp [bJ,kZ,cC,gy,fG,pX,bn (f:=bw) (fun _=>rfl),bn (f:=fF) (fun _=>rfl)]
theorem Mh {g h:Heap} (s:an):Frz g h (cU s) (cU s):=by
 have:=sD (g:=g) (h:=h) (s:=s) (y1:=iY s.cases) (y2:=qi s.reviews) (y3:=rF s.notices) (y4:=dF s.roles) (.pure (by simp only [iY,cC]; exact bn FT _)) (.pure (by simp only [qi,cC]; exact bn (fun _=>rfl) _)) (.pure (by simp only [rF,cC]; exact bn (fun _=>rfl) _)) (.pure (by simp only [dF,cC]; exact bn (fun _=>rfl) _))
 exact this
theorem Ht {g h:Heap} (l:List cw) (q:Perm):Frz g h (.sl (l.map bf) q) (au l):= .sl _ _ _ rfl (fun _ _ _=>rfl) fun i h1 h2 j h3 h4=>by
 refine .pure ?_;have:cC (l.map bf)[i]=true:=by rw [V1]; rfl
 exact lX this _ (V5 h3)
theorem yj {g h:Heap} {x:AV} {S:an} (r:nV) (d:EC) (e:Int) (a:Frz g h x (cU S)) (q:Perm):Frz g h (.tup [x, .agg (IC r), .agg (opC d.op++ [.v (.int .i64 d.version),aP d.mark, .v (.bool d.glass), .sl (d.obls.map bf) q]), .v (.int .i64 e)]) (fI (S,r,d,e)):=by
 refine .tup _ _ rfl fun i h1 h2=> ?_
 rcases i with _|_|_|_|i
 ·exact a
 ·exact .pure rfl
 ·refine .agg _ _ (by simp [zC]) fun j h3 h4=> ?_
  rcases j with _|_|_|_|_|_|_|_|_|_|_|_|_|_|_|_|j
  ·exact .pure rfl
  ·exact .pure rfl
  ·exact .pure rfl
  ·exact .pure rfl
  ·exact .pure rfl
  ·exact .pure rfl
  ·exact .pure rfl
  ·exact .pure rfl
  ·exact .pure rfl
  ·exact .pure rfl
  ·exact .pure rfl
  ·exact .pure rfl
  ·exact .pure rfl
  ·exact .pure rfl
  ·exact .pure rfl
  ·exact Ht d.obls q
  ·simp [opC] at h3; omega
 ·exact .pure rfl
 ·simp at h1; omega
theorem GSt.put {g H:Heap} {k:Nat} {s:an} {j:Nat} (hG:GSt g H k s j) {i:Nat} (hi:i≠k) (hgi:g i≠none) (b:Blk):GSt (upd g i (some b)) (upd H i (some b)) k s j:=by
 obtain ⟨y1,y2,y3,y4,hk,ho,hgk,hfr⟩:=hG;have hn:∀q,g q=none→q≠i:=fun q hq e=>hgi (by rw [←e]; exact hq)
 refine ⟨y1,y2,y3,y4,by rw [ag _ _ hi.symm]; exact hk,(ho.more (g:=upd g i (some b)) fun q hq _=>by rw [ag _ _ (hn q hq)]; exact hq).keep fun q hq _=>ag _ _ fun e=> ?_,by rw [ag _ _ hi.symm]; exact hgk,fun q c hq hc=> ?_⟩
 ·rw [e,ah] at hq; cases hq
 ·by_cases e:q=i
  ·subst e; rw [ah] at hc⊢; exact hc
  ·rw [ag _ _ e] at hc⊢; exact hfr q c hq hc
theorem GSt.at {g H:Heap} {k:Nat} {s:an} {j:Nat} (hG:GSt g H k s j) {i:Nat} {b:Blk} (hi:i≠k) (hb:g i=some b):H i=some b:=by
 obtain ⟨_,_,_,_,_,_,_,hfr⟩:=hG;exact hfr i b hi hb
theorem GSt.sub {f g H:Heap} {k:Nat} {s:an} {j:Nat} (hG:GSt g H k s j) (hs:Ab.Sub f g) (hk:f k=none):Ab.Sub f H:=fun i b hi=>by
 obtain ⟨_,_,_,_,_,_,_,hfr⟩:=hG;exact hfr i b (fun e=>by rw [e,hk] at hi; cases hi) (hs i b hi)
theorem GSt.same {g H H' :Heap} {k:Nat} {s:an} {j:Nat} (hG:GSt g H k s j) (hs:Ab.Sub H H'):GSt g H' k s j:=by
 obtain ⟨y1,y2,y3,y4,hk,ho,hgk,hfr⟩:=hG;exact ⟨y1,y2,y3,y4,hs _ _ hk,ho.keep fun q _ hne=>by
  cases hh:H q with
  |none=>exact (hne hh).elim
  |some b=>exact hs _ _ hh,hgk,fun i b hi hb=>hs _ _ (hfr i b hi hb)⟩
theorem pg {s:an} {pid:Txt} {pset:Bool} {palg:Int} {ptgt:fP} {prules:List cO} {pkids:List bG} {pobls:List cw} (hpp:s.policy= .mk pid pset palg ptgt prules pkids pobls) (y1 y2 y3 y4:AV):stC s y1 y2 y3 y4= [.v (.int .i64 s.tick),y1,y2,y3,y4, .s pid, .v (.bool pset), .v (.int .i64 palg), .sl (ptgt.map cH) .no, .sl (prules.map aB) .no, .sl (pkids.map aK) .no, .sl (pobls.map bf) .no, .v (.int .i64 s.version)]:=by
 simp [stC,hpp,fB,aV,aT,au]
theorem Iv (p:bG):∃a b c d e f g,p= .mk a b c d e f g:=by cases p; exact ⟨_,_,_,_,_,_,_,rfl⟩
set_option maxRecDepth 100000 in
theorem jC {k:Nat} (s:an) (hG:mc k s) (hk:k≤1000) (o:OpD) (ho:zj o) (h:Heap) (he:qq h):ak Tryz.prog 13 [cU s,opA o] h fun r h' =>r=fI (bt s o)∧h' =h:=
 ak.freeze fun g hg _=>by
 replace he:=he.sub hg;obtain ⟨pid,pset,palg,ptgt,prules,pkids,pobls,hpp⟩:∃a b c d e f g,s.policy= .mk a b c d e f g:=by cases s.policy; exact ⟨_,_,_,_,_,_,_,rfl⟩
 have hst:cU s= .agg [.v (.int .i64 s.tick), .sl (s.cases.map bJ) .no, .sl (s.reviews.map fL) .no, .sl (s.notices.map ku) .no, .sl (s.roles.map cD) .no, .s pid, .v (.bool pset), .v (.int .i64 palg), .sl (ptgt.map cH) .no, .sl (prules.map aB) .no, .sl (pkids.map aK) .no, .sl (pobls.map bf) .no, .v (.int .i64 s.version)]:=by
  simp [cU,fB,hpp,iY,qi,rF,dF,aV,aT,au]
 rw [hst];refine ak.of_wp hU Tryz.func13 rfl (by kernel_rfl) 131 rfl [.cell 4 39, .cell 5 46, .cell 6 48, .tmp 7] rfl (VZ rfl) ?_
 refine .one hU hm ?_;simp -implicitDefEqProofs only [go_sem,opA,opC];intro i2 h2;simp -implicitDefEqProofs only [go_sem];obtain ⟨H2,e2⟩:∃H2,upd g i2 (some (.obj [.v (.int .i64 s.tick), .sl (s.cases.map bJ) .no, .sl (s.reviews.map fL) .no, .sl (s.notices.map ku) .no, .sl (s.roles.map cD) .no, .s pid, .v (.bool pset), .v (.int .i64 palg), .sl (ptgt.map cH) .no, .sl (prules.map aB) .no, .sl (pkids.map aK) .no, .sl (pobls.map bf) .no, .v (.int .i64 s.version)] 39))=H2:=⟨_,rfl⟩;have s2:Ab.Sub g H2:=by rw [←e2]; exact .ai h2
 have b2:H2 i2=some (.obj [.v (.int .i64 s.tick), .sl (s.cases.map bJ) .no, .sl (s.reviews.map fL) .no, .sl (s.notices.map ku) .no, .sl (s.roles.map cD) .no, .s pid, .v (.bool pset), .v (.int .i64 palg), .sl (ptgt.map cH) .no, .sl (prules.map aB) .no, .sl (pkids.map aK) .no, .sl (pobls.map bf) .no, .v (.int .i64 s.version)] 39):=by rw [←e2,ah]
 have q2:g i2=none:=h2;have sg:Ab.Sub g H2:=s2;rw [e2];clear e2;intro i3 h3;simp -implicitDefEqProofs only [go_sem];obtain ⟨H3,e3⟩:∃H3,upd H2 i3 (some (.obj [.v (.int .i64 o.kind), .s o.subj, .s o.case, .s o.field, .s o.to, .v (.int .i64 o.val.kind), .v (.int .i64 o.val.n), .s o.val.s, .v (.int .i64 o.review), .s o.text, .s o.reason, .v (.bool o.glass)] 26))=H3:=⟨_,rfl⟩;have s3:Ab.Sub H2 H3:=by rw [←e3]; exact .ai h3
 have n3_2:i3≠i2:=fun e=>by rw [e,b2] at h3; cases h3
 replace b2:=s3 _ _ b2;have b3:H3 i3=some (.obj [.v (.int .i64 o.kind), .s o.subj, .s o.case, .s o.field, .s o.to, .v (.int .i64 o.val.kind), .v (.int .i64 o.val.n), .s o.val.s, .v (.int .i64 o.review), .s o.text, .s o.reason, .v (.bool o.glass)] 26):=by rw [←e3,ah]
 have q3:g i3=none:=sg.none h3;have sg:Ab.Sub g H3:=sg.trans s3;rw [e3];clear e3;intro i4 h4;simp -implicitDefEqProofs only [go_sem];obtain ⟨H4,e4⟩:∃H4,upd H3 i4 (some (.obj [.v (.int .i64 0), .sl [] .full, .sl [] .full, .sl [] .full, .sl [] .full, .s [], .v (.bool false), .v (.int .i64 0), .sl [] .full, .sl [] .full, .sl [] .full, .sl [] .full, .v (.int .i64 0)] 39))=H4:=⟨_,rfl⟩;have s4:Ab.Sub H3 H4:=by rw [←e4]; exact .ai h4
 have n4_2:i4≠i2:=fun e=>by rw [e,b2] at h4; cases h4
 have n4_3:i4≠i3:=fun e=>by rw [e,b3] at h4; cases h4
 replace b2:=s4 _ _ b2;replace b3:=s4 _ _ b3;have b4:H4 i4=some (.obj [.v (.int .i64 0), .sl [] .full, .sl [] .full, .sl [] .full, .sl [] .full, .s [], .v (.bool false), .v (.int .i64 0), .sl [] .full, .sl [] .full, .sl [] .full, .sl [] .full, .v (.int .i64 0)] 39):=by rw [←e4,ah]
 have q4:g i4=none:=sg.none h4;have sg:Ab.Sub g H4:=sg.trans s4;rw [e4];clear e4;intro i5 h5;simp -implicitDefEqProofs only [go_sem];obtain ⟨H5,e5⟩:∃H5,upd H4 i5 (some (.obj [.v (.int .i64 0), .v (.complex .f64 0 0), .v (.bool false), .v (.int .i64 0), .v (.int .i64 0), .s [], .v (.bool false), .v (.int .i64 0)] 46))=H5:=⟨_,rfl⟩;have s5:Ab.Sub H4 H5:=by rw [←e5]; exact .ai h5
 have n5_2:i5≠i2:=fun e=>by rw [e,b2] at h5; cases h5
 have n5_3:i5≠i3:=fun e=>by rw [e,b3] at h5; cases h5
 have n5_4:i5≠i4:=fun e=>by rw [e,b4] at h5; cases h5
 replace b2:=s5 _ _ b2;replace b3:=s5 _ _ b3;replace b4:=s5 _ _ b4;have b5:H5 i5=some (.obj [.v (.int .i64 0), .v (.complex .f64 0 0), .v (.bool false), .v (.int .i64 0), .v (.int .i64 0), .s [], .v (.bool false), .v (.int .i64 0)] 46):=by rw [←e5,ah]
 have q5:g i5=none:=sg.none h5;have sg:Ab.Sub g H5:=sg.trans s5;rw [e5];clear e5;intro i6 h6;simp -implicitDefEqProofs only [go_sem];obtain ⟨H6,e6⟩:∃H6,upd H5 i6 (some (.obj [.v (.int .i64 0), .s [], .s [], .s [], .s [], .v (.int .i64 0), .v (.int .i64 0), .s [], .v (.int .i64 0), .s [], .s [], .v (.bool false), .v (.int .i64 0), .v (.complex .f64 0 0), .v (.bool false), .sl [] .full] 48))=H6:=⟨_,rfl⟩;have s6:Ab.Sub H5 H6:=by rw [←e6]; exact .ai h6
 have n6_2:i6≠i2:=fun e=>by rw [e,b2] at h6; cases h6
 have n6_3:i6≠i3:=fun e=>by rw [e,b3] at h6; cases h6
 have n6_4:i6≠i4:=fun e=>by rw [e,b4] at h6; cases h6
 have n6_5:i6≠i5:=fun e=>by rw [e,b5] at h6; cases h6
 replace b2:=s6 _ _ b2;replace b3:=s6 _ _ b3;replace b4:=s6 _ _ b4;replace b5:=s6 _ _ b5;have b6:H6 i6=some (.obj [.v (.int .i64 0), .s [], .s [], .s [], .s [], .v (.int .i64 0), .v (.int .i64 0), .s [], .v (.int .i64 0), .s [], .s [], .v (.bool false), .v (.int .i64 0), .v (.complex .f64 0 0), .v (.bool false), .sl [] .full] 48):=by rw [←e6,ah]
 have q6:g i6=none:=sg.none h6;have sg:Ab.Sub g H6:=sg.trans s6;rw [e6];clear e6;refine WP.IP hU hm 0 (fun (_:Nat) (ρ:Env) (H' :Heap)=>∃(e a:Int),Ab.Sub g H'∧H' i2=some (.obj [.v (.int .i64 s.tick), .sl (s.cases.map bJ) .no, .sl (s.reviews.map fL) .no, .sl (s.notices.map ku) .no, .sl (s.roles.map cD) .no, .s pid, .v (.bool pset), .v (.int .i64 palg), .sl (ptgt.map cH) .no, .sl (prules.map aB) .no, .sl (pkids.map aK) .no, .sl (pobls.map bf) .no, .v (.int .i64 s.version)] 39)∧H' i4=some (.obj [.v (.int .i64 0), .sl [] .full, .sl [] .full, .sl [] .full, .sl [] .full, .s [], .v (.bool false), .v (.int .i64 0), .sl [] .full, .sl [] .full, .sl [] .full, .sl [] .full, .v (.int .i64 0)] 39)∧H' i5=some (.obj [.v (.int .i64 0), .v (.complex .f64 0 0), .v (.bool false), .v (.int .i64 0), .v (.int .i64 0), .s [], .v (.bool false), .v (.int .i64 0)] 46)∧H' i6=some (.obj [.v (.int .i64 0), .s [], .s [], .s [], .s [], .v (.int .i64 0), .v (.int .i64 0), .s [], .v (.int .i64 0), .s [], .s [], .v (.bool false), .v (.int .i64 0), .v (.complex .f64 0 0), .v (.bool false), .sl [] .full] 48)∧lk ρ 2=some (.ptr i2 0)∧lk ρ 4=some (.ptr i4 0)∧lk ρ 5=some (.ptr i5 0)∧lk ρ 6=some (.ptr i6 0)∧lk ρ 12=some (.v (.int .i64 e))∧lk ρ 13=some (.v (.int .i64 a))∧bt s o=(s,⟨e,naM,false,ay,false,a⟩,pS,e)) rfl ?_ ?_
 ·rintro m ρ H' ⟨e,a,sg',b2,b4,b5,b6,r2,r4,r5,r6,r12,r13,hgd⟩
  refine .vc hU hm ?_;simp -implicitDefEqProofs only [go_sem,r2,r4,r5,r6,r12,r13,b2,b4,b5,b6,aj,n5_4,n5_4.symm,n6_4,n6_4.symm,n6_5,n6_5.symm];refine .mk _ (.refl _) (.refl _) ⟨((sg'.put q4 _).put q5 _).put q6 _,_, ?_,rfl⟩;rw [hgd];exact yj (S:=s) ⟨e,naM,false,ay,false,a⟩ pS e (by rw [←hst]; exact Mh s) .full
 intro _;refine .one hU hm ?_;simp -implicitDefEqProofs only [go_sem];intro i8 h8;simp -implicitDefEqProofs only [go_sem];obtain ⟨H8,e8⟩:∃H8,upd H6 i8 (some (.obj [.v (.complex .f64 0 0), .sl [] .full] 57))=H8:=⟨_,rfl⟩;have s8:Ab.Sub H6 H8:=by rw [←e8]; exact .ai h8
 have n8_2:i8≠i2:=fun e=>by rw [e,b2] at h8; cases h8
 have n8_3:i8≠i3:=fun e=>by rw [e,b3] at h8; cases h8
 have n8_4:i8≠i4:=fun e=>by rw [e,b4] at h8; cases h8
 have n8_5:i8≠i5:=fun e=>by rw [e,b5] at h8; cases h8
 have n8_6:i8≠i6:=fun e=>by rw [e,b6] at h8; cases h8
 replace b2:=s8 _ _ b2;replace b3:=s8 _ _ b3;replace b4:=s8 _ _ b4;replace b5:=s8 _ _ b5;replace b6:=s8 _ _ b6;have b8:H8 i8=some (.obj [.v (.complex .f64 0 0), .sl [] .full] 57):=by rw [←e8,ah]
 have q8:g i8=none:=sg.none h8;have sg:Ab.Sub g H8:=sg.trans s8;rw [e8];clear e8;refine .one hU hm ?_;simp -implicitDefEqProofs only [go_sem];intro i9 h9;simp -implicitDefEqProofs only [go_sem];obtain ⟨H9,e9⟩:∃H9,upd H8 i9 (some (.obj [.v (.int .i64 0), .v (.complex .f64 0 0), .v (.bool false), .v (.int .i64 0), .v (.int .i64 0), .s [], .v (.bool false), .v (.int .i64 0)] 46))=H9:=⟨_,rfl⟩;have s9:Ab.Sub H8 H9:=by rw [←e9]; exact .ai h9
 have n9_2:i9≠i2:=fun e=>by rw [e,b2] at h9; cases h9
 have n9_3:i9≠i3:=fun e=>by rw [e,b3] at h9; cases h9
 have n9_4:i9≠i4:=fun e=>by rw [e,b4] at h9; cases h9
 have n9_5:i9≠i5:=fun e=>by rw [e,b5] at h9; cases h9
 have n9_6:i9≠i6:=fun e=>by rw [e,b6] at h9; cases h9
 have n9_8:i9≠i8:=fun e=>by rw [e,b8] at h9; cases h9
 replace b2:=s9 _ _ b2;replace b3:=s9 _ _ b3;replace b4:=s9 _ _ b4;replace b5:=s9 _ _ b5;replace b6:=s9 _ _ b6;replace b8:=s9 _ _ b8;have b9:H9 i9=some (.obj [.v (.int .i64 0), .v (.complex .f64 0 0), .v (.bool false), .v (.int .i64 0), .v (.int .i64 0), .s [], .v (.bool false), .v (.int .i64 0)] 46):=by rw [←e9,ah]
 have q9:g i9=none:=sg.none h9;have sg:Ab.Sub g H9:=sg.trans s9;rw [e9];clear e9;refine .one hU hm ?_;simp -implicitDefEqProofs only [go_sem];intro i10 h10;simp -implicitDefEqProofs only [go_sem];obtain ⟨H10,e10⟩:∃H10,upd H9 i10 (some (.obj [.v (.int .i64 0), .sl [] .full, .sl [] .full, .sl [] .full, .sl [] .full, .s [], .v (.bool false), .v (.int .i64 0), .sl [] .full, .sl [] .full, .sl [] .full, .sl [] .full, .v (.int .i64 0)] 39))=H10:=⟨_,rfl⟩;have s10:Ab.Sub H9 H10:=by rw [←e10]; exact .ai h10
 have n10_2:i10≠i2:=fun e=>by rw [e,b2] at h10; cases h10
 have n10_3:i10≠i3:=fun e=>by rw [e,b3] at h10; cases h10
 have n10_4:i10≠i4:=fun e=>by rw [e,b4] at h10; cases h10
 have n10_5:i10≠i5:=fun e=>by rw [e,b5] at h10; cases h10
 have n10_6:i10≠i6:=fun e=>by rw [e,b6] at h10; cases h10
 have n10_8:i10≠i8:=fun e=>by rw [e,b8] at h10; cases h10
 have n10_9:i10≠i9:=fun e=>by rw [e,b9] at h10; cases h10
 replace b2:=s10 _ _ b2;replace b3:=s10 _ _ b3;replace b4:=s10 _ _ b4;replace b5:=s10 _ _ b5;replace b6:=s10 _ _ b6;replace b8:=s10 _ _ b8;replace b9:=s10 _ _ b9;have b10:H10 i10=some (.obj [.v (.int .i64 0), .sl [] .full, .sl [] .full, .sl [] .full, .sl [] .full, .s [], .v (.bool false), .v (.int .i64 0), .sl [] .full, .sl [] .full, .sl [] .full, .sl [] .full, .v (.int .i64 0)] 39):=by rw [←e10,ah]
 have q10:g i10=none:=sg.none h10;have sg:Ab.Sub g H10:=sg.trans s10;rw [e10];clear e10;refine .one hU hm ?_;simp -implicitDefEqProofs only [go_sem];have hrd:=fun G=>BT (rdS G s) o hG.few ho.2.2.2 hG.DA
 have hpa:=fun (G:Heap) (hs:Ab.Sub g G)=>wE o.text G (he.sub hs)
 rw [hst] at hrd;simp only [opA,opC] at hrd;refine .one hU hm ?_;simp -implicitDefEqProofs only [go_sem,b2,b3];refine (hrd _).pthen ?_;simp -implicitDefEqProofs only [go_sem];refine .cut (fun ρ H' =>H' =H10∧lk ρ 2=some (.ptr i2 0)∧lk ρ 3=some (.ptr i3 0)∧lk ρ 4=some (.ptr i4 0)∧lk ρ 5=some (.ptr i5 0)∧lk ρ 6=some (.ptr i6 0)∧lk ρ 8=some (.ptr i8 0)∧lk ρ 9=some (.ptr i9 0)∧lk ρ 10=some (.ptr i10 0)∧lk ρ 11=some (.v (.bool false))∧lk ρ 12=some (.v (.int .i64 (hY s o).1))∧lk ρ 13=some (.v (.int .i64 (hY s o).2))) ?_ ?_
 ·refine .vc hU hm ?_
  cases dr:(bI s o==0)
  ·have er:bI s o≠0:=by simpa using dr
   have ep:hY s o=(bI s o,0):=by unfold hY; rw [if_neg fun hh=>er hh.1]
   simp -implicitDefEqProofs only [go_sem,dr];refine ⟨rfl, ?_, ?_, ?_, ?_, ?_, ?_, ?_, ?_, ?_, ?_, ?_⟩<;>simp -implicitDefEqProofs only [go_sem,ep]
  have er:bI s o=0:=by simpa using dr
  cases d7:(o.kind==7)
  ·have e7:o.kind≠7:=by simpa using d7
   have ep:hY s o=(bI s o,0):=by unfold hY; rw [if_neg fun hh=>e7 hh.2]
   simp -implicitDefEqProofs only [go_sem,b3,dr,d7];refine ⟨rfl, ?_, ?_, ?_, ?_, ?_, ?_, ?_, ?_, ?_, ?_, ?_⟩<;>simp -implicitDefEqProofs only [go_sem,ep]
  ·have e7:o.kind=7:=by simpa using d7
   have ep:hY s o=((aR o.text).2.1,(aR o.text).2.2):=by unfold hY; rw [if_pos ⟨er,e7⟩]
   simp -implicitDefEqProofs only [go_sem,b3,dr,d7];refine (hpa _ sg).pthen ?_;obtain ⟨⟨pp,e,a⟩,epp⟩:∃x,aR o.text=x:=⟨_,rfl⟩;rw [epp] at ep;simp -implicitDefEqProofs only [go_sem,ji,epp];refine ⟨rfl, ?_, ?_, ?_, ?_, ?_, ?_, ?_, ?_, ?_, ?_, ?_⟩<;>simp -implicitDefEqProofs only [go_sem,ep]
 rintro ρ H' ⟨rfl,r2,r3,r4,r5,r6,r8,r9,r10,r11,r12,r13⟩
 refine .one hU hm ?_;cases de:((hY s o).1 !=0)
 case true=>
  have ee:(hY s o).1≠0:=by simpa using de
  simp -implicitDefEqProofs only [go_sem,r2,r4,r5,r6,r12,r13,de];exact ⟨0,(hY s o).1,(hY s o).2,sg,b2,b4,b5,b6,rfl,rfl,by unfold bt; rw [if_pos ee]⟩
 have ee:(hY s o).1=0:=by simpa using de
 simp -implicitDefEqProofs only [go_sem,r12,de];obtain ⟨hr0,hform,hpar⟩:=rS ee;have hfg:=Ao (xX hG.tocW hform);have hask:=fun G=>GL (rdS G s) o hG.few ho.1
 have hdec:=fun G=>Bb s.policy hG.pol (eE s o) hfg G
 have hm6:=uK (eE s o) s.policy;have hol:=Hl (eE s o) hG.lD;have hmk:cY s o=dU (eE s o) s.policy:=rfl;obtain ⟨⟨m,ob⟩,em⟩:∃x,dU (eE s o) s.policy=x:=⟨_,rfl⟩;rw [em] at hdec hm6 hol hmk;simp only at hm6 hol;rw [hpp] at hdec;simp only [aK,aT,au,aV,bB,rsA,aP] at hdec;rw [hst] at hask;simp only [opA,opC,bB] at hask;have p2:=(bz (H:=H') (l:= [i2,i3]) (show i2∈ [i2,i3] by simp)).trans b2
 have p3:=(bz (H:=H') (l:= [i2,i3]) (show i3∈ [i2,i3] by simp)).trans b3
 refine .one hU hm ?_;simp -implicitDefEqProofs only [go_sem];refine .calls (pick H' [i2,i3]) [0,1,2,3,4,5,6,7,8,9,10] br (by kernel_rfl) rfl ?_
 simp -implicitDefEqProofs only [go_sem,r2,r3,p2,p3];refine (hask _).pthen ?_;refine ⟨br, ?_⟩;simp -implicitDefEqProofs only [go_sem];refine (hdec _).pthen ?_;refine ⟨br, ?_⟩;simp -implicitDefEqProofs only [go_sem,r8,b8];refine ⟨br.put (by simp [pick,n8_2,n8_3]) _, ?_⟩
 obtain ⟨H11,eH11⟩:∃H11,upd H' i8 (some (.obj [.v (.complex .f64 (hbit m.1) (hbit m.2)), .sl (ob.map bf) .no] 57))=H11:=⟨_,rfl⟩;replace b2:H11 i2=some (.obj [.v (.int .i64 s.tick), .sl (s.cases.map bJ) .no, .sl (s.reviews.map fL) .no, .sl (s.notices.map ku) .no, .sl (s.roles.map cD) .no, .s pid, .v (.bool pset), .v (.int .i64 palg), .sl (ptgt.map cH) .no, .sl (prules.map aB) .no, .sl (pkids.map aK) .no, .sl (pobls.map bf) .no, .v (.int .i64 s.version)] 39):=by rw [←eH11,ag _ _ n8_2.symm]; exact b2
 replace b3:H11 i3=some (.obj [.v (.int .i64 o.kind), .s o.subj, .s o.case, .s o.field, .s o.to, .v (.int .i64 o.val.kind), .v (.int .i64 o.val.n), .s o.val.s, .v (.int .i64 o.review), .s o.text, .s o.reason, .v (.bool o.glass)] 26):=by rw [←eH11,ag _ _ n8_3.symm]; exact b3
 replace b4:H11 i4=some (.obj [.v (.int .i64 0), .sl [] .full, .sl [] .full, .sl [] .full, .sl [] .full, .s [], .v (.bool false), .v (.int .i64 0), .sl [] .full, .sl [] .full, .sl [] .full, .sl [] .full, .v (.int .i64 0)] 39):=by rw [←eH11,ag _ _ n8_4.symm]; exact b4
 replace b5:H11 i5=some (.obj [.v (.int .i64 0), .v (.complex .f64 0 0), .v (.bool false), .v (.int .i64 0), .v (.int .i64 0), .s [], .v (.bool false), .v (.int .i64 0)] 46):=by rw [←eH11,ag _ _ n8_5.symm]; exact b5
 replace b6:H11 i6=some (.obj [.v (.int .i64 0), .s [], .s [], .s [], .s [], .v (.int .i64 0), .v (.int .i64 0), .s [], .v (.int .i64 0), .s [], .s [], .v (.bool false), .v (.int .i64 0), .v (.complex .f64 0 0), .v (.bool false), .sl [] .full] 48):=by rw [←eH11,ag _ _ n8_6.symm]; exact b6
 replace b9:H11 i9=some (.obj [.v (.int .i64 0), .v (.complex .f64 0 0), .v (.bool false), .v (.int .i64 0), .v (.int .i64 0), .s [], .v (.bool false), .v (.int .i64 0)] 46):=by rw [←eH11,ag _ _ n9_8]; exact b9
 replace b10:H11 i10=some (.obj [.v (.int .i64 0), .sl [] .full, .sl [] .full, .sl [] .full, .sl [] .full, .s [], .v (.bool false), .v (.int .i64 0), .sl [] .full, .sl [] .full, .sl [] .full, .sl [] .full, .v (.int .i64 0)] 39):=by rw [←eH11,ag _ _ n10_8]; exact b10
 replace b8:H11 i8=some (.obj [.v (.complex .f64 (hbit m.1) (hbit m.2)), .sl (ob.map bf) .no] 57):=by rw [←eH11,ah]
 replace sg:Ab.Sub g H11:=by rw [←eH11]; exact sg.put q8 _
 rw [eH11];clear eH11;have hbr:=fun G=>EL s o m hm6.m9 (by have:=hG.nr; omega) (by have:=hG.roles; omega) hG.tick hG.ticks G
 rw [hst] at hbr;simp only [opA,opC,aP] at hbr;obtain ⟨gl,egl⟩:∃gl,pG s o m=gl:=⟨_,rfl⟩;have hgl:cJ s o=gl:=by unfold cJ; rw [hmk]; exact egl
 rw [egl] at hbr;have p2:=(bz (H:=H11) (l:= [i2,i3,i8]) (show i2∈ [i2,i3,i8] by simp)).trans b2
 have p3:=(bz (H:=H11) (l:= [i2,i3,i8]) (show i3∈ [i2,i3,i8] by simp)).trans b3
 have p8:=(bz (H:=H11) (l:= [i2,i3,i8]) (show i8∈ [i2,i3,i8] by simp)).trans b8
 refine .one hU hm ?_;simp -implicitDefEqProofs only [go_sem];refine .stage (pick H11 [i2,i3,i8]) [0,1,2,3,4,5,7,6] [8,9,10] br (by kernel_rfl) ?_
 simp -implicitDefEqProofs only [go_sem,r2,r3,r8,r9,p2,p3,p8];refine (hbr _).pthen ?_;refine ⟨br,cN,fun _ _ e=>(by cases e), ?_⟩
 simp -implicitDefEqProofs only [go_sem,r9,b9];refine ⟨fun _ _ e=>(by cases e),fun _ _ e=>(by cases e), ?_⟩
 obtain ⟨H12,eH12⟩:∃H12,upd H11 i9 (some (.obj [.v (.int .i64 0), .v (.complex .f64 (hbit m.1) (hbit m.2)), .v (.bool gl), .v (.int .i64 0), .v (.int .i64 0), .s [], .v (.bool false), .v (.int .i64 0)] 46))=H12:=⟨_,rfl⟩;replace b2:H12 i2=some (.obj [.v (.int .i64 s.tick), .sl (s.cases.map bJ) .no, .sl (s.reviews.map fL) .no, .sl (s.notices.map ku) .no, .sl (s.roles.map cD) .no, .s pid, .v (.bool pset), .v (.int .i64 palg), .sl (ptgt.map cH) .no, .sl (prules.map aB) .no, .sl (pkids.map aK) .no, .sl (pobls.map bf) .no, .v (.int .i64 s.version)] 39):=by rw [←eH12,ag _ _ n9_2.symm]; exact b2
 replace b3:H12 i3=some (.obj [.v (.int .i64 o.kind), .s o.subj, .s o.case, .s o.field, .s o.to, .v (.int .i64 o.val.kind), .v (.int .i64 o.val.n), .s o.val.s, .v (.int .i64 o.review), .s o.text, .s o.reason, .v (.bool o.glass)] 26):=by rw [←eH12,ag _ _ n9_3.symm]; exact b3
 replace b4:H12 i4=some (.obj [.v (.int .i64 0), .sl [] .full, .sl [] .full, .sl [] .full, .sl [] .full, .s [], .v (.bool false), .v (.int .i64 0), .sl [] .full, .sl [] .full, .sl [] .full, .sl [] .full, .v (.int .i64 0)] 39):=by rw [←eH12,ag _ _ n9_4.symm]; exact b4
 replace b5:H12 i5=some (.obj [.v (.int .i64 0), .v (.complex .f64 0 0), .v (.bool false), .v (.int .i64 0), .v (.int .i64 0), .s [], .v (.bool false), .v (.int .i64 0)] 46):=by rw [←eH12,ag _ _ n9_5.symm]; exact b5
 replace b6:H12 i6=some (.obj [.v (.int .i64 0), .s [], .s [], .s [], .s [], .v (.int .i64 0), .v (.int .i64 0), .s [], .v (.int .i64 0), .s [], .s [], .v (.bool false), .v (.int .i64 0), .v (.complex .f64 0 0), .v (.bool false), .sl [] .full] 48):=by rw [←eH12,ag _ _ n9_6.symm]; exact b6
 replace b8:H12 i8=some (.obj [.v (.complex .f64 (hbit m.1) (hbit m.2)), .sl (ob.map bf) .no] 57):=by rw [←eH12,ag _ _ n9_8.symm]; exact b8
 replace b10:H12 i10=some (.obj [.v (.int .i64 0), .sl [] .full, .sl [] .full, .sl [] .full, .sl [] .full, .s [], .v (.bool false), .v (.int .i64 0), .sl [] .full, .sl [] .full, .sl [] .full, .sl [] .full, .v (.int .i64 0)] 39):=by rw [←eH12,ag _ _ n10_9]; exact b10
 replace b9:H12 i9=some (.obj [.v (.int .i64 0), .v (.complex .f64 (hbit m.1) (hbit m.2)), .v (.bool gl), .v (.int .i64 0), .v (.int .i64 0), .s [], .v (.bool false), .v (.int .i64 0)] 46):=by rw [←eH12,ah]
 replace sg:Ab.Sub g H12:=by rw [←eH12]; exact sg.put q9 _
 rw [eH12];clear eH12;obtain ⟨dn,edn⟩:∃dn,(decide (m=aM)||gl)=dn:=⟨_,rfl⟩
 have hdn:ld s o=dn:=by unfold ld; rw [hmk,hgl]; exact edn
 have pe:=(nb hm6.m9).pe;refine .cut (fun ρ H' =>H' =H12∧lk ρ 2=some (.ptr i2 0)∧lk ρ 3=some (.ptr i3 0)∧lk ρ 4=some (.ptr i4 0)∧lk ρ 5=some (.ptr i5 0)∧lk ρ 6=some (.ptr i6 0)∧lk ρ 8=some (.ptr i8 0)∧lk ρ 9=some (.ptr i9 0)∧lk ρ 10=some (.ptr i10 0)∧lk ρ 11=some (.v (.bool dn))∧lk ρ 13=some (.v (.int .i64 (hY s o).2))) ?_ ?_
 ·refine .vc hU hm ?_
  cases dp:(m==aM)
  ·have e1:decide (m=aM)=false:=decide_eq_false (by simpa using dp)
   rw [e1,Bool.false_or] at edn;simp -implicitDefEqProofs only [go_sem,r8,r9,b8,b9,pe,dp];refine ⟨rfl, ?_, ?_, ?_, ?_, ?_, ?_, ?_, ?_, ?_, ?_⟩<;>simp -implicitDefEqProofs only [go_sem,r2,r3,r4,r5,r6,r8,r9,r10,r13,edn]
  ·have e1:decide (m=aM)=true:=decide_eq_true (by simpa using dp)
   rw [e1,Bool.true_or] at edn;simp -implicitDefEqProofs only [go_sem,r8,b8,pe,dp];refine ⟨rfl, ?_, ?_, ?_, ?_, ?_, ?_, ?_, ?_, ?_, ?_⟩<;>simp -implicitDefEqProofs only [go_sem,r2,r3,r4,r5,r6,r8,r9,r10,r13,edn]
 clear r2 r3 r4 r5 r6 r8 r9 r10 r11 r12 r13
 rintro ρ H' ⟨rfl,r2,r3,r4,r5,r6,r8,r9,r10,r11,r13⟩
 have how:=fun G=>JR s hG.few G
 rw [hst] at how;refine .one hU hm ?_;simp -implicitDefEqProofs only [go_sem,r2,b2];refine (how _).mono fun r H13 ⟨y1,y2,y3,er,hown,hs13⟩=> ?_
 subst er;rw [pg hpp];simp only [dF];simp -implicitDefEqProofs only [go_sem,r10,hs13 _ _ b10];obtain ⟨H14,e14⟩:∃H14,upd H13 i10 (some (.obj [.v (.int .i64 s.tick),y1,y2,y3, .sl (s.roles.map cD) .no, .s pid, .v (.bool pset), .v (.int .i64 palg), .sl (ptgt.map cH) .no, .sl (prules.map aB) .no, .sl (pkids.map aK) .no, .sl (pobls.map bf) .no, .v (.int .i64 s.version)] 39))=H14:=⟨_,rfl⟩;have hS:GSt H' H14 i10 s s.cases.length:=⟨y1,y2,y3,dF s.roles,by rw [←e14,ah,pg hpp]; rfl,hown.keep (fun q hq _=>by rw [←e14]; exact ag _ _ fun e=>by rw [e,b10] at hq; cases hq),by rw [b10]; simp,fun i b hi hb=>by rw [←e14,ag _ _ hi]; exact hs13 _ _ hb⟩
 rw [e14];clear e14;have sGB:=sg;have hroom:s.reviews.length≤1000:=hG.nrev;refine .cut (fun ρ H2=>GSt H' H2 i10 (if gl=true then dz s o o.reason else s) s.cases.length∧lk ρ 2=some (.ptr i2 0)∧lk ρ 3=some (.ptr i3 0)∧lk ρ 4=some (.ptr i4 0)∧lk ρ 5=some (.ptr i5 0)∧lk ρ 6=some (.ptr i6 0)∧lk ρ 8=some (.ptr i8 0)∧lk ρ 9=some (.ptr i9 0)∧lk ρ 10=some (.ptr i10 0)∧lk ρ 11=some (.v (.bool dn))∧lk ρ 13=some (.v (.int .i64 (hY s o).2))) ?_ ?_
 ·refine .vc hU hm ?_
  have c9:=hS.at n10_9.symm b9;have c3:=hS.at n10_3.symm b3;have hop:=Bx hS o o.reason ho.1 (by omega)
  simp only [opA,opC] at hop;cases gl
  ·simp -implicitDefEqProofs only [go_sem,r9,c9]
   refine ⟨hS, ?_, ?_, ?_, ?_, ?_, ?_, ?_, ?_, ?_, ?_⟩<;>simp -implicitDefEqProofs only [go_sem,r2,r3,r4,r5,r6,r8,r9,r10,r11,r13]
  ·simp -implicitDefEqProofs only [go_sem,r3,r9,r10,c9,c3]
   refine hop.mono fun r H3 h3=> ?_
   simp -implicitDefEqProofs only [go_sem];refine ⟨h3, ?_, ?_, ?_, ?_, ?_, ?_, ?_, ?_, ?_, ?_⟩<;>simp -implicitDefEqProofs only [go_sem,r2,r3,r4,r5,r6,r8,r9,r10,r11,r13]
 clear hS r2 r3 r4 r5 r6 r8 r9 r10 r11 r13
 rintro ρ H2 ⟨hS,r2,r3,r4,r5,r6,r8,r9,r10,r11,r13⟩
 have hbd:bP s o=cM (if dn=true then dK aR (if gl=true then dz s o o.reason else s) o else (if gl=true then dz s o o.reason else s)) o ob dn:=by
  unfold bP;rw [hgl,hdn,hmk]
 have hO1:cW k (if gl=true then dz s o o.reason else s):=by
  split
  ·exact zT o _ hG.tocW (by have:=hG.nr; omega)
  ·exact hG.tocW
 have hc1:(if gl=true then dz s o o.reason else s).cases=s.cases:=by split<;>rfl
 have hp1:(if gl=true then dz s o o.reason else s).policy= .mk pid pset palg ptgt prules pkids pobls:=by split<;>exact hpp
 have hg1:pZ 999 (if gl=true then dz s o o.reason else s):=by
  have h1:=hG.nr;have h2:=hG.nn;have h3:=fun c hc=>(hG.case c hc).log2
  split
  ·exact ⟨fun c hc=>by have:=h3 c hc; omega,by simp only [dz,V4,List.length_singleton]; omega,by simp only [dz]; omega⟩
  ·exact ⟨fun c hc=>by have:=h3 c hc; omega,by omega,by omega⟩
 have hr1:bI (if gl=true then dz s o o.reason else s) o=0:=by
  split
  ·rename_i hgt
   have hgo:=vJ hform (A1 (hgl.trans hgt));rw [←hr0];unfold bI;have k5:o.kind≠5:=by omega
   have k6:o.kind≠6:=by omega
   have k8:o.kind≠8:=by omega
   simp only [k5,k6,k8,if_false];rfl
  ·exact hr0
 obtain ⟨s1,es1⟩:∃s1,(if gl=true then dz s o o.reason else s)=s1:=⟨_,rfl⟩
 rw [es1] at hS hbd hO1 hc1 hp1 hg1 hr1;have hre:gM s o=⟨if dn=true then 0 else 12,m,gl,if (dn && o.kind==2 && !jf ob o.field)=true then dZ (bp s.cases o.case).fields o.field else ay,dn && o.kind==2 && jf ob o.field,0⟩:=by
  unfold gM;rw [hgl,hdn,hmk]
 have hve:=hO1.ver;have b9n:H' i9≠none:=by rw [b9]; simp
 refine .cut (fun ρ H3=>lk ρ 2=some (.ptr i2 0)∧lk ρ 3=some (.ptr i3 0)∧lk ρ 4=some (.ptr i4 0)∧lk ρ 5=some (.ptr i5 0)∧lk ρ 6=some (.ptr i6 0)∧lk ρ 8=some (.ptr i8 0)∧lk ρ 9=some (.ptr i9 0)∧lk ρ 10=some (.ptr i10 0)∧lk ρ 11=some (.v (.bool dn))∧lk ρ 13=some (.v (.int .i64 (hY s o).2))∧∃(GB:Heap) (j:Nat),GSt GB H3 i10 (if dn=true then dK aR s1 o else s1) j∧Ab.Sub g GB∧(dn=true→gF (if dn=true then dK aR s1 o else s1).cases o.case<(if dn=true then dK aR s1 o else s1).cases.length→o.kind≠6→j=gF (if dn=true then dK aR s1 o else s1).cases o.case)∧GB i2=some (.obj [.v (.int .i64 s.tick), .sl (s.cases.map bJ) .no, .sl (s.reviews.map fL) .no, .sl (s.notices.map ku) .no, .sl (s.roles.map cD) .no, .s pid, .v (.bool pset), .v (.int .i64 palg), .sl (ptgt.map cH) .no, .sl (prules.map aB) .no, .sl (pkids.map aK) .no, .sl (pobls.map bf) .no, .v (.int .i64 s.version)] 39)∧GB i3=some (.obj [.v (.int .i64 o.kind), .s o.subj, .s o.case, .s o.field, .s o.to, .v (.int .i64 o.val.kind), .v (.int .i64 o.val.n), .s o.val.s, .v (.int .i64 o.review), .s o.text, .s o.reason, .v (.bool o.glass)] 26)∧GB i4=some (.obj [.v (.int .i64 0), .sl [] .full, .sl [] .full, .sl [] .full, .sl [] .full, .s [], .v (.bool false), .v (.int .i64 0), .sl [] .full, .sl [] .full, .sl [] .full, .sl [] .full, .v (.int .i64 0)] 39)∧GB i5=some (.obj [.v (.int .i64 0), .v (.complex .f64 0 0), .v (.bool false), .v (.int .i64 0), .v (.int .i64 0), .s [], .v (.bool false), .v (.int .i64 0)] 46)∧GB i6=some (.obj [.v (.int .i64 0), .s [], .s [], .s [], .s [], .v (.int .i64 0), .v (.int .i64 0), .s [], .v (.int .i64 0), .s [], .s [], .v (.bool false), .v (.int .i64 0), .v (.complex .f64 0 0), .v (.bool false), .sl [] .full] 48)∧GB i8=some (.obj [.v (.complex .f64 (hbit m.1) (hbit m.2)), .sl (ob.map bf) .no] 57)∧GB i9=some (.obj [.v (.int .i64 (if dn=true then 0 else 12)), .v (.complex .f64 (hbit m.1) (hbit m.2)), .v (.bool gl), .v (.int .i64 (if (dn && o.kind==2 && !jf ob o.field)=true then dZ (bp s.cases o.case).fields o.field else ay).kind), .v (.int .i64 (if (dn && o.kind==2 && !jf ob o.field)=true then dZ (bp s.cases o.case).fields o.field else ay).n), .s (if (dn && o.kind==2 && !jf ob o.field)=true then dZ (bp s.cases o.case).fields o.field else ay).s, .v (.bool (dn && o.kind==2 && jf ob o.field)), .v (.int .i64 0)] 46)) ?_ ?_
 ·refine .vc hU hm ?_
  have c9:=hS.at n10_9.symm b9;have c3:=hS.at n10_3.symm b3;have c8:=hS.at n10_8.symm b8;have c2:=hS.at n10_2.symm b2;cases dn
  ·simp -implicitDefEqProofs only [go_sem,r9,r11,c9]
   refine ⟨?_, ?_, ?_, ?_, ?_, ?_, ?_, ?_, ?_, ?_,upd H' i9 _,s.cases.length,hS.put n10_9.symm b9n _,sGB.put q9 _,fun e=>(by cases e),by rw [ag _ _ n9_2.symm]; exact b2,by rw [ag _ _ n9_3.symm]; exact b3,by rw [ag _ _ n9_4.symm]; exact b4,by rw [ag _ _ n9_5.symm]; exact b5,by rw [ag _ _ n9_6.symm]; exact b6,by rw [ag _ _ n9_8.symm]; exact b8,ah ..⟩<;>simp -implicitDefEqProofs only [go_sem,r2,r3,r4,r5,r6,r8,r9,r10,r11,r13]
  ·obtain ⟨z1,z2,z3,z4,hk10,hrd⟩:=hS.rd
   have sH2:Ab.Sub g H2:=hS.sub sGB q10;have hdo:=Hf hrd o hO1.few hO1.lD ho.2.2.2 hO1.DA ⟨hve.1,by omega⟩ (he.sub sH2)
   have hjj:=fun hx (_:o.kind≠6)=>JL (o:=o) hO1 hr1 hx
   rw [pg hp1] at hk10 hdo;simp only [opA,opC] at hdo;simp -implicitDefEqProofs only [go_sem,r3,r10,r11,hk10,c3];refine hdo.mono fun r H3 ⟨hs3,j,hOS,hj⟩=> ?_
   have hj:=hj hr1;obtain ⟨x1,x2,x3,x4,er,hOP⟩:=hOS.parts;subst er;obtain ⟨did,dset,dalg,dtgt,drules,dkids,dobls,hpd⟩:=Iv (dK aR s1 o).policy;rw [pg hpd];have k10:=hs3 _ _ hk10;obtain ⟨H4,e4⟩:∃H4,upd H3 i10 (some (.obj [.v (.int .i64 (dK aR s1 o).tick),x1,x2,x3,x4, .s did, .v (.bool dset), .v (.int .i64 dalg), .sl (dtgt.map cH) .no, .sl (drules.map aB) .no, .sl (dkids.map aK) .no, .sl (dobls.map bf) .no, .v (.int .i64 (dK aR s1 o).version)] 39))=H4:=⟨_,rfl⟩;have hS4:GSt H' H4 i10 (dK aR s1 o) j:=by
    obtain ⟨_,_,_,_,_,_,hgk,hfr⟩:=hS;refine ⟨x1,x2,x3,x4,by rw [←e4,ah,pg hpd],(hOP.keep fun q hq _=>by rw [←e4]; exact ag _ _ fun e=>by rw [e,hk10] at hq; cases hq).bH fun q hq=> ?_,hgk,fun i b hi hb=>by rw [←e4,ag _ _ hi]; exact hs3 _ _ (hfr i b hi hb)⟩
    cases hh:H' q with
    |none=>rfl
    |some b=>
     by_cases e:q=i10
     ·rw [e,hk10] at hq; cases hq
     ·rw [hfr q b e hh] at hq; cases hq
   have d9:=hS4.at n10_9.symm b9;have d3:=hS4.at n10_3.symm b3;have d8:=hS4.at n10_8.symm b8;have d2:=hS4.at n10_2.symm b2;have hjx:true=true→gF (dK aR s1 o).cases o.case<(dK aR s1 o).cases.length→o.kind≠6→j=gF (dK aR s1 o).cases o.case:=fun _ hx h6=>hj.trans (hjj hx h6)
   have hhi:=fun G=>Hx ob (by omega) o.field G
   simp only [au] at hhi;have hca:=fun G=>uJ (rdS G s) o.case hG.few
   rw [hst] at hca;have hcf:(bp s.cases o.case).fields.length≤1000000000:=by
    unfold bp;split
    ·by_cases hlt:findD s.cases o.case<s.cases.length
     ·rw [show s.cases.getD (findD s.cases o.case) lG=s.cases[findD s.cases o.case] by simp [List.getD,List.getElem?_eq_getElem hlt]]
      have:=(hG.case _ (V5 hlt)).nfields;omega
     ·rw [show s.cases.getD (findD s.cases o.case) lG=lG by simp [List.getD,List.getElem?_eq_none (Nat.le_of_not_lt hlt)]]
      exact Nat.zero_le _
    ·exact Nat.zero_le _
   have hfd:=fun G=>AR (rdC G (bp s.cases o.case)) o.field hcf
   simp only [bJ,kZ,fG,pX] at hca hfd;simp -implicitDefEqProofs only [go_sem,r3,r10,k10];rw [e4];clear e4;cases d7:(o.kind==2)
   ·simp -implicitDefEqProofs only [go_sem,r3,r9,d9,d3,d7,n9_3.symm]
    refine ⟨?_, ?_, ?_, ?_, ?_, ?_, ?_, ?_, ?_, ?_,upd H' i9 _,j,hS4.put n10_9.symm b9n _,sGB.put q9 _,(fun _=>hjx rfl),by rw [ag _ _ n9_2.symm]; exact b2,by rw [ag _ _ n9_3.symm]; exact b3,by rw [ag _ _ n9_4.symm]; exact b4,by rw [ag _ _ n9_5.symm]; exact b5,by rw [ag _ _ n9_6.symm]; exact b6,by rw [ag _ _ n9_8.symm]; exact b8,ah ..⟩<;>simp -implicitDefEqProofs only [go_sem,r2,r3,r4,r5,r6,r8,r9,r10,r11,r13]
   ·simp -implicitDefEqProofs only [go_sem,r3,r8,d3,d8,d7]
    refine (hhi _).pthen ?_;cases hh:jf ob o.field
    ·simp -implicitDefEqProofs only [go_sem,r2,r3,r9,d9,d3,d2,d7,n9_2.symm,n9_3.symm]
     refine (hca _).pthen ?_;simp -implicitDefEqProofs only [go_sem];intro i14 h14;have t9:i14≠i9:=fun e=>by rw [e,ah] at h14; cases h14
     have t3:i14≠i3:=fun e=>by rw [e,ag _ _ n9_3.symm,d3] at h14; cases h14
     simp -implicitDefEqProofs only [go_sem,r3,d3,n9_3.symm,t3.symm];refine (hfd _).pthen ?_;simp -implicitDefEqProofs only [go_sem,r9,t9.symm,aU];refine ⟨?_, ?_, ?_, ?_, ?_, ?_, ?_, ?_, ?_, ?_,upd (upd H' i9 _) i9 _,j,((hS4.put n10_9.symm b9n _).same (.ai h14)).put n10_9.symm (by rw [ah]; simp) _,(sGB.put q9 _).put q9 _,(fun _=>hjx rfl),by rw [ag _ _ n9_2.symm,ag _ _ n9_2.symm]; exact b2,by rw [ag _ _ n9_3.symm,ag _ _ n9_3.symm]; exact b3,by rw [ag _ _ n9_4.symm,ag _ _ n9_4.symm]; exact b4,by rw [ag _ _ n9_5.symm,ag _ _ n9_5.symm]; exact b5,by rw [ag _ _ n9_6.symm,ag _ _ n9_6.symm]; exact b6,by rw [ag _ _ n9_8.symm,ag _ _ n9_8.symm]; exact b8,ah ..⟩<;>simp -implicitDefEqProofs only [go_sem,r2,r3,r4,r5,r6,r8,r9,r10,r11,r13]
    ·simp -implicitDefEqProofs only [go_sem,r3,r9,d9,d3,d7,n9_3.symm]
     refine ⟨?_, ?_, ?_, ?_, ?_, ?_, ?_, ?_, ?_, ?_,upd H' i9 _,j,hS4.put n10_9.symm b9n _,sGB.put q9 _,(fun _=>hjx rfl),by rw [ag _ _ n9_2.symm]; exact b2,by rw [ag _ _ n9_3.symm]; exact b3,by rw [ag _ _ n9_4.symm]; exact b4,by rw [ag _ _ n9_5.symm]; exact b5,by rw [ag _ _ n9_6.symm]; exact b6,by rw [ag _ _ n9_8.symm]; exact b8,ah ..⟩<;>simp -implicitDefEqProofs only [go_sem,r2,r3,r4,r5,r6,r8,r9,r10,r11,r13]
 clear hS b2 b3 b4 b5 b6 b8 b9 b10 r2 r3 r4 r5 r6 r8 r9 r10 r11 r13
 rintro ρ H3 ⟨r2,r3,r4,r5,r6,r8,r9,r10,r11,r13,GB,j,hS,sG2,hjx,b2,b3,b4,b5,b6,b8,b9⟩
 have hO2:cW (k+1) (if dn=true then dK aR s1 o else s1):=by
  split
  ·exact ny o hO1
  ·exact {hO1 with ver:=⟨hO1.ver.1,by have:=hO1.ver.2; omega⟩}
 obtain ⟨s2,es2⟩:∃s2,(if dn=true then dK aR s1 o else s1)=s2:=⟨_,rfl⟩
 rw [es2] at hS hjx hbd hO2;have hdu:=CD hS o ho.1 ob (by omega) dn (by have:=hO2.ncases; omega) ⟨fun c hc=>by have:=(hO2.case c hc).log2; omega,hO2.nrev,hO2.nnot⟩ hjx
 rw [←hbd] at hdu;simp only [opA,opC,au] at hdu;have c3:=hS.at n10_3.symm b3;have c8:=hS.at n10_8.symm b8;refine .one hU hm ?_;simp -implicitDefEqProofs only [go_sem,r3,r8,r10,r11,c3,c8];refine hdu.mono fun r H4 h4=> ?_
 simp -implicitDefEqProofs only [go_sem];clear c3 c8 hdu hS;have hat:(hY s o).2=0:=by
  unfold hY at ee⊢;split
  ·rename_i hc; rw [if_pos hc] at ee; exact FP ee
  ·rfl
 have hbl:(bP s o).cases.length≤1000000:=by
  rw [hbd,vv];have:=hO2.ncases;omega
 obtain ⟨x1,x2,x3,x4,k10,hOP,_,_⟩:=id h4;have hov:=Ik hOP.rd hbl;obtain ⟨did,dset,dalg,dtgt,drules,dkids,dobls,hpd⟩:=Iv (bP s o).policy;have hfz:∀H5,(∀q,GB q=none→H5 q=H4 q)→Frz g H5 (.agg (stC (bP s o) x1 x2 x3 x4)) (cU (bP s o)):=fun H5 hq=>((hOP.keep fun q hg _=>hq q hg).bH fun q hg=>by
  cases hh:g q with
  |none=>rfl
  |some b=>rw [sG2 _ _ hh] at hg; cases hg).frz
 rw [pg hpd] at k10 hov hfz;have c2:=h4.at n10_2.symm b2;have c3:=h4.at n10_3.symm b3;have c4:=h4.at n10_4.symm b4;have c5:=h4.at n10_5.symm b5;have c6:=h4.at n10_6.symm b6;have c8:=h4.at n10_8.symm b8;have c9:=h4.at n10_9.symm b9;have sg4:Ab.Sub g H4:=h4.sub sG2 q10;refine .one hU hm ?_;simp -implicitDefEqProofs only [go_sem,r10,k10];refine hov.pthen ?_;cases dov:oV (bP s o)
 case true=>
  simp -implicitDefEqProofs only [go_sem,r2,r4,r5,r6,r13];exact ⟨0,6,0,sg4,c2,c4,c5,c6,rfl,by rw [hat],by unfold bt; rw [if_neg (by rw [ee]; simp),if_pos dov]⟩
 have hgd:bt s o=(bP s o,⟨if dn=true then 0 else 12,m,gl,if (dn && o.kind==2 && !jf ob o.field)=true then dZ (bp s.cases o.case).fields o.field else ay,dn && o.kind==2 && jf ob o.field,0⟩,⟨o,s.version,m,gl,ob⟩,0):=by
  unfold bt;rw [if_neg (by rw [ee]; simp),if_neg (by rw [dov]; decide),hre,hmk,hgl]
 simp -implicitDefEqProofs only [go_sem];have p2:=(bz (H:=H4) (l:= [i2,i3,i8,i9,i10]) (show i2∈ [i2,i3,i8,i9,i10] by simp)).trans c2
 have p3:=(bz (H:=H4) (l:= [i2,i3,i8,i9,i10]) (show i3∈ [i2,i3,i8,i9,i10] by simp)).trans c3
 have p8:=(bz (H:=H4) (l:= [i2,i3,i8,i9,i10]) (show i8∈ [i2,i3,i8,i9,i10] by simp)).trans c8
 have p9:=(bz (H:=H4) (l:= [i2,i3,i8,i9,i10]) (show i9∈ [i2,i3,i8,i9,i10] by simp)).trans c9
 have p10:=(bz (H:=H4) (l:= [i2,i3,i8,i9,i10]) (show i10∈ [i2,i3,i8,i9,i10] by simp)).trans k10
 have t4:pick H4 [i2,i3,i8,i9,i10] i4=none:=by simp [pick,n4_2,n4_3,n8_4.symm,n9_4.symm,n10_4.symm]
 have t5:pick H4 [i2,i3,i8,i9,i10] i5=none:=by simp [pick,n5_2,n5_3,n8_5.symm,n9_5.symm,n10_5.symm]
 have t6:pick H4 [i2,i3,i8,i9,i10] i6=none:=by simp [pick,n6_2,n6_3,n8_6.symm,n9_6.symm,n10_6.symm]
 refine .one hU hm ?_;simp -implicitDefEqProofs only [go_sem];refine .calls (pick H4 [i2,i3,i8,i9,i10]) [0,1,2,3,4,5,6,7,8,9,10,11,12,13,14,15] br (by kernel_rfl) rfl ?_
 simp -implicitDefEqProofs only [go_sem,r2,r3,r4,r5,r6,r8,r9,r10,p2,p3,p8,p9,p10,c4,c5,c6,n5_4,n5_4.symm,n6_4,n6_4.symm,n6_5,n6_5.symm];refine ⟨br.put t4 _,(br.put t4 _).put t5 _,((br.put t4 _).put t5 _).put t6 _, ?_⟩;refine .mk _ (.refl _) (.refl _) ⟨((sg4.put q4 _).put q5 _).put q6 _,_, ?_,rfl⟩;rw [hgd,←pg hpd];exact yj (S:=bP s o) ⟨if dn=true then 0 else 12,m,gl,if (dn && o.kind==2 && !jf ob o.field)=true then dZ (bp s.cases o.case).fields o.field else ay,dn && o.kind==2 && jf ob o.field,0⟩ ⟨o,s.version,m,gl,ob⟩ 0 (by
  rw [pg hpd];exact hfz _ fun q hq=>by
   have x6:q≠i6:=fun e=>by rw [e,b6] at hq; cases hq
   have x5:q≠i5:=fun e=>by rw [e,b5] at hq; cases hq
   have x4:q≠i4:=fun e=>by rw [e,b4] at hq; cases hq
   rw [ag _ _ x6,ag _ _ x5,ag _ _ x4]) .no
theorem IM:mc 1 qj:=by have h:=lT qv qw; rw [Lf] at h; exact h
theorem Dk:mc 2 j6:=by have h:=lT CC IM; rw [Lg] at h; exact h
theorem MO:mc 3 qk:=by have h:=lT Bq Dk; rw [Lh] at h; exact h
set_option maxRecDepth 100000 in
theorem zI (h:Heap) (he:qq h):ak Tryz.prog 16 [] h fun r h' =>r= .v (.bool true)∧h' =h:=by
 have hh1:=fun (G:Heap) (hG:Ab.Sub h G)=>jC rE qw (by decide) qv ⟨⟨by decide,by decide⟩,⟨by decide,by decide⟩,⟨by decide,by decide⟩,⟨by decide,by decide⟩⟩ G (he.sub hG)
 have hh2:=fun (G:Heap) (hG:Ab.Sub h G)=>jC qj IM (by decide) CC ⟨⟨by decide,by decide⟩,⟨by decide,by decide⟩,⟨by decide,by decide⟩,⟨by decide,by decide⟩⟩ G (he.sub hG)
 have hh3:=fun (G:Heap) (hG:Ab.Sub h G)=>jC j6 Dk (by decide) FI ⟨⟨by decide,by decide⟩,⟨by decide,by decide⟩,⟨by decide,by decide⟩,⟨by decide,by decide⟩⟩ G (he.sub hG)
 have hh4:=fun (G:Heap) (hG:Ab.Sub h G)=>jC j6 Dk (by decide) Bq ⟨⟨by decide,by decide⟩,⟨by decide,by decide⟩,⟨by decide,by decide⟩,⟨by decide,by decide⟩⟩ G (he.sub hG)
 have e1:fI (bt rE qv)= .tup [cU qj, .agg [.v (.int .i64 0), .v (.complex .f64 4607182418800017408 0), .v (.bool false), .v (.int .i64 0), .v (.int .i64 0), .s [], .v (.bool false), .v (.int .i64 0)], .agg (zC ⟨qv,0,aM,false,[]⟩), .v (.int .i64 0)]:=by rw [Lf]; rfl
 have e2:fI (bt qj CC)= .tup [cU j6, .agg [.v (.int .i64 0), .v (.complex .f64 4607182418800017408 0), .v (.bool false), .v (.int .i64 0), .v (.int .i64 0), .s [], .v (.bool false), .v (.int .i64 0)], .agg (zC ⟨CC,0,aM,false,[]⟩), .v (.int .i64 0)]:=by rw [Lg]; rfl
 have e3:fI (bt j6 FI)= .tup [cU j6, .agg [.v (.int .i64 12), .v (.complex .f64 0 4607182418800017408), .v (.bool false), .v (.int .i64 0), .v (.int .i64 0), .s [], .v (.bool false), .v (.int .i64 0)], .agg (zC ⟨FI,1,bV,false,[]⟩), .v (.int .i64 0)]:=by rw [PE]; rfl
 have e4:fI (bt j6 Bq)= .tup [cU qk, .agg [.v (.int .i64 0), .v (.complex .f64 0 4607182418800017408), .v (.bool true), .v (.int .i64 0), .v (.int .i64 0), .s [], .v (.bool false), .v (.int .i64 0)], .agg (zC ⟨Bq,1,bV,true,[]⟩), .v (.int .i64 0)]:=by rw [Lh]; rfl
 rw [e1] at hh1;rw [e2] at hh2;rw [e3] at hh3;rw [e4] at hh4;simp only [zC,opC,aP,au,List.map_nil,List.cons_append,List.nil_append] at hh1 hh2 hh3 hh4;have es1:cU qj= .agg [.v (.int .i64 0), .sl [] .no, .sl [] .no, .sl [] .no,dF qj.roles, .s gI, .v (.bool false), .v (.int .i64 6), .sl [] .no, .sl [] .no, .sl [] .no, .sl [] .no, .v (.int .i64 0)]:=rfl;have es2:cU j6= .agg [.v (.int .i64 0), .sl [] .no, .sl [] .no, .sl [] .no,dF j6.roles, .s [112], .v (.bool false), .v (.int .i64 5), .sl [] .no, .sl [] .no, .sl [] .no, .sl [] .no, .v (.int .i64 1)]:=rfl;have es3:cU qk= .agg [.v (.int .i64 0),iY qk.cases, .sl [fL wT] .no, .sl [] .no,dF qk.roles, .s [112], .v (.bool false), .v (.int .i64 5), .sl [] .no, .sl [] .no, .sl [] .no, .sl [] .no, .v (.int .i64 1)]:=rfl;have hc:=fun (G:Heap)=>uJ (rdS G qk) cT MO.few
 rw [es3] at hc;refine ak.body hU hm Tryz.func16 rfl (by kernel_rfl) 100 rfl [.tmp 0] rfl (VZ rfl) (fun hwf=> ?_)
 simp only [go_sem];refine (HX _ he).pthen ?_;simp only [go_sem];refine (show ak Tryz.prog _ [cU rE,opA qv] _ _ from hh1 _ (.refl _)).pthen ?_
 rw [es1];simp only [go_sem];intro i1 h1;simp only [go_sem];intro i2 h2;have n21:=aH h2;simp only [go_sem];intro i3 h3;have n32:=aH h3;have n31:=aH (aD h3);simp only [go_sem,aj,n21,n21.symm,n31,n31.symm,n32,n32.symm];refine inH fun H1 w1=> ?_
 have t2:=aD h2;have t3:=aD (aD h3);have s1:Ab.Sub h H1:=by rw [w1]; exact (((((Ab.Sub.ai h1).put t2 _).put t3 _).put h1 _).put t2 _).put t3 _
 have g1:H1 i1=some (.obj [.v (.int .i64 0), .sl [] .no, .sl [] .no, .sl [] .no,dF qj.roles, .s gI, .v (.bool false), .v (.int .i64 6), .sl [] .no, .sl [] .no, .sl [] .no, .sl [] .no, .v (.int .i64 0)] 39):=by rw [w1,ag _ _ n31.symm,ag _ _ n21.symm,ah]
 clear w1;refine (show ak Tryz.prog _ [.agg [.v (.int .i64 0), .sl [] .no, .sl [] .no, .sl [] .no,dF qj.roles, .s gI, .v (.bool false), .v (.int .i64 6), .sl [] .no, .sl [] .no, .sl [] .no, .sl [] .no, .v (.int .i64 0)],opA CC] _ _ from hh2 _ s1).pthen ?_
 rw [es2];simp only [go_sem];intro i5 h5;have n51:i5≠i1:=fun e=>by rw [e,g1] at h5; cases h5
 simp only [go_sem];intro i6 h6;have n65:=aH h6;have t6:=aD h6;have n61:i6≠i1:=fun e=>by rw [e,g1] at t6; cases t6
 simp only [go_sem,g1,aj,n51,n51.symm,n61,n61.symm,n65,n65.symm];refine inH fun H2 w2=> ?_
 have s2:Ab.Sub h H2:=by rw [w2]; exact ((((s1.put (s1.none h5) _).put (s1.none t6) _).put h1 _).put (s1.none h5) _).put (s1.none t6) _
 have g2:H2 i1=some (.obj [.v (.int .i64 0), .sl [] .no, .sl [] .no, .sl [] .no,dF j6.roles, .s [112], .v (.bool false), .v (.int .i64 5), .sl [] .no, .sl [] .no, .sl [] .no, .sl [] .no, .v (.int .i64 1)] 39):=by rw [w2,ag _ _ n61.symm,ag _ _ n51.symm,ah]
 clear w2 g1 s1;refine (show ak Tryz.prog _ [.agg [.v (.int .i64 0), .sl [] .no, .sl [] .no, .sl [] .no,dF j6.roles, .s [112], .v (.bool false), .v (.int .i64 5), .sl [] .no, .sl [] .no, .sl [] .no, .sl [] .no, .v (.int .i64 1)],opA FI] _ _ from hh3 _ s2).pthen ?_
 rw [es2];simp only [go_sem];intro i8 h8;have n81:i8≠i1:=fun e=>by rw [e,g2] at h8; cases h8
 simp only [go_sem];intro i9 h9;have n98:=aH h9;have t9:=aD h9;have n91:i9≠i1:=fun e=>by rw [e,g2] at t9; cases t9
 simp only [go_sem];intro i10 h10;have na9:=aH h10;have na8:=aH (aD h10);have t10:=aD (aD h10);have na1:i10≠i1:=fun e=>by rw [e,g2] at t10; cases t10
 simp only [go_sem,g2,aj,n81.symm,n91.symm,n98,n98.symm,na1.symm,na8,na8.symm,na9,na9.symm];refine inH fun H3 w3=> ?_
 have s3:Ab.Sub h H3:=by rw [w3]; exact (((((s2.put (s2.none h8) _).put (s2.none t9) _).put (s2.none t10) _).put (s2.none h8) _).put (s2.none t9) _).put (s2.none t10) _
 have g3:H3 i1=some (.obj [.v (.int .i64 0), .sl [] .no, .sl [] .no, .sl [] .no,dF j6.roles, .s [112], .v (.bool false), .v (.int .i64 5), .sl [] .no, .sl [] .no, .sl [] .no, .sl [] .no, .v (.int .i64 1)] 39):=by rw [w3,ag _ _ na1.symm,ag _ _ n91.symm,ag _ _ n81.symm,ag _ _ na1.symm,ag _ _ n91.symm,ag _ _ n81.symm,g2]
 have g3a:H3 i9=some (.obj [.v (.int .i64 12), .v (.complex .f64 0 4607182418800017408), .v (.bool false), .v (.int .i64 0), .v (.int .i64 0), .s [], .v (.bool false), .v (.int .i64 0)] 46):=by rw [w3,ag _ _ na9.symm,ah]
 clear w3 g2 s2;refine (show ak Tryz.prog _ [.agg [.v (.int .i64 0), .sl [] .no, .sl [] .no, .sl [] .no,dF j6.roles, .s [112], .v (.bool false), .v (.int .i64 5), .sl [] .no, .sl [] .no, .sl [] .no, .sl [] .no, .v (.int .i64 1)],opA Bq] _ _ from hh4 _ s3).pthen ?_
 rw [es3];simp only [go_sem];intro ic hc1;have nc1:ic≠i1:=fun e=>by rw [e,g3] at hc1; cases hc1
 have nc9:ic≠i9:=fun e=>by rw [e,g3a] at hc1; cases hc1
 simp only [go_sem];intro id hd1;have ndc:=aH hd1;have td:=aD hd1;have nd1:id≠i1:=fun e=>by rw [e,g3] at td; cases td
 have nd9:id≠i9:=fun e=>by rw [e,g3a] at td; cases td
 simp only [go_sem];intro ie he1;have ned:=aH he1;have nec:=aH (aD he1);have te:=aD (aD he1);have ne1:ie≠i1:=fun e=>by rw [e,g3] at te; cases te
 have ne9:ie≠i9:=fun e=>by rw [e,g3a] at te; cases te
 simp only [go_sem,aj,ndc,ndc.symm,ned,ned.symm,nec,nec.symm];refine inH fun H4 w4=> ?_
 have s4:Ab.Sub h H4:=by rw [w4]; exact (((((s3.put (s3.none hc1) _).put (s3.none td) _).put (s3.none te) _).put (s3.none hc1) _).put (s3.none td) _).put (s3.none te) _
 have g4a:H4 i9=some (.obj [.v (.int .i64 12), .v (.complex .f64 0 4607182418800017408), .v (.bool false), .v (.int .i64 0), .v (.int .i64 0), .s [], .v (.bool false), .v (.int .i64 0)] 46):=by rw [w4,ag _ _ ne9.symm,ag _ _ nd9.symm,ag _ _ nc9.symm,ag _ _ ne9.symm,ag _ _ nd9.symm,ag _ _ nc9.symm,g3a]
 have g4t:H4 ic=some (.obj [.v (.int .i64 0),iY qk.cases, .sl [fL wT] .no, .sl [] .no,dF qk.roles, .s [112], .v (.bool false), .v (.int .i64 5), .sl [] .no, .sl [] .no, .sl [] .no, .sl [] .no, .v (.int .i64 1)] 39):=by rw [w4,ag _ _ nec.symm,ag _ _ ndc.symm,ah]
 have g4b:H4 id=some (.obj [.v (.int .i64 0), .v (.complex .f64 0 4607182418800017408), .v (.bool true), .v (.int .i64 0), .v (.int .i64 0), .s [], .v (.bool false), .v (.int .i64 0)] 46):=by rw [w4,ag _ _ ned.symm,ah]
 have g4d:H4 ie=some (.obj (zC ⟨Bq,1,bV,true,[]⟩) 48):=by rw [w4,ah]; rfl
 clear w4 g3 g3a s3;refine (hc _).pthen ?_;rw [show bM qk.cases cT=true from by kernel_rfl]
 simp only [go_sem,bJ,kZ,fG,pX];intro ik hk1;have nki:∀ {i:Nat} {b:Blk},H4 i=some b→i≠ik:=fun hh e=>by rw [←e,hh] at hk1; cases hk1
 have qd:eqC (.v (.complex .f64 0 4607182418800017408)) (.v (.complex .f64 0 4607182418800017408))=true:=rfl;have qr:fL wT= .agg [.v (.int .i64 1), .v (.int .i64 0), .s [97,110,110], .s [99], .s [110,101,119], .s [102,105,114,101], .v (.bool true)]:=rfl;simp only [zC,opC,aP,au,List.cons_append,List.nil_append] at g4d;have ix:=fun (K:AV→Prop)=>fj.eq (xs:= [fL wT]) (sz:=7) 0 (by decide) rfl K
 simp only [qr,Int.natCast_zero,List.getElem_cons_zero] at ix;simp only [go_sem,aj,nki g4a,nki g4t,nki g4b,nki g4d,g4a,g4t,g4b,g4d,qd,qr,ix];exact .mk _ (.refl _) (s4.trans (.ai hk1)) ⟨rfl,rfl⟩
theorem kQ (s:an) (r:nV) (d:EC) (e:Int):fI (s,r,d,e)= .tup [cU s, .agg [.v (.int .i64 r.err), .v (.complex .f64 (hbit r.mark.1) (hbit r.mark.2)), .v (.bool r.glass), .v (.int .i64 r.val.kind), .v (.int .i64 r.val.n), .s r.val.s, .v (.bool r.hidden), .v (.int .i64 r.at_)], .agg [.v (.int .i64 d.op.kind), .s d.op.subj, .s d.op.case, .s d.op.field, .s d.op.to, .v (.int .i64 d.op.val.kind), .v (.int .i64 d.op.val.n), .s d.op.val.s, .v (.int .i64 d.op.review), .s d.op.text, .s d.op.reason, .v (.bool d.op.glass), .v (.int .i64 d.version), .v (.complex .f64 (hbit d.mark.1) (hbit d.mark.2)), .v (.bool d.glass), .sl (d.obls.map bf) .no], .v (.int .i64 e)]:=rfl
end Go.Proofs.YtnlbeamjpefpfaaGreatDoor
namespace Go.Bf
open Go Go.Ab Go.Proofs.YtnlbeamjpefpfaaGreatDoor
def fU (l:List OpD):an:=l.foldl (fun s o=>(bt s o).1) rE
theorem zy (l:List OpD) (o:OpD):fU (l++ [o])=(bt (fU l) o).1:=by simp [fU]
theorem AW:∀(l:List OpD) (k:Nat) (s:an),mc k s→mc (k+l.length) (l.foldl (fun s o=>(bt s o).1) s)
 | [],k,s,h=>h
 |o::l,k,s,h=>by
  have:=AW l (k+1) _ (lT o h);simpa [Nat.add_assoc,Nat.add_comm 1] using this
theorem vj (l:List OpD):mc l.length (fU l):=by simpa [fU] using AW l 0 rE qw
end Go.Bf
namespace Go.Proofs.YtnlbeamjpefpfaaGreatDoor
open Go Go.Ab Go.Bf
theorem GD (l0:List OpD) (h640:∀o∈l0,zj o) (n:Nat) (hn:n≤100) (h:Heap) (he:qq h):ak Tryz.prog 11 [.sl (l0.map opA) .no, .v (.int .i64 n)] h fun r h' =>r=cU (fU (lJ l0 n))∧h' =h:=by
 have hop:=fun (G:Heap)=>MG l0 n (by omega) G
 have h64:∀o∈lJ l0 n,zj o:=Px h640;have hll:(lJ l0 n).length≤n:=by simp [lJ]; omega
 obtain ⟨l,el⟩:∃l,lJ l0 n=l:=⟨_,rfl⟩;rw [el] at hop h64 hll;rw [el];refine ak.body hU hm Tryz.func11 rfl (by kernel_rfl) 27 rfl [.cell 4 39] rfl (VZ rfl) (fun hwf=> ?_)
 simp -implicitDefEqProofs only [go_sem];intro i4 h4;simp -implicitDefEqProofs only [go_sem];refine (HX _ (he.sub (.ai h4))).pthen ?_;rw [fM rE];simp -implicitDefEqProofs only [go_sem,show sL rE= [.v (.int .i64 0), .sl [] .no, .sl [] .no, .sl [] .no, .sl [] .no, .s [111,112,101,110], .v (.bool false), .v (.int .i64 6), .sl [] .no, .sl [] .no, .sl [] .no, .sl [] .no, .v (.int .i64 0)] from rfl]
 intro i5 h5;have n54:=aH h5;have k5:=aD h5;simp -implicitDefEqProofs only [go_sem];refine (hop _).pthen ?_;simp -implicitDefEqProofs only [go_sem,V0];refine .intro (fun m ρ H=>∃(i:Nat),H i5=some (.obj (sL (fU (l.take i))) 39)∧(∃b,H i4=some (.obj b 39)∧b.length=13)∧Ab.Sub h H∧i≤l.length∧m=l.length - i∧lk ρ 4=some (.ptr i4 0)∧lk ρ 5=some (.ptr i5 0)∧lk ρ 11=some (.sl (l.map opA) .no)∧lk ρ 12=some (.v (.int .i64 l.length))∧lk ρ 13=some (.v (.int .i64 i))) l.length ?_ ?_
 ·refine ⟨0,by rw [ah]; rfl,⟨_,by rw [ag _ _ n54.symm,ah],rfl⟩,(Ab.Sub.ai h4).put k5 _,by omega,rfl, ?_, ?_, ?_, ?_, ?_⟩
  all_goals simp -implicitDefEqProofs only [go_sem]
 ·rintro m ρ H ⟨i,g5,⟨b4,g4,hb4⟩,hs,hi,rfl,r4,r5,r11,r12,r13⟩
  have w1:=V6 i (by omega)
  cases e1:decide ((i:Int)<(l.length:Int))
  ·have:l.take i=l:=List.take_of_length_le (by have:=V3 e1; omega)
   rw [this] at g5;obtain ⟨s,es⟩:∃s,fU l=s:=⟨_,rfl⟩;rw [es] at g5⊢;have hsr:=fM s;obtain ⟨tick,cs,rv,nt,ro,⟨pid,pset,palg,ptgt,prules,pkids,pobls⟩,ver⟩:=s;simp only [sL] at g5 hsr;simp -implicitDefEqProofs only [go_sem,r4,r5,r12,r13,e1,g5,g4];refine ⟨by omega, .mk _ (.refl _) (hs.put h4 _) ⟨hsr.symm,rfl⟩⟩
  ·have hlt:i<l.length:=V7 e1
   obtain ⟨p,ep⟩:∃p,l[i]=p:=⟨_,rfl⟩;have p64:=h64 p (by rw [←ep]; exact V5 _)
   have ix:=fun k=>fj.eq (xs:=l.map opA) (sz:=12) i (by simpa using hlt) (by rw [V1]; rfl) k
   rw [V1,ep] at ix;have htk:l.take (i+1)=l.take i++ [p]:=by rw [List.take_succ_eq_append_getElem hlt,ep]
   have hG:=vj (l.take i);have hgd:=fun (G:Heap) (hG' :Ab.Sub h G)=>jC (fU (l.take i)) hG (by rw [List.length_take]; omega) p p64 G (he.sub hG')
   have hnx:(bt (fU (l.take i)) p).1=fU (l.take (i+1)):=by rw [htk,zy]
   obtain ⟨s,es⟩:∃s,fU (l.take i)=s:=⟨_,rfl⟩;obtain ⟨t,et⟩:∃t,fU (l.take (i+1))=t:=⟨_,rfl⟩;rw [es] at g5 hgd hnx;rw [et] at hnx;have eg:bt s p=(t,(bt s p).2.1,(bt s p).2.2.1,(bt s p).2.2.2):=by rw [←hnx]
   rw [eg,kQ,fM,fM] at hgd;obtain ⟨tick,cs,rv,nt,ro,⟨pid,pset,palg,ptgt,prules,pkids,pobls⟩,ver⟩:=s;obtain ⟨tick',cs',rv',nt',ro',⟨pid',pset',palg',ptgt',prules',pkids',pobls'⟩,ver'⟩:=t;simp only [sL] at g5;simp only [sL,opA,opC] at hgd;simp only [opA,opC] at ix;simp -implicitDefEqProofs only [go_sem,r11,r12,r13,e1,ix];intro i7 h7;have n75:i7≠i5:=fun e=>by rw [e,g5] at h7; cases h7
   have n74:i7≠i4:=fun e=>by rw [e,g4] at h7; cases h7
   simp -implicitDefEqProofs only [go_sem,aj,n75.symm,r5,g5];refine (hgd _ (hs.trans (.ai h7))).pthen ?_;simp -implicitDefEqProofs only [go_sem,aj,n75.symm,r5,r13,g5,w1];refine ⟨_, ?_,i+1,by rw [ah,et]; rfl,⟨b4,by rw [ag _ _ n54.symm,ag _ _ n74.symm]; exact g4,hb4⟩,(hs.put (hs.none h7) _).put k5 _,by omega,rfl, ?_, ?_, ?_, ?_, ?_⟩
   ·omega
   all_goals simp -implicitDefEqProofs only [go_sem,r4,r5,r11,r12]
theorem GF (l0:List OpD) (h640:∀o∈l0,zj o) (n:Nat) (hn:n≤100) (p:Perm) (h:Heap) (he:qq h):ak Tryz.prog 11 [.sl (l0.map opA) p, .v (.int .i64 n)] h fun r h' =>r=cU (fU (lJ l0 n))∧h' =h:=
 (GD l0 h640 n hn h he).weak rfl fun i h1 h2=>by
  rcases i with _|_|i
  ·exact .sl _ _
  ·exact .refl _
  ·simp at h1; omega
theorem Bu (l:List cw):eqL vC l l=true:=gA rfl fun j _ _=>by simp [vC]
end Go.Proofs.YtnlbeamjpefpfaaGreatDoor
