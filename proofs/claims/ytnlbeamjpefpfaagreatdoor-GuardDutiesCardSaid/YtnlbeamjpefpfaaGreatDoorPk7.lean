/- The law GuardDuties: pack 7 of its texts. -/
import Derived.Test.YtnlbeamjpefpfaaGreatDoorPk1
import Derived.Test.YtnlbeamjpefpfaaGreatDoorPk2
import Derived.Test.YtnlbeamjpefpfaaGreatDoorPk3
import Derived.Test.YtnlbeamjpefpfaaGreatDoorPk4
import Derived.Test.YtnlbeamjpefpfaaGreatDoorPk5
import Derived.Test.YtnlbeamjpefpfaaGreatDoorPk6
set_option linter.unusedSimpArgs false
set_option linter.unusedVariables false
namespace Go.Bf
open Go Go.Ab Go.Proofs.YtnlbeamjpefpfaaGreatDoor
def duH:l7:=⟨0,l9,[110,101,119]⟩
def mz (n:Int) (a:Nat):List l7:= [duH,⟨n,ld,iK⟩]++List.replicate a ⟨n,ld,laT⟩
theorem GO (n:Int) (a i:Nat) (h1:2≤i) (h2:i<2+a) (h:i<(mz n a).length:=by simp [mz]; omega):(mz n a)[i]=⟨n,ld,laT⟩:=by
 have e:(mz n a)[i]? =some ⟨n,ld,laT⟩:=by
  unfold mz;rw [List.getElem?_append_right (by simpa using h1)]
  simp [List.getElem?_replicate]; omega
 obtain ⟨_,e⟩:=List.getElem?_eq_some_iff.1 e;exact e
theorem KH (n:Int) (a b c:Nat):sL (duT n duH a b c)= [.v (.int .i64 n),iO [⟨cT,l9,iK,[],mz n a⟩], .sl (((List.range b).map (Ao n)).map fM) .no, .sl ((List.replicate c (⟨n,cT,naT⟩:yU)).map j4) .no, .sl [] .no, .s [112], .v (.bool false), .v (.int .i64 3), .sl [] .no, .sl [aC ⟨[114],false,[],[],duO a b c⟩] .no, .sl [] .no, .sl [] .no, .v (.int .i64 1)]:=rfl
theorem GP:∀(n:Int) a b c,a≤2→b≤2→c≤2→mJ [roN,tkO l9 n,nu (mS a b c)] 9= [roN,tkO l9 n,nu (mS a b c)]∧(mS a b c).length≤4096:=by
 intro n a b c ha hb hc;have h1:a=0∨a=1∨a=2:=by omega
 have h2:b=0∨b=1∨b=2:=by omega
 have h3:c=0∨c=1∨c=2:=by omega
 rcases h1 with rfl|rfl|rfl<;>rcases h2 with rfl|rfl|rfl<;>rcases h3 with rfl|rfl|rfl<;>exact ⟨rfl,by decide⟩
theorem GR {n:Int} (h1:0<n) (h2:n≤1000) {a b c:Nat} (ha:a≤2) (hb:b≤2) (hc:c≤2):fN (mJ [roN,tkO l9 n,nu (mS a b c)] 9)=duS n [duH] (duP (duO a b c)) 1:=by
 obtain ⟨e1,e2⟩:=GP n a b c ha hb hc;rw [e1];have a1:(bw qH roN).1=hiS [] [duH] eS 0:=by kernel_rfl
 have hn:bf l9=true:=by kernel_rfl
 have ht:(hiS [] [duH] eS 0).tick≤1099511627776 - n:=by simp only [hiS]; omega
 have a2:(bw (hiS [] [duH] eS 0) (tkO l9 n)).1=duS n [duH] eS 0:=by
  have hd:cE aM (hiS [] [duH] eS 0) (tkO l9 n)=duS n [duH] eS 0:=by
   rw [Kf hn h1 (by omega) ht]
   simp [hiS,duS]
  have hpre:(hD (hiS [] [duH] eS 0) (tkO l9 n)).1=0:=by
   unfold hD;rw [BR hn h1 (by omega) ht]
   simp [tkO]
  rw [vv (vJ rfl _) hpre (by rw [hd]; rfl),hd]
 simp only [fN,List.foldl_cons,List.foldl_nil,a1,a2];rw [FF rfl e2 (GQ a b c ha hb hc) (by rfl)]
 rfl
end Go.Bf
namespace Go.Proofs.YtnlbeamjpefpfaaGreatDoor
open Go Go.Ab Go.Bf
theorem Ov (n:Int) (a b c:Nat):sL (duS n [duH] (duP (duO a b c)) 1)= [.v (.int .i64 n), .sl ([hiC [] [duH]].map bP) .no, .sl [] .no, .sl [] .no, .sl [] .no, .s [112], .v (.bool false), .v (.int .i64 3), .sl [] .no, .sl [aC ⟨[114],false,[],[],duO a b c⟩] .no, .sl [] .no, .sl [] .no, .v (.int .i64 1)]:=rfl
theorem rX (i:Nat) (t:Txt):rep (i+1) t=rep i t++t:=by
 unfold rep; rw [List.replicate_succ',List.flatten_append]; simp
theorem uH (i:Nat) (t:Txt):(rep i t).length=i*t.length:=by
 induction i with
 |zero=>simp [rep]
 |succ i ih=>rw [rX,VE,ih,Nat.succ_mul]
set_option maxRecDepth 100000 in
theorem vA (m1 m2 m3 m4:Int) (hm1:i64 m1) (hm2:i64 m2) (hm3:i64 m3) (hm4:i64 m4) (h:Heap) (he:qs h):ak Tryz.prog 6 [.v (.int .i64 m1), .v (.int .i64 m2), .v (.int .i64 m3), .v (.int .i64 m4)] h fun r h' =>r= .v (.bool true)∧h' =h:=by
 have lit:∀k:Int,0≤k→k≤1000→i64 k:=fun k a b=>⟨by omega,by omega⟩
 have z:i64 0:=lit 0 (by decide) (by decide)
 have hfin:∀(G:Heap),Ab.Sub h G→ak Tryz.prog 16 [] G fun r h' =>r= .v (.bool true)∧h' =G:=fun G hG=>zq _ (he.sub hG)
 have la:=nL m1 2;have lb:=nL m2 2;have lc:=nL m3 2;have ln:=nL m4 999;have w1:=fun G=>pU m1 2 G hm1 (by decide)
 have w2:=fun G=>pU m2 2 G hm2 (by decide)
 have w3:=fun G=>pU m3 2 G hm3 (by decide)
 have w4:=fun G=>pU m4 999 G hm4 (by decide)
 obtain ⟨a,ea⟩:∃a,kN m1 2=a:=⟨_,rfl⟩;obtain ⟨b,eb⟩:∃a,kN m2 2=a:=⟨_,rfl⟩;obtain ⟨c,ec⟩:∃a,kN m3 2=a:=⟨_,rfl⟩;obtain ⟨d,ed⟩:∃a,kN m4 999=a:=⟨_,rfl⟩;rw [ea] at la w1;rw [eb] at lb w2;rw [ec] at lc w3;rw [ed] at ln w4;have wn:IntKind.i64.wrap (1+(d:Int))=((1+d:Nat):Int):=by rw [bu _ (by omega)]; omega
 obtain ⟨n,en⟩:∃n,1+d=n:=⟨_,rfl⟩;rw [en] at wn;have h1n:0<(n:Int):=by omega
 have hn2:(n:Int)≤1000:=by omega
 have hst:=GR h1n hn2 la lb lc;have hops:∀o∈ [roN,tkO l9 n,nu (mS a b c)],B2 o:=by
  simp only [List.mem_cons,List.not_mem_nil,or_false]
  rintro o (rfl|rfl|rfl)
  ·exact ⟨lit 1 (by decide) (by decide),z,z,z⟩
  ·exact ⟨lit 8 (by decide) (by decide),z,z,lit n (by omega) hn2⟩
  ·exact ⟨lit 7 (by decide) (by decide),z,z,z⟩
 have haf:=fun (G:Heap) (hG:Ab.Sub h G)=>Gq [roN,tkO l9 n,nu (mS a b c)] hops 9 (by decide) .full G (he.sub hG)
 have hG0:kX 3 (duS n [duH] (duP (duO a b c)) 1):=by have:=vb (mJ [roN,tkO l9 n,nu (mS a b c)] 9); rw [hst,(GP n a b c la lb lc).1] at this; exact this
 rw [hst,gv,Ov] at haf;have hgd:=fun (G:Heap) (hG:Ab.Sub h G)=>jC (duS n [duH] (duP (duO a b c)) 1) hG0 (by decide) mvA ⟨lit 4 (by decide) (by decide),z,z,z⟩ G (he.sub hG)
 have hfew:Few (duT n duH a b c):=by have:=(di mvA hG0).few; rw [(kH n duH a b c la lb lc).1] at this; exact this
 have hfew:Few (duT n duH a b c):=by have:=(di mvA hG0).few; rw [(kH n duH a b c la lb lc).1] at this; exact this
 have hfew:Few (duT n duH a b c):=by have:=(di mvA hG0).few; rw [(kH n duH a b c la lb lc).1] at this; exact this
 have hfew:Few (duT n duH a b c):=by have:=(di mvA hG0).few; rw [(kH n duH a b c la lb lc).1] at this; exact this
 have hfew:Few (duT n duH a b c):=by have:=(di mvA hG0).few; rw [(kH n duH a b c la lb lc).1] at this; exact this
 have hfew:Few (duT n duH a b c):=by have:=(di mvA hG0).few; rw [(kH n duH a b c la lb lc).1] at this; exact this
 have hfew:Few (duT n duH a b c):=by have:=(di mvA hG0).few; rw [(kH n duH a b c la lb lc).1] at this; exact this
 have hfew:Few (duT n duH a b c):=by have:=(di mvA hG0).few; rw [(kH n duH a b c la lb lc).1] at this; exact this
 obtain ⟨t1,t2,t3⟩:=kH n duH a b c la lb lc;obtain ⟨rr,er⟩:∃t,(bw (duS n [duH] (duP (duO a b c)) 1) mvA).2.1=t:=⟨_,rfl⟩;obtain ⟨dd,edd⟩:∃t,(bw (duS n [duH] (duP (duO a b c)) 1) mvA).2.2.1=t:=⟨_,rfl⟩;have eg:bw (duS n [duH] (duP (duO a b c)) 1) mvA=(duT n duH a b c,rr,dd,0):=by rw [←t1,←er,←edd,←t3]
 rw [er] at t2;rw [eg,mB,gv,gv,Ov,t2] at hgd;have eH:∀ρ,ev ρ (.const (.string {data:= #[112,111,108,105,99,121,32,112,32,102,105,114,115,116,32,123,32,112,101,114,109,105,116,32,114]}))=some (.s mb):=fun ρ=>ct (l:=mb) (by decide)
 have eL:∀ρ,ev ρ (.const (.string {data:= #[32,111,110,32,112,101,114,109,105,116,32,108,111,103,32,108,97]}))=some (.s lgT):=fun ρ=>ct (l:=lgT) (by decide)
 have eR:∀ρ,ev ρ (.const (.string {data:= #[32,111,110,32,112,101,114,109,105,116,32,114,101,118,105,101,119,32,114,97]}))=some (.s rvT):=fun ρ=>ct (l:=rvT) (by decide)
 have eN:∀ρ,ev ρ (.const (.string {data:= #[32,111,110,32,112,101,114,109,105,116,32,110,111,116,105,102,121,32,110,97]}))=some (.s ntT):=fun ρ=>ct (l:=ntT) (by decide)
 refine ak.body hU hm Tryz.func6 rfl (by kernel_rfl) 170 rfl [.tmp 8] rfl (Vz rfl) (fun hwf=> ?_)
 simp -implicitDefEqProofs only [go_sem];refine (show ak Tryz.prog _ [.v (.int .i64 m1), .v (.int .i64 0), .v (.int .i64 (2:Nat))] _ _ from w1 _).pthen ?_
 simp -implicitDefEqProofs only [go_sem];refine (show ak Tryz.prog _ [.v (.int .i64 m2), .v (.int .i64 0), .v (.int .i64 (2:Nat))] _ _ from w2 _).pthen ?_
 simp -implicitDefEqProofs only [go_sem];refine (show ak Tryz.prog _ [.v (.int .i64 m3), .v (.int .i64 0), .v (.int .i64 (2:Nat))] _ _ from w3 _).pthen ?_
 simp -implicitDefEqProofs only [go_sem,eH];refine .intro (fun m ρ H=>∃i:Nat,h=H∧i≤a∧m=a - i∧lk ρ 3=some (.v (.int .i64 m4))∧lk ρ 9=some (.v (.int .i64 a))∧lk ρ 10=some (.v (.int .i64 b))∧lk ρ 11=some (.v (.int .i64 c))∧lk ρ 12=some (.s (mb++rep i lgT))∧lk ρ 13=some (.v (.int .i64 i))) a ?_ ?_
 ·refine ⟨0,rfl,by omega,rfl, ?_, ?_, ?_, ?_, ?_, ?_⟩<;>simp -implicitDefEqProofs only [go_sem]<;>(try simp only [rep,List.replicate_zero,List.flatten_nil,List.append_nil])
 rintro m ρ H ⟨i,rfl,hi,rfl,r3,r9,r10,r11,r12,r13⟩
 cases e1:decide ((i:Int)<(a:Int))
 rotate_left
 ·have hlt:i<a:=VH e1
  have wi:=VG i (by omega)
  simp -implicitDefEqProofs only [go_sem,r3,r9,r10,r11,r12,r13,e1,eL,wi];refine ⟨by simp only [VE,uH,lim,mb,lgT,rvT,ntT,List.length_cons,List.length_nil]; omega,_, ?_,i+1,rfl,by omega,rfl, ?_, ?_, ?_, ?_, ?_, ?_⟩
  ·omega
  all_goals simp -implicitDefEqProofs only [go_sem,r3,r9,r10,r11,r12,r13,wi,rX,List.append_assoc,show ([32,111,110,32,112,101,114,109,105,116,32,108,111,103,32,108,97]:Txt)=lgT from rfl]
 have hia:a=i:=by have:=VD e1; omega
 subst hia;clear e1 hi;simp -implicitDefEqProofs only [go_sem,r3,r9,r10,r11,r12,r13,show decide ((a:Int)<a)=false from by simp]
 refine .intro (fun m ρ H=>∃i:Nat,h=H∧i≤b∧m=b - i∧lk ρ 3=some (.v (.int .i64 m4))∧lk ρ 9=some (.v (.int .i64 a))∧lk ρ 10=some (.v (.int .i64 b))∧lk ρ 11=some (.v (.int .i64 c))∧lk ρ 12=some (.s (mb++rep a lgT++rep i rvT))∧lk ρ 14=some (.v (.int .i64 i))) b ?_ ?_
 ·refine ⟨0,rfl,by omega,rfl, ?_, ?_, ?_, ?_, ?_, ?_⟩<;>simp -implicitDefEqProofs only [go_sem,r3,r9,r10,r11,r12]<;>(try simp only [rep,List.replicate_zero,List.flatten_nil,List.append_nil])
 rintro m ρ H ⟨i,rfl,hi,rfl,r3,r9,r10,r11,r12,r14⟩
 cases e1:decide ((i:Int)<(b:Int))
 rotate_left
 ·have hlt:i<b:=VH e1
  have wi:=VG i (by omega)
  simp -implicitDefEqProofs only [go_sem,r3,r9,r10,r11,r12,r14,e1,eR,wi];refine ⟨by simp only [VE,uH,lim,mb,lgT,rvT,ntT,List.length_cons,List.length_nil]; omega,_, ?_,i+1,rfl,by omega,rfl, ?_, ?_, ?_, ?_, ?_, ?_⟩
  ·omega
  all_goals simp -implicitDefEqProofs only [go_sem,r3,r9,r10,r11,r12,r14,wi,rX,List.append_assoc,show ([32,111,110,32,112,101,114,109,105,116,32,114,101,118,105,101,119,32,114,97]:Txt)=rvT from rfl]
 have hia:b=i:=by have:=VD e1; omega
 subst hia;clear e1 hi;simp -implicitDefEqProofs only [go_sem,r3,r9,r10,r11,r12,r14,show decide ((b:Int)<b)=false from by simp]
 refine .intro (fun m ρ H=>∃i:Nat,h=H∧i≤c∧m=c - i∧lk ρ 3=some (.v (.int .i64 m4))∧lk ρ 9=some (.v (.int .i64 a))∧lk ρ 10=some (.v (.int .i64 b))∧lk ρ 11=some (.v (.int .i64 c))∧lk ρ 12=some (.s (mb++rep a lgT++rep b rvT++rep i ntT))∧lk ρ 15=some (.v (.int .i64 i))) c ?_ ?_
 ·refine ⟨0,rfl,by omega,rfl, ?_, ?_, ?_, ?_, ?_, ?_⟩<;>simp -implicitDefEqProofs only [go_sem,r3,r9,r10,r11,r12]<;>(try simp only [rep,List.replicate_zero,List.flatten_nil,List.append_nil])
 rintro m ρ H ⟨i,rfl,hi,rfl,r3,r9,r10,r11,r12,r15⟩
 cases e1:decide ((i:Int)<(c:Int))
 rotate_left
 ·have hlt:i<c:=VH e1
  have wi:=VG i (by omega)
  simp -implicitDefEqProofs only [go_sem,r3,r9,r10,r11,r12,r15,e1,eN,wi];refine ⟨by simp only [VE,uH,lim,mb,lgT,rvT,ntT,List.length_cons,List.length_nil]; omega,_, ?_,i+1,rfl,by omega,rfl, ?_, ?_, ?_, ?_, ?_, ?_⟩
  ·omega
  all_goals simp -implicitDefEqProofs only [go_sem,r3,r9,r10,r11,r12,r15,wi,rX,List.append_assoc,show ([32,111,110,32,112,101,114,109,105,116,32,110,111,116,105,102,121,32,110,97]:Txt)=ntT from rfl]
 have hia:c=i:=by have:=VD e1; omega
 subst hia;clear e1 hi;simp -implicitDefEqProofs only [go_sem,r3,r9,r10,r11,r12,r15,show decide ((c:Int)<c)=false from by simp]
 refine (show ak Tryz.prog _ [.v (.int .i64 m4), .v (.int .i64 0), .v (.int .i64 (999:Nat))] _ _ from w4 _).pthen ?_
 simp -implicitDefEqProofs only [go_sem,r3,r9,r10,r11,r12,r15,wn];refine ⟨by simp only [VE,uH,lim,mb,lgT,rvT,ntT,List.length_cons,List.length_nil]; omega, ?_⟩
 refine (show ak Tryz.prog _ [.sl ([roN,tkO l9 n,nu (mS a b c)].map opA) .full, .v (.int .i64 (9:Nat))] _ _ from haf _ (.refl _)).pthen ?_
 simp -implicitDefEqProofs only [go_sem,r3,r9,r10,r11,r12,r15];intro i17 h17;simp -implicitDefEqProofs only [go_sem,r3,r9,r10,r11,r12,r15];simp only [opA,opC,mvA,ay] at hgd;refine (hgd _ (.ai h17)).pthen ?_;simp only [sL,duT,duP,o9,qi,iO,dH,aU,aA,aX,List.map_nil];simp -implicitDefEqProofs only [go_sem,r3,r9,r10,r11,r12,r15];intro i18 h18;have n87:=aE h18;have k18:=au h18;simp -implicitDefEqProofs only [go_sem,r3,r9,r10,r11,r12,r15,aj,n87,n87.symm];intro i19 h19;have n98:=aE h19;have n97:=aE (au h19);have k19:=au (au h19);simp -implicitDefEqProofs only [go_sem,r3,r9,r10,r11,r12,r15,aj,n87,n87.symm,n98,n98.symm,n97,n97.symm];intro i20 h20;have n09:=aE h20;have n08:=aE (au h20);have n07:=aE (au (au h20));have k20:=au (au (au h20));simp -implicitDefEqProofs only [go_sem,r3,r9,r10,r11,r12,r15,aj,n87,n87.symm,n98,n98.symm,n97,n97.symm,n09,n09.symm,n08,n08.symm,n07,n07.symm];refine (show ak Tryz.prog _ [cP (duT n duH a b c), .s cT] _ _ from qX (rdS _ (duT n duH a b c)) cT hfew).pthen ?_
 rw [show bH (duT n duH a b c).cases cT=true by kernel_rfl,show bn (duT n duH a b c).cases cT=⟨cT,l9,iK,[],mz n a⟩ by kernel_rfl]
 simp only [bP,kC,List.map_nil];have hlen:(mz n a).length=2+a:=by simp [mz]; omega
 simp -implicitDefEqProofs only [go_sem,r3,r9,r10,r11,r12,r15,aj,n87,n87.symm,n98,n98.symm,n97,n97.symm,n09,n09.symm,n08,n08.symm,n07,n07.symm];intro i22 h22;have m20:=aE h22;have m19:=aE (au h22);have m18:=aE (au (au h22));have m17:=aE (au (au (au (au (au (au h22))))));have k22:h i22=none:=au (au (au (au (au (au (au h22))))));have wa:IntKind.i64.wrap (2+(a:Int))=((2+a:Nat):Int):=by rw [bu _ (by omega)]; omega
 simp -implicitDefEqProofs only [go_sem,r3,r9,r10,r11,r12,r15,aj,n87,n87.symm,n98,n98.symm,n97,n97.symm,n09,n09.symm,n08,n08.symm,n07,n07.symm,m20,m20.symm,m19,m19.symm,m18,m18.symm,m17,m17.symm,List.length_replicate,VA,List.length_range,hlen,wa,bne_self_eq_false,show (iK==([119,111,114,107]:Txt))=true from rfl,Bool.not_true,oU,o9,qi]
 refine O2 fun H1 w1=> ?_
 have hs1:Ab.Sub h H1:=by rw [w1]; exact ((((((((Ab.Sub.refl h).put h17 _).put k18 _).put k19 _).put k20 _).put k18 _).put k19 _).put k20 _).put k22 _
 have g18:H1 i18=some (.obj (sL (duT n duH a b c)) 39):=by rw [w1,KH]; simp only [ah,aj,n87,n87.symm,n98,n98.symm,n97,n97.symm,n09,n09.symm,n08,n08.symm,n07,n07.symm,m20,m20.symm,m19,m19.symm,m18,m18.symm,m17,m17.symm,ne_eq,not_false_eq_true]<;>rfl
 have g22:H1 i22=some (.obj [.s cT, .s l9, .s iK, .sl [] .no, .sl ((mz n a).map fZ) .no] 78):=by rw [w1,ah]; rfl
 clear w1;rw [KH] at g18;have aT:((ld:Txt)== [97,110,110])=true:=rfl;have cc:((cT:Txt)== [99])=true:=rfl;have wl:(iK==([119,111,114,107]:Txt))=true:=rfl;refine .intro (fun m ρ H=>∃i:Nat,H1=H∧2≤i∧i≤2+a∧m=2+a - i∧lk ρ 16=some (.v (.int .i64 n))∧lk ρ 18=some (.ptr i18 0)∧lk ρ 22=some (.ptr i22 0)∧lk ρ 24=some (.v (.int .i64 i))) (2+a - 2) ?_ ?_
 ·refine ⟨2,rfl,by omega,by omega,rfl, ?_, ?_, ?_, ?_⟩<;>simp -implicitDefEqProofs only [go_sem]
 rintro m ρ H ⟨i,rfl,hi1,hi,rfl,s16,s18,s22,s24⟩
 cases e1:decide ((i:Int)<((2+a:Nat):Int))
 rotate_left
 ·have hlt:i<2+a:=VH e1
  have wi:=VG i (by omega)
  have ix:=fun K=>fc.eq (xs:=(mz n a).map fZ) (sz:=3) i (by rw [VA,hlen]; exact hlt) (by rw [VB]; rfl) K
  rw [VB,GO n a i hi1 hlt] at ix;simp only [fZ] at ix;simp -implicitDefEqProofs only [go_sem,s16,s18,s22,s24,g22,VA,hlen,e1,ix,aT,show ((laT:Txt)== [108,97])=true from rfl,bne_self_eq_false,beq_self_eq_true,Bool.and_self,Bool.not_true,wi]
  refine ⟨_, ?_,i+1,rfl,by omega,by omega,rfl, ?_, ?_, ?_, ?_⟩
  ·omega
  all_goals simp -implicitDefEqProofs only [go_sem,s16,s18,s22,s24,wi]
 simp -implicitDefEqProofs only [go_sem,s16,s18,s22,s24,g22,g18,VA,hlen,e1,List.length_range];refine .intro (fun m ρ H=>∃i:Nat,Ab.Sub H1 H∧i≤b∧m=b - i∧lk ρ 16=some (.v (.int .i64 n))∧lk ρ 18=some (.ptr i18 0)∧lk ρ 22=some (.ptr i22 0)∧lk ρ 134=some (.sl (((List.range b).map (Ao n)).map fM) .no)∧lk ρ 135=some (.v (.int .i64 b))∧lk ρ 136=some (.v (.int .i64 i))) b ?_ ?_
 ·refine ⟨0, .refl _,by omega,rfl, ?_, ?_, ?_, ?_, ?_, ?_⟩<;>simp -implicitDefEqProofs only [go_sem,s16,s18,s22,s24]
 clear s16 s18 s22 s24 e1 hi hi1
 rintro m ρ H ⟨j,hs2,hj,rfl,s16,s18,s22,s134,s135,s136⟩
 have b18:=hs2 _ _ g18;have b22:=hs2 _ _ g22;cases e2:decide ((j:Int)<(b:Int))
 rotate_left
 ·have hlt:j<b:=VH e2
  have wi:=VG j (by omega)
  have ix:=fun K=>fc.eq (xs:=((List.range b).map (Ao n)).map fM) (sz:=7) j (by simpa using hlt) (by rw [VB]; rfl) K
  rw [VB,VB,List.getElem_range] at ix;simp only [fM,Ao] at ix;simp -implicitDefEqProofs only [go_sem,s16,s18,s22,s134,s135,s136,e2,ix];intro i26 h26;have dj:((j:Int)+1==((j+1:Nat):Int))=true:=by simp
  simp -implicitDefEqProofs only [go_sem,dj,s16,s18,s22,s134,s135,s136,aT,cc,wi,show ((raT:Txt)== [114,97])=true from rfl,bne_self_eq_false,beq_self_eq_true,Bool.and_self,Bool.not_true]
  refine ⟨_, ?_,j+1,hs2.trans (.ai h26),by omega,rfl, ?_, ?_, ?_, ?_, ?_, ?_⟩
  ·omega
  all_goals simp -implicitDefEqProofs only [go_sem,s16,s18,s22,s134,s135,s136,wi]
 have hjb:b=j:=by have:=VD e2; omega
 clear e2 hj;subst hjb;simp -implicitDefEqProofs only [go_sem,s16,s18,s22,s134,s135,s136,b18,b22,show decide ((b:Int)<b)=false from by simp,VA,List.length_replicate]
 refine .intro (fun m ρ H2=>∃i:Nat,Ab.Sub H1 H2∧i≤c∧m=c - i∧lk ρ 16=some (.v (.int .i64 n))∧lk ρ 22=some (.ptr i22 0)∧lk ρ 149=some (.sl ((List.replicate c (⟨n,cT,naT⟩:yU)).map j4) .no)∧lk ρ 150=some (.v (.int .i64 c))∧lk ρ 151=some (.v (.int .i64 i))) c ?_ ?_
 ·refine ⟨0,hs2,by omega,rfl, ?_, ?_, ?_, ?_, ?_⟩<;>simp -implicitDefEqProofs only [go_sem,s16,s18,s22]
 clear s16 s18 s22 s134 s135 s136 b18 b22 hs2
 rintro m ρ H ⟨j,hs2,hj,rfl,s16,s22,s149,s150,s151⟩
 have b22:=hs2 _ _ g22;cases e2:decide ((j:Int)<(c:Int))
 rotate_left
 ·have hlt:j<c:=VH e2
  have wi:=VG j (by omega)
  have ix:=fun K=>fc.eq (xs:=(List.replicate c (⟨n,cT,naT⟩:yU)).map j4) (sz:=3) j (by simpa using hlt) (by rw [VB]; rfl) K
  rw [VB,List.getElem_replicate] at ix;simp only [j4] at ix;simp -implicitDefEqProofs only [go_sem,s16,s22,s149,s150,s151,e2,ix];intro i28 h28;simp -implicitDefEqProofs only [go_sem,s16,s22,s149,s150,s151,aT,cc,wi,show ((naT:Txt)== [110,97])=true from rfl,bne_self_eq_false,beq_self_eq_true,Bool.and_self,Bool.not_true]
  refine ⟨_, ?_,j+1,hs2.trans (.ai h28),by omega,rfl, ?_, ?_, ?_, ?_, ?_⟩
  ·omega
  all_goals simp -implicitDefEqProofs only [go_sem,s16,s22,s149,s150,s151,wi]
 have ix:=fun K=>fc.eq (xs:=(mz n a).map fZ) (sz:=3) 1 (by rw [VA,hlen]; omega) (by rw [VB]; rfl) K
 rw [VB,show (mz n a)[1]'(by rw [hlen]; omega)=⟨n,ld,iK⟩ from rfl] at ix
 simp only [fZ,Int.natCast_one] at ix;simp -implicitDefEqProofs only [go_sem,s16,s22,s149,s150,s151,b22,e2,ix,aT,wl,bne_self_eq_false,beq_self_eq_true,Bool.and_self,Bool.not_true];refine (hfin _ (hs1.trans hs2)).pthen ?_;simp -implicitDefEqProofs only [go_sem];exact .mk _ (.refl _) (hs1.trans hs2) ⟨rfl,rfl⟩
theorem uw (ev:Value) (hev:ev= .nilIface∨∃te pe,ev= .iface te pe) (x y z w:AV) (dx:Dat U 3 x) (dy:Dat U 3 y) (dz:Dat U 3 z) (dw:Dat U 3 w):ak Tryz.prog 6 [x,y,z,w] (uC [(3,zF),(2,[ev])]) fun r _=>r= .v (.bool true):=by
 obtain ⟨m1,rfl,h1⟩:=dx.i64 (by simp only [go_sem])
 obtain ⟨m2,rfl,h2⟩:=dy.i64 (by simp only [go_sem])
 obtain ⟨m3,rfl,h3⟩:=dz.i64 (by simp only [go_sem])
 obtain ⟨m4,rfl,h4⟩:=dw.i64 (by simp only [go_sem])
 exact (vA m1 m2 m3 m4 h1 h2 h3 h4 _ (FV hev)).mono fun _ _ h=>h.1
end Go.Proofs.YtnlbeamjpefpfaaGreatDoor
