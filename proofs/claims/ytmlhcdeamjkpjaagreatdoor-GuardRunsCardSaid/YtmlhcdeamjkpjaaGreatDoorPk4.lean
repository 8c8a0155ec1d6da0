/- The law GuardRuns: pack 4 of its texts. -/
import Derived.Shelf.Small.Strs
import Derived.Shelf.Small.Wraps
import Derived.Shelf.Strconv.AtoiAll
import Derived.Shelf.Strconv.ErrVarAll
import Derived.Shelf.Strings.Search1
import Derived.Test.YtmlhcdeamjkpjaaGreatDoorProg
import Derived.KernelRfl
import Derived.WalkKit
import Derived.BigCall
import Derived.Test.YtmlhcdeamjkpjaaGreatDoorPk1
import Derived.Test.YtmlhcdeamjkpjaaGreatDoorPk2
import Derived.Test.YtmlhcdeamjkpjaaGreatDoorPk3
set_option linter.unusedSimpArgs false
set_option linter.unusedVariables false
namespace Go.Proofs.YtmlhcdeamjkpjaaGreatDoor
open Go Go.Ab Go.Bf
def Byt (g:FuncId) (p:UInt8→Bool):Prop:=∀(c:UInt8) (h:Heap),ak Tryz.prog g [.v (.int .u8 c.toNat)] h fun r h' =>r= .v (.bool (p c))∧h' =h
theorem ku:Byt 201 dgt:=fun c h=>by
 refine ak.body hU hm Tryz.func201 rfl (by kernel_rfl) 9 rfl [.tmp 2] rfl (Uf rfl) (fun hwf=> ?_)
 cases d1:decide (48≤(c.toNat:Int))<;>cases d2:decide ((c.toNat:Int)≤57)
 all_goals
  simp only [go_sem,d1,d2];exact .same (.refl _) ⟨by simp only [dgt,d1,d2]; rfl,rfl⟩
theorem El:Byt 247 wrd:=fun c h=>by
 refine ak.body hU hm Tryz.func247 rfl (by kernel_rfl) 17 rfl [.tmp 2] rfl (Uf rfl) (fun hwf=> ?_)
 cases d1:decide (97≤(c.toNat:Int))<;>cases d2:decide ((c.toNat:Int)≤122)<;>cases d3:dgt c<;>cases d4:((c.toNat:Int)==95)
 all_goals
  simp only [go_sem,d1,d2]
  first
   |exact .same (.refl _) ⟨by simp only [wrd,ltr,d1,d2,d3,d4]; rfl,rfl⟩
   |(refine (ku c _).pthen ?_; simp only [go_sem,d3,d4]; exact .same (.refl _) ⟨by simp only [wrd,ltr,d1,d2,d3,d4]; rfl,rfl⟩)
theorem AB:Byt 249 (fun c=> !Ca c):=fun c h=>by
 refine ak.body hU hm Tryz.func249 rfl (by kernel_rfl) 17 rfl [.tmp 2] rfl (Uf rfl) (fun hwf=> ?_)
 cases d1:decide (32≤(c.toNat:Int))<;>cases d2:decide ((c.toNat:Int)≤126)<;>cases d3:((c.toNat:Int)==34)<;>cases d4:((c.toNat:Int)==92)
 all_goals
  simp only [go_sem,d1,d2,d3,d4,bne];refine .same (.refl _) ⟨?_,rfl⟩;have e1:decide ((c.toNat:Int)<32)= !decide (32≤(c.toNat:Int)):=by
   by_cases h:(32:Int)≤c.toNat
   ·simp [h,Int.not_lt.2 h]
   ·simp [h,Int.not_le.1 h]
  have e2:decide (126<(c.toNat:Int))= !decide ((c.toNat:Int)≤126):=by
   by_cases h:(c.toNat:Int)≤126
   ·simp [h,Int.not_lt.2 h]
   ·simp [h,Int.not_le.1 h]
  simp only [Ca,e1,e2,d1,d2,d3,d4];rfl
theorem Jd (p:UInt8→Bool) (s:Txt) (i:Nat) (hi:i<s.length) (h:i≤(s.takeWhile p).length) (hp:p s[i]=true):i+1≤(s.takeWhile p).length:=by
 induction s generalizing i with
 |nil=>cases hi
 |cons c r ih=>
  cases i with
  |zero=>simp only [List.getElem_cons_zero] at hp; simp [hp]
  |succ i=>
   by_cases hc:p c=true
   ·simp only [List.takeWhile_cons,hc,if_true,List.length_cons] at h⊢
    have:=ih i (by simpa using hi) (by omega) (by simpa using hp)
    omega
   ·simp [hc] at h
theorem N7 (p:UInt8→Bool) (s:Txt) (i:Nat) (hi:i<s.length) (h:i≤(s.takeWhile p).length) (hp:p s[i]=false):(s.takeWhile p).length=i:=by
 induction s generalizing i with
 |nil=>cases hi
 |cons c r ih=>
  cases i with
  |zero=>simp only [List.getElem_cons_zero] at hp; simp [hp]
  |succ i=>
   by_cases hc:p c=true
   ·simp only [List.takeWhile_cons,hc,if_true,List.length_cons] at h⊢
    rw [ih i (by simpa using hi) (by omega) (by simpa using hp)]
   ·simp [hc] at h
theorem Ho (g:FuncId) (p:UInt8→Bool) (hg:Byt g p) (s:Txt) (h:Heap):ak Tryz.prog 246 [.s s, .fn g []] h fun r h' =>r= .v (.int .i64 (s.takeWhile p).length)∧h' =h:=by
 refine ak.body hU hm Tryz.func246 rfl (by kernel_rfl) 20 rfl [.tmp 4] rfl (Uf rfl) (fun hwf=> ?_)
 have hlen:=hwf (.s s) (by simp)
 simp only [wfA,wf1,lim] at hlen;simp only [go_sem];refine .intro (fun m ρ h' =>h' =h∧∃i:Nat,i≤s.length∧m=s.length - i∧i≤(s.takeWhile p).length∧lk ρ 0=some (.s s)∧lk ρ 1=some (.fn g [])∧lk ρ 5=some (.v (.int .i64 i))) s.length ?_ ?_
 ·refine ⟨rfl,0,by omega,rfl,by omega, ?_, ?_, ?_⟩<;>simp only [go_sem]
 ·rintro m ρ h' ⟨rfl,i,hi,rfl,hc,r0,r1,r5⟩
  cases d1:decide ((i:Int)<(s.length:Int))
  ·have hge:i=s.length:=by have:=Uj d1; omega
   have:=gK p s;simp only [go_sem,r0,r5,d1];exact .same (.refl _) ⟨by simp only [au]; congr 3; omega,rfl⟩
  ·have hlt:i<s.length:=by have:=Ui d1; omega
   have w1:=Um i (by omega)
   simp only [go_sem,r0,r1,r5,d1];refine .at i hlt ?_;simp only [go_sem,cm];refine (hg s[i] _).pthen ?_;cases d2:p s[i]
   ·have:=N7 p s i hlt hc d2
    simp only [go_sem,r5];exact .same (.refl _) ⟨by rw [this]; rfl,rfl⟩
   ·simp only [go_sem,r5,w1]
    refine ⟨_, ?_,rfl,i+1,by omega,rfl,Jd p s i hlt hc d2, ?_, ?_, ?_⟩
    ·omega
    all_goals simp only [go_sem,r0,r1]
theorem vb (s:Txt) (h:Heap):ak Tryz.prog 200 [.s s] h fun r h' =>r= .s (iH s)∧h' =h:=by
 refine ak.body hU hm Tryz.func200 rfl (by kernel_rfl) 12 rfl [.tmp 2] rfl (Uf rfl) (fun hwf=> ?_)
 simp only [go_sem];refine (Ho _ _ El s _).pthen ?_;simp only [go_sem];refine ⟨by omega,by have:=gK wrd s; omega, ?_⟩
 simp only [go_sem,Option.isSome_none,Option.isSome_some,pZ,Int.toNat_natCast,om];refine ⟨by have:=gK wrd s; omega, ?_⟩
 refine (me _ _).pthen ?_;cases d1:bn (s.takeWhile wrd)
 ·simp only [go_sem]
  exact .same (.refl _) ⟨by simp [iH,d1,au],rfl⟩
 ·simp only [go_sem]
  exact .same (.refl _) ⟨by simp [iH,d1,au],rfl⟩
theorem wr8 {x:Int} (h:0≤x∧x<256):IntKind.u8.wrap x=x:=by
 unfold IntKind.wrap;simp only [IntKind.signed,IntKind.bits];simp;omega
theorem qc (c:UInt8) (h:Heap):ak Tryz.prog 273 [.v (.int .u8 c.toNat)] h fun r h' =>r= .v (.int .i64 (ia c))∧h' =h:=by
 refine ak.body hU hm Tryz.func273 rfl (by kernel_rfl) 20 rfl [.tmp 2] rfl (Uf rfl) (fun hwf=> ?_)
 have hc:=c.toNat_lt;simp only [go_sem];refine (ku c _).pthen ?_;cases d1:dgt c
 case true=>
  have e1:48≤(c.toNat:Int)∧(c.toNat:Int)≤57:=by simpa [dgt] using d1
  have w1:IntKind.u8.wrap ((c.toNat:Int) - 48)=(c.toNat:Int) - 48:=wr8 (by omega)
  have w2:IntKind.i64.wrap ((c.toNat:Int) - 48)=(c.toNat:Int) - 48:=bz _ (by omega)
  simp only [go_sem,w1,w2];exact .same (.refl _) ⟨by simp [ia,d1,au],rfl⟩
 cases d2:decide (97≤(c.toNat:Int))<;>cases d3:decide ((c.toNat:Int)≤102)
 case true.true=>
  have e2:=Ui d2;have e3:=Ui d3;have w1:IntKind.u8.wrap ((c.toNat:Int) - 97)=(c.toNat:Int) - 97:=wr8 (by omega)
  have w2:IntKind.i64.wrap ((c.toNat:Int) - 97)=(c.toNat:Int) - 97:=bz _ (by omega)
  have w3:IntKind.i64.wrap ((c.toNat:Int) - 97+10)=(c.toNat:Int) - 87:=by rw [bz _ (by omega)]; omega
  simp only [go_sem,d2,d3,w1,w2,w3];exact .same (.refl _) ⟨by simp [ia,d1,e2,e3,au],rfl⟩
 all_goals
  simp only [go_sem,d2,d3];simp only [decide_eq_true_eq,decide_eq_false_iff_not] at d2 d3;refine .same (.refl _) ⟨?_,rfl⟩;have:¬(97≤(c.toNat:Int)∧(c.toNat:Int)≤102):=by omega
  simp [ia,d1,this,au]
theorem C0 (c:UInt8): -1≤ia c∧ia c≤15:=by
 unfold ia;split
 ·rename_i h; simp [dgt] at h; omega
 ·split<;>omega
theorem HC (n:Nat) (h:n<256):((UInt8.ofNat n).toNat:Int)=n:=by
 simp; omega
theorem Ll (s:Txt) (h:Heap):ak Tryz.prog 250 [.s s] h fun r h' =>(∃x:Int,r= .tup [.v (.int .u8 x), .v (.bool (qC s).isSome)]∧∀c,qC s=some c→x=c.toNat)∧h' =h:=by
 refine ak.body hU hm Tryz.func250 rfl (by kernel_rfl) 38 rfl [.tmp 2, .tmp 3] rfl (Uf rfl) (fun hwf=> ?_)
 have hlen:=hwf (.s s) (by simp)
 simp only [wfA,wf1,lim] at hlen;cases d0:decide ((s.length:Int)<3)
 case true=>
  have e0:s.length<3:=by have:=Ui d0; omega
  have:qC s=none:=by
   match s,e0 with
   | [],_=>rfl
   | [_],_=>rfl
   | [_,_],_=>rfl
  simp only [go_sem,d0];exact .same (.refl _) ⟨⟨0,by rw [this]; rfl,fun c hc=>by rw [this] at hc; cases hc⟩,rfl⟩
 have e0:3≤s.length:=by have:=Uj d0; omega
 obtain ⟨b,x,y,t,rfl⟩:∃b x y t,s=b::x::y::t:=by
  match s,e0 with
  |b::x::y::t,_=>exact ⟨b,x,y,t,rfl⟩
 simp only [List.length_cons] at d0;have bad:qC (b::x::y::t)=none→∃z:Int,AV.tup [.v (.int .u8 0), .v (.bool false)]= .tup [.v (.int .u8 z), .v (.bool (qC (b::x::y::t)).isSome)]∧∀c,qC (b::x::y::t)=some c→z=c.toNat:=
  fun e=>⟨0,by rw [e]; rfl,fun c hc=>by rw [e] at hc; cases hc⟩
 cases d1:((b.toNat:Int) !=92)
 case true=>
  have e1:b≠92:=by rintro rfl; simp at d1
  simp only [go_sem,d0];refine .at 0 (by simp) ?_
  simp only [go_sem,cm,List.getElem_cons_zero,d1];exact .same (.refl _) ⟨bad (by simp [qC,e1]),rfl⟩
 have e1:b=92:=by
  have:(b.toNat:Int)=92:=by simpa using d1
  exact UInt8.toNat_inj.1 (by show b.toNat=92; omega)
 simp only [go_sem,d0];refine .at 0 (by simp) ?_
 simp only [go_sem,cm,List.getElem_cons_zero,d1];refine .at 1 (by simp) ?_
 simp only [go_sem,cm,List.getElem_cons_zero,List.getElem_cons_succ];refine (qc x _).pthen ?_;cases d2:decide (ia x<0)
 case true=>
  have e2:=Ui d2;simp only [go_sem,d2];exact .same (.refl _) ⟨bad (by simp [qC]; intros; omega),rfl⟩
 have e2:0≤ia x:=by have:=Uj d2; omega
 simp only [go_sem,d2];refine .at 2 (by simp) ?_
 simp only [go_sem,cm,List.getElem_cons_zero,List.getElem_cons_succ];refine (qc y _).pthen ?_;cases d3:decide (ia y<0)
 case true=>
  have e3:=Ui d3;simp only [go_sem,d3];exact .same (.refl _) ⟨bad (by simp [qC]; intros; omega),rfl⟩
 have e3:0≤ia y:=by have:=Uj d3; omega
 have hx:=C0 x;have hy:=C0 y;have w1:IntKind.i64.wrap (16*ia x)=16*ia x:=bz _ (by omega)
 have w2:IntKind.i64.wrap (16*ia x+ia y)=16*ia x+ia y:=bz _ (by omega)
 have w3:IntKind.u8.wrap (16*ia x+ia y)=((UInt8.ofNat (16*ia x+ia y).toNat).toNat:Int):=by
  rw [wr8 (by omega),HC _ (by omega)]; omega
 simp only [go_sem,d3];refine .quiet (by kernel_rfl) ?_
 simp only [go_sem];refine .at 1 (by simp) ?_
 simp only [go_sem,cm,List.getElem_cons_zero,List.getElem_cons_succ];refine ⟨_,qc x _, ?_⟩;simp only [go_sem];refine .at 2 (by simp) ?_
 simp only [go_sem,cm,List.getElem_cons_zero,List.getElem_cons_succ];refine ⟨_,qc y _, ?_⟩;simp only [go_sem,w1,w2,w3];refine (AB _ _).pthen ?_;simp only [go_sem];refine .same (.refl _) ⟨⟨((UInt8.ofNat (16*ia x+ia y).toNat).toNat:Int), ?_,fun c hc=> ?_⟩,rfl⟩
 ·cases d5:Ca (UInt8.ofNat (16*ia x+ia y).toNat)<;>simp [qC,e1,e2,e3,d5,au]
 ·simp only [qC] at hc
  split at hc
  ·cases hc; rfl
  ·cases hc
theorem u5z:(U 5).sz=1:=by simp only [go_sem]
theorem u5b:(U 5).bytes=1:=by simp only [go_sem]
theorem kT (l:List UInt8):Sized 1 (l.map cm):=fun z hz=>by
 obtain ⟨c,_,rfl⟩:=List.mem_map.1 hz; rfl
theorem Du (s:Txt) (hs:s.length≤10000) (h:Heap):ak Tryz.prog 203 [.s s] h fun r h' =>r= .tup [.s (vL s).1, .v (.int .i64 (vL s).2)]∧h' =h:=by
 refine ak.body hU hm Tryz.func203 rfl (by kernel_rfl) 50 rfl [.tmp 2, .tmp 3] rfl (Uf rfl) (fun hwf=> ?_)
 simp only [go_sem];refine .intro (fun m ρ h' =>∃(i f:Nat) (y:AV) (out:Txt),Acc U 5 h h' y (out.map cm)∧out.length≤i∧m=s.length+1 - i∧i≤s.length+3∧s.length≤f+i∧qS f (s.drop i) i out=vL s∧lk ρ 0=some (.s s)∧lk ρ 4=some y∧lk ρ 5=some (.v (.int .i64 i))) s.length ?_ ?_
 ·refine ⟨1,s.length, .sl [] .full,[], .full (.refl _),by simp,by omega,by omega,by omega,rfl, ?_, ?_, ?_⟩<;>simp only [go_sem]
 ·rintro m ρ h' ⟨i,f,y,out,hy,hoi,rfl,hi,hf,he,r0,r4,r5⟩
  cases d1:decide ((i:Int)<(s.length:Int))
  ·have hge:s.length≤i:=by have:=Uj d1; omega
   have hd:s.drop i= []:=List.drop_of_length_le hge;have:vL s=([],0):=by
    rw [←he,hd];cases f<;>rfl
   simp only [go_sem,r0,r5,d1];exact .mk _ (.refl _) hy.1 ⟨by rw [this]; rfl,rfl⟩
  have hlt:i<s.length:=by have:=Ui d1; omega
  obtain ⟨f,rfl⟩:∃g,f=g+1:=⟨f - 1,by omega⟩
  have hdr:s.drop i=s[i]::s.drop (i+1):=List.drop_eq_getElem_cons hlt;rw [hdr] at he;simp only [qS] at he;have w1:=Um i (by omega)
  have w3:IntKind.i64.wrap ((i:Int)+3)=((i+3:Nat):Int):=by rw [bz _ (by omega)]; omega
  simp only [go_sem,r0,r5,d1];refine .at i hlt ?_;cases d2:((s[i].toNat:Int)==34)
  case true=>
   have e2:s[i]=34:=by
    have:(s[i].toNat:Int)=34:=by simpa using d2
    exact UInt8.toNat_inj.1 (by show s[i].toNat=34; omega)
   rw [if_pos e2] at he;cases d3:decide (64<(out.length:Int))
   case true=>
    have e3:64<out.length:=by have:=Ui d3; omega
    rw [if_pos e3] at he;simp only [go_sem,r4,cm,d2,hy.len,Ug,d3];exact .mk _ (.refl _) hy.1 ⟨by rw [←he]; rfl,rfl⟩
   have e3:¬64<out.length:=by have:=Uj d3; omega
   rw [if_neg e3] at he;simp only [go_sem,r4,cm,d2,hy.len,Ug,d3];obtain ⟨q,rfl⟩:=hy.row;simp only [go_sem,r5,w1];exact .mk _ (.refl _) hy.1 ⟨by rw [←he]; rfl,rfl⟩
  have e2:s[i]≠34:=by intro e; rw [e] at d2; simp at d2
  rw [if_neg e2] at he;simp only [go_sem,r0,r5,cm,d2];refine .at i hlt ?_;simp only [go_sem,cm];refine (AB _ _).pthen ?_;cases d4:Ca s[i]
  ·rw [if_pos d4] at he
   simp only [go_sem,r0,r4,r5,d4];refine .at i hlt ?_;simp only [go_sem,cm];refine hy.app (zs:= [cm s[i]]) (by rw [u5z]; decide) (by rw [u5b]; decide) (fun k hk=>hk) (by rw [u5z]; exact kT out) (by rw [u5z]; exact kT [s[i]]) (by rw [u5b]; simp; omega) fun y' h2 hy' hk2=> ?_
   simp only [go_sem,r5,w1];refine ⟨_, ?_,i+1,f,y',out++ [s[i]],by simpa using hy',by simp; omega,rfl,by omega,by omega,he, ?_, ?_, ?_⟩
   ·omega
   all_goals simp only [go_sem,r0]
  ·rw [if_neg (by simp [d4])] at he
   simp only [go_sem,r0,r5,d4];refine ⟨by omega, ?_⟩
   simp only [go_sem,Option.isSome_none,Option.isSome_some,jX,Int.toNat_natCast];refine ⟨by omega,by omega, ?_⟩
   refine (Ll _ _).mono fun x h2 hx=> ?_
   obtain ⟨⟨v,rfl,hv⟩,rfl⟩:=hx;rw [←hdr] at he;cases e5:qC (s.drop i) with
   |none=>
    rw [e5] at he;simp only [go_sem,Option.isSome_none];exact .mk _ (.refl _) hy.1 ⟨by rw [←he]; rfl,rfl⟩
   |some b=>
    rw [e5] at he;have hvb:=hv b e5;subst hvb;have h3:=Ap e5;simp only [List.length_drop] at h3;simp only [go_sem,r4,Option.isSome_some];refine hy.app (zs:= [cm b]) (by rw [u5z]; decide) (by rw [u5b]; decide) (fun k hk=>hk) (by rw [u5z]; exact kT out) (by rw [u5z]; exact kT [b]) (by rw [u5b]; simp; omega) fun y' h2 hy' hk2=> ?_
    simp only [go_sem,r5,w3];refine ⟨_, ?_,i+3,f,y',out++ [b],by simpa using hy',by simp; omega,rfl,by omega,by omega, ?_, ?_, ?_, ?_⟩
    ·omega
    ·simp only [List.drop_drop] at he
     exact he
    all_goals simp only [go_sem,r0]
end Go.Proofs.YtmlhcdeamjkpjaaGreatDoor
namespace Go.Bf
open Go Go.Ab
theorem CQ (c:UInt8):dgt c=true↔48≤c.toNat∧c.toNat≤57:=by
 simp only [dgt,Bool.and_eq_true,decide_eq_true_eq]; omega
def DO (acc:Nat) (l:Txt):Nat:=l.foldl (fun n c=>n*10+(c.toNat - 48)) acc
theorem wU (acc:Nat) (c:UInt8) (r:Txt):DO acc (c::r)=DO (acc*10+(c.toNat - 48)) r:=List.foldl_cons ..
theorem zx:∀(l:Txt) (acc:Nat),acc≤DO acc l
 | [],acc=>Nat.le_refl _
 |c::r,acc=>by rw [wU]; exact Nat.le_trans (by omega) (zx r (acc*10+(c.toNat - 48)))
theorem qH:∀(l:Txt) (acc:Nat),(∀c∈l,dgt c=true)→acc<18446744073709551616→
  Lib.parseUint10 acc l=if DO acc l<18446744073709551616 then .ok (DO acc l) else .range
 | [],acc,_,ha=>by
  have:DO acc []=acc:=rfl;rw [this,if_pos ha]; rfl
 |c::r,acc,hd,ha=>by
  have hc:=(CQ c).1 (hd c (by simp))
  have hm:=zx r (acc*10+(c.toNat - 48));rw [wU];unfold Lib.parseUint10;rw [if_pos hc];split
  ·rw [if_neg (by omega)]
  ·split
   ·rw [if_neg (by omega)]
   ·exact qH r _ (fun x hx=>hd x (by simp [hx])) (by omega)
def lg (neg:Bool):Txt:=if neg then [45] else []
theorem sk (neg:Bool) (d:Txt) (h0:d≠ []) (hd:∀c∈d,dgt c=true):
  Lib.atoiAll (lg neg++d)=if -9223372036854775808≤(if neg then -(mT d:Int) else (mT d:Int))∧(if neg then -(mT d:Int) else (mT d:Int))≤9223372036854775807 then .ok (if neg then -(mT d:Int) else (mT d:Int)) else .range:=by
 have hp:Lib.parseMag d=if mT d<18446744073709551616 then .ok (mT d) else .range:=by
  unfold Lib.parseMag;rw [if_neg h0];exact qH d 0 hd (by decide)
 cases neg
 ·obtain ⟨c,r,rfl⟩:=List.exists_cons_of_ne_nil h0
  have hc:=(CQ c).1 (hd c (by simp))
  simp only [lg,Bool.false_eq_true,if_false,List.nil_append,Lib.atoiAll];rw [if_neg (by omega),hp]
  have e45:(c.toNat=45)=False:=by simp; omega
  simp only [e45,not_false_eq_true,true_and,false_and,if_false];split
  ·rename_i h; split at h
   ·cases h
   ·cases h
  ·rename_i h; split at h
   ·cases h
   ·rw [if_neg (by omega)]
  ·rename_i u h; split at h
   ·cases h
    split
    ·rw [if_neg (by omega)]
    ·rw [if_pos (by omega)]
   ·cases h
 ·simp only [lg,if_true,List.cons_append,List.nil_append,Lib.atoiAll]
  rw [if_pos (.inr (by decide)),hp]
  simp only [show ((45:UInt8).toNat=45)=True by simp,not_true_eq_false,false_and,if_false,true_and,if_true]
  split
  ·rename_i h; split at h
   ·cases h
   ·cases h
  ·rename_i h; split at h
   ·cases h
   ·rw [if_neg (by omega)]
  ·rename_i u h; split at h
   ·cases h
    split
    ·rw [if_neg (by omega)]
    ·rw [if_pos (by omega)]
   ·cases h
theorem wF (s:Txt):∀c∈s.takeWhile dgt,dgt c=true:=fun c hc=>by
 induction s with
 |nil=>cases hc
 |cons x r ih=>
  simp only [List.takeWhile_cons] at hc;split at hc
  ·rename_i hx
   rcases List.mem_cons.1 hc with rfl|hc
   ·exact hx
   ·exact ih hc
  ·cases hc
end Go.Bf
namespace Go.Proofs
open Go.Shelf
def Tryz.Ac:Go.Shelf.Ren:=⟨fun|137=>204|217=>251|266=>274|n=>n,fun|9=>9|5=>5|3=>3|n=>n,fun|n=>n⟩
theorem Tryz.IM:Go.Proofs.Lays.n137 Tryz.prog Tryz.Ac:= {
 mixed:=by kernel_rfl
 f137:=Tryz.func204.trans (congrArg some (by kernel_rfl))
 f217:=Tryz.func251.trans (congrArg some (by kernel_rfl))
 f266:=Tryz.func274.trans (congrArg some (by kernel_rfl))
 t3:=Tryz.underlying3
 a3:=Tryz.isAgg3
 z3:=Tryz.sizeOf3
 v3:=Tryz.zeroValue3
 t5:=Tryz.underlying5
 a5:=Tryz.isAgg5
 z5:=Tryz.sizeOf5
 v5:=Tryz.zeroValue5
 t9:=Tryz.underlying9
 a9:=Tryz.isAgg9
 z9:=Tryz.sizeOf9
 v9:=Tryz.zeroValue9}
open Go.RowKit in
theorem Tryz.strings_IndexByte (s:ByteArray) (c:Int) (w:World):
  Calls Tryz.prog 204 #[.string s, .int .u8 c] w fun e w' =>e= .returned (.int .i64 (Lib.indexByte s.data.toList c.toNat.toUInt8))∧w' =w:=Any.strings_IndexByte Tryz.IM s c w
def Tryz.yF:Go.Shelf.Ren:=⟨fun|172=>248|244=>271|245=>272|247=>291|279=>292|280=>293|281=>294|282=>295|287=>315|316=>316|171=>318|205=>317|321=>321|322=>322|243=>323|246=>324|283=>325|284=>326|285=>327|286=>328|129=>330|317=>329|318=>331|319=>332|320=>333|337=>334|338=>335|n=>n,fun|9=>9|3=>3|75=>310|76=>311|4=>4|5=>5|167=>357|37=>236|0=>0|85=>358|2=>2|168=>360|53=>231|175=>372|46=>279|210=>375|127=>381|145=>384|143=>382|21=>21|171=>386|173=>389|212=>392|51=>393|20=>20|213=>394|232=>397|233=>398|80=>223|n=>n,fun|15=>1|16=>2|17=>3|18=>4|19=>5|n=>n⟩
theorem Tryz.Ad:Go.Proofs.LaysC.n172 Tryz.prog Tryz.yF:= {
 mixed:=by kernel_rfl
 f129:=Tryz.func330.trans (congrArg some (by kernel_rfl))
 f171:=Tryz.func318.trans (congrArg some (by kernel_rfl))
 f172:=Tryz.func248.trans (congrArg some (by kernel_rfl))
 f205:=Tryz.func317.trans (congrArg some (by kernel_rfl))
 f243:=Tryz.func323.trans (congrArg some (by kernel_rfl))
 f244:=Tryz.func271.trans (congrArg some (by kernel_rfl))
 f245:=Tryz.func272.trans (congrArg some (by kernel_rfl))
 f246:=Tryz.func324.trans (congrArg some (by kernel_rfl))
 f247:=Tryz.func291.trans (congrArg some (by kernel_rfl))
 f279:=Tryz.func292.trans (congrArg some (by kernel_rfl))
 f280:=Tryz.func293.trans (congrArg some (by kernel_rfl))
 f281:=Tryz.func294.trans (congrArg some (by kernel_rfl))
 f282:=Tryz.func295.trans (congrArg some (by kernel_rfl))
 f283:=Tryz.func325.trans (congrArg some (by kernel_rfl))
 f284:=Tryz.func326.trans (congrArg some (by kernel_rfl))
 f285:=Tryz.func327.trans (congrArg some (by kernel_rfl))
 f286:=Tryz.func328.trans (congrArg some (by kernel_rfl))
 f287:=Tryz.func315.trans (congrArg some (by kernel_rfl))
 f316:=Tryz.func316.trans (congrArg some (by kernel_rfl))
 f317:=Tryz.func329.trans (congrArg some (by kernel_rfl))
 f318:=Tryz.func331.trans (congrArg some (by kernel_rfl))
 f319:=Tryz.func332.trans (congrArg some (by kernel_rfl))
 f320:=Tryz.func333.trans (congrArg some (by kernel_rfl))
 f321:=Tryz.func321.trans (congrArg some (by kernel_rfl))
 f322:=Tryz.func322.trans (congrArg some (by kernel_rfl))
 f337:=Tryz.func334.trans (congrArg some (by kernel_rfl))
 f338:=Tryz.func335.trans (congrArg some (by kernel_rfl))
 t0:=Tryz.underlying0
 a0:=Tryz.isAgg0
 z0:=Tryz.sizeOf0
 v0:=Tryz.zeroValue0
 t2:=Tryz.underlying2
 a2:=Tryz.isAgg2
 z2:=Tryz.sizeOf2
 v2:=Tryz.zeroValue2
 t3:=Tryz.underlying3
 a3:=Tryz.isAgg3
 z3:=Tryz.sizeOf3
 v3:=Tryz.zeroValue3
 t4:=Tryz.underlying4
 a4:=Tryz.isAgg4
 z4:=Tryz.sizeOf4
 v4:=Tryz.zeroValue4
 t5:=Tryz.underlying5
 a5:=Tryz.isAgg5
 z5:=Tryz.sizeOf5
 v5:=Tryz.zeroValue5
 t9:=Tryz.underlying9
 a9:=Tryz.isAgg9
 z9:=Tryz.sizeOf9
 v9:=Tryz.zeroValue9
 t20:=Tryz.underlying20
 a20:=Tryz.isAgg20
 z20:=Tryz.sizeOf20
 v20:=Tryz.zeroValue20
 t21:=Tryz.underlying21
 a21:=Tryz.isAgg21
 z21:=Tryz.sizeOf21
 v21:=Tryz.zeroValue21
 t37:=Tryz.underlying236
 a37:=Tryz.isAgg236
 z37:=Tryz.sizeOf236
 v37:=Tryz.zeroValue236
 t46:=Tryz.underlying279
 a46:=Tryz.isAgg279
 z46:=Tryz.sizeOf279
 v46:=Tryz.zeroValue279
 t51:=Tryz.underlying393
 a51:=Tryz.isAgg393
 z51:=Tryz.sizeOf393
 v51:=Tryz.zeroValue393
 t53:=Tryz.underlying231
 a53:=Tryz.isAgg231
 z53:=Tryz.sizeOf231
 v53:=Tryz.zeroValue231
 t75:=Tryz.underlying310
 a75:=Tryz.isAgg310
 z75:=Tryz.sizeOf310
 v75:=Tryz.zeroValue310
 t76:=Tryz.underlying311
 a76:=Tryz.isAgg311
 z76:=Tryz.sizeOf311
 v76:=Tryz.zeroValue311
 t85:=Tryz.underlying358
 a85:=Tryz.isAgg358
 z85:=Tryz.sizeOf358
 v85:=Tryz.zeroValue358
 t127:=Tryz.underlying381
 a127:=Tryz.isAgg381
 z127:=Tryz.sizeOf381
 v127:=Tryz.zeroValue381
 t143:=Tryz.underlying382
 a143:=Tryz.isAgg382
 z143:=Tryz.sizeOf382
 v143:=Tryz.zeroValue382
 t145:=Tryz.underlying384
 a145:=Tryz.isAgg384
 z145:=Tryz.sizeOf384
 v145:=Tryz.zeroValue384
 t167:=Tryz.underlying357
 a167:=Tryz.isAgg357
 z167:=Tryz.sizeOf357
 v167:=Tryz.zeroValue357
 t168:=Tryz.underlying360
 a168:=Tryz.isAgg360
 z168:=Tryz.sizeOf360
 v168:=Tryz.zeroValue360
 t171:=Tryz.underlying386
 a171:=Tryz.isAgg386
 z171:=Tryz.sizeOf386
 v171:=Tryz.zeroValue386
 t173:=Tryz.underlying389
 a173:=Tryz.isAgg389
 z173:=Tryz.sizeOf389
 v173:=Tryz.zeroValue389
 t175:=Tryz.underlying372
 a175:=Tryz.isAgg372
 z175:=Tryz.sizeOf372
 v175:=Tryz.zeroValue372
 t210:=Tryz.underlying375
 a210:=Tryz.isAgg375
 z210:=Tryz.sizeOf375
 v210:=Tryz.zeroValue375
 t212:=Tryz.underlying392
 a212:=Tryz.isAgg392
 z212:=Tryz.sizeOf392
 v212:=Tryz.zeroValue392
 t213:=Tryz.underlying394
 a213:=Tryz.isAgg394
 z213:=Tryz.sizeOf394
 t232:=Tryz.underlying397
 a232:=Tryz.isAgg397
 z232:=Tryz.sizeOf397
 v232:=Tryz.zeroValue397
 t233:=Tryz.underlying398
 a233:=Tryz.isAgg398
 z233:=Tryz.sizeOf398
 v233:=Tryz.zeroValue398
 g15:=by kernel_rfl
 g16:=by kernel_rfl
 g17:=by kernel_rfl
 g18:=by kernel_rfl
 g19:=by kernel_rfl
 t80:=Tryz.underlying223
 a80:=Tryz.isAgg223
 z80:=Tryz.sizeOf223
 v80:=Tryz.zeroValue223
 i0:=by kernel_rfl
 i2:=by kernel_rfl
 i3:=by kernel_rfl
 i4:=by kernel_rfl
 i5:=by kernel_rfl
 i9:=by kernel_rfl
 i20:=by kernel_rfl
 i21:=by kernel_rfl
 i37:=by kernel_rfl
 i46:=by kernel_rfl
 i51:=by kernel_rfl
 i53:=by kernel_rfl
 i75:=by kernel_rfl
 i76:=by kernel_rfl
 i80:=by kernel_rfl
 i85:=by kernel_rfl
 i127:=by kernel_rfl
 i143:=by kernel_rfl
 i145:=by kernel_rfl
 i167:=by kernel_rfl
 i168:=by kernel_rfl
 i171:=by kernel_rfl
 i173:=by kernel_rfl
 i175:=by kernel_rfl
 i210:=by kernel_rfl
 i212:=by kernel_rfl
 i232:=by kernel_rfl
 i233:=by kernel_rfl
 m15:=by kernel_rfl
 m16:=by kernel_rfl
 m17:=by kernel_rfl
 m18:=by kernel_rfl
 m19:=by kernel_rfl
 c0:=by kernel_rfl
 c2:=by kernel_rfl
 c3:=by kernel_rfl
 c4:=by kernel_rfl
 c5:=by kernel_rfl
 c9:=by kernel_rfl
 c20:=by kernel_rfl
 c21:=by kernel_rfl
 c37:=by kernel_rfl
 c46:=by kernel_rfl
 c51:=by kernel_rfl
 c53:=by kernel_rfl
 c75:=by kernel_rfl
 c76:=by kernel_rfl
 c80:=by kernel_rfl
 c85:=by kernel_rfl
 c127:=by kernel_rfl
 c143:=by kernel_rfl
 c145:=by kernel_rfl
 c167:=by kernel_rfl
 c168:=by kernel_rfl
 c171:=by kernel_rfl
 c173:=by kernel_rfl
 c175:=by kernel_rfl
 c210:=by kernel_rfl
 c212:=by kernel_rfl
 c213:=by kernel_rfl
 c232:=by kernel_rfl
 c233:=by kernel_rfl}
open Go.RowKit in
theorem Tryz.strconv_Atoi_ok (s:ByteArray) (hmax:s.size≤9223372036854775806) (v:Int) (h:Lib.atoiAll s.data.toList= .ok v) (w:World):
  Calls Tryz.prog 248 #[.string s] w fun e w' =>e= .returned (.tuple #[.int .i64 v, .nilIface])∧(w' =w∨∃t,w' =Lib.bytesWorld w 5 t):=Any.strconv_Atoi_ok Tryz.Ad s hmax v h w
open Go.RowKit in
theorem Tryz.strconv_Atoi_range (s:ByteArray) (hlim:s.size≤281474976710656) (h:Lib.atoiAll s.data.toList= .range) (ev:Value) (w:World) (hv:w.cell? ⟨2,0,none⟩=some ev) (hev:ev= .nilIface∨∃te pe,ev= .iface te pe):
  Calls Tryz.prog 248 #[.string s] w fun e w' =>∃N,e= .returned (.tuple #[.int .i64 (Lib.atoiSat s.data.toList), .iface 360 (.pointer (some ⟨N,0,none⟩))])∧w.heap.size≤N∧w'.heap[N]? =some (.cells #[.string ⟨#[65,116,111,105]⟩, .string s,ev] 375 (0,0))∧Below w.heap.size w w' :=Any.strconv_Atoi_range Tryz.Ad s hlim h ev w hv hev
end Go.Proofs
namespace Go.Proofs.YtmlhcdeamjkpjaaGreatDoor
open Go Go.Ab Go.Bf Go.RowKit
theorem EN (s:Txt) (hs:s.length≤100000) (w:World):Calls Tryz.prog 246 #[.string ⟨s.toArray⟩, .func (.func 201) #[] #[]] w fun e w' =>e= .returned (.int .i64 (s.takeWhile dgt).length)∧Below w.heap.size w w' :=by
 refine Go.Ab.ak.calls (args:= [.s s, .fn 201 []]) ⟨_,Tryz.func246,by kernel_rfl,rfl⟩ ((Ho _ _ ku s cW).mono fun _ _ h=>h.1) rfl (fun i hi=> ?_)
 rcases i with _|_|i
 ·exact .s s (by show s.length<lim; have:(100000:Nat)<lim:=(by decide); omega)
 ·exact .fn _ [] #[] rfl (fun i hi=>by cases hi)
 ·simp at hi; omega
def wH (neg:Bool) (d:Txt):Int:=if neg then -(mT d:Int) else (mT d:Int)
def inI (neg:Bool) (d:Txt):Prop:= -9223372036854775808≤(if neg then -(mT d:Int) else (mT d:Int))∧(if neg then -(mT d:Int) else (mT d:Int))≤9223372036854775807
instance (neg:Bool) (d:Txt):Decidable (inI neg d):=inferInstanceAs (Decidable (_∧_))
theorem vF (neg:Bool):(lg neg).length≤1:=by cases neg<;>decide
theorem CK (neg:Bool) (d:Txt) (h0:d≠ []) (hd:∀c∈d,dgt c=true) (hlen:d.length≤10000) (S:ByteArray) (hS:S=⟨(lg neg++d).toArray⟩) (hr:inI neg d) (W:World):
  Calls Tryz.prog 248 #[.string S] W fun e w' =>e= .returned (.tuple #[.int .i64 (wH neg d), .nilIface])∧Below W.heap.size W w' :=by
 have hl:=vF neg;have hsz:S.size≤10001:=by rw [hS]; simp [ByteArray.size]; omega
 have ha:Lib.atoiAll S.data.toList= .ok (wH neg d):=by
  rw [hS]
  show Lib.atoiAll (lg neg++d)=_
  rw [sk neg d h0 hd];exact if_pos hr
 refine (Tryz.strconv_Atoi_ok S (by omega) _ ha W).mono ?_
 rintro e w' ⟨rfl,rfl|⟨t,rfl⟩⟩
 ·exact ⟨rfl, .refl _ _⟩
 ·exact ⟨rfl,Lib.bytesWorld_below W _ t⟩
theorem zf (neg:Bool) (d:Txt) (h0:d≠ []) (hd:∀c∈d,dgt c=true) (hlen:d.length≤10000) (S:ByteArray) (hS:S=⟨(lg neg++d).toArray⟩) (hr:¬inI neg d) (W:World) (ev:Value) (hv:W.cell? ⟨2,0,none⟩=some ev) (hev:ev= .nilIface∨∃te pe,ev= .iface te pe):
  Calls Tryz.prog 248 #[.string S] W fun e w' =>(∃(x:Int) (N:Nat),e= .returned (.tuple #[.int .i64 x, .iface 360 (.pointer (some ⟨N,0,none⟩))]))∧Below W.heap.size W w' :=by
 have hl:=vF neg;have hsz:S.size≤10001:=by rw [hS]; simp [ByteArray.size]; omega
 have ha:Lib.atoiAll S.data.toList= .range:=by
  rw [hS]
  show Lib.atoiAll (lg neg++d)=_
  rw [sk neg d h0 hd];exact if_neg hr
 refine (Tryz.strconv_Atoi_range S (by omega) ha ev W hv hev).mono ?_
 rintro e w' ⟨N,rfl,_,_,hb⟩
 exact ⟨⟨_,N,rfl⟩,hb⟩
set_option maxHeartbeats 1000000 in
set_option maxRecDepth 1000000 in
theorem Ao (neg:Bool) (s:Txt) (hs:s.length≤10000) (w:World) (ev:Value) (hv:w.cell? ⟨2,0,none⟩=some ev) (hev:ev= .nilIface∨∃te pe,ev= .iface te pe) (hg:2<w.heap.size):
  Calls Tryz.prog 202 #[.string ⟨(lg neg).toArray⟩, .string ⟨s.toArray⟩] w fun e w' =>e= .returned (.tuple #[.int .i64 (dV neg s).1, .int .i64 ((dV neg s).2:Nat)])∧Below w.heap.size w w' :=by
 have hle:=gK dgt s;obtain ⟨d,ed⟩:∃d,s.takeWhile dgt=d:=⟨_,rfl⟩;have htk:s.take d.length=d:=by rw [←ed,om]
 have hrun:=EN s (by omega) w
 have hall:=wF s;rw [ed] at hrun hle hall
 go_enter Tryz.func202,Tryz.ntmps202
 by_cases h0:d.length=0
 ·have e0:d= []:=List.length_eq_zero_iff.1 h0
  have en:dV neg s=(0,0):=by unfold dV; rw [ed,if_pos (.inl e0)]
  go_wp2_with (go_at_call 246; refine hrun.mono ?_)
  rintro e W0 ⟨rfl,b0⟩
  rw [h0]
  go_wp2
  go_ret2
  rw [en];exact ⟨rfl,b0⟩
 ·have e0:d≠ []:=by rintro rfl; exact h0 rfl
  go_wp2_with (go_at_call 246; refine hrun.mono ?_)
  rintro e W0 ⟨rfl,b0⟩
  have hpos:0<d.length:=by omega
  have hs0:0<s.length:=by omega
  have hsz:0<(⟨s.toArray⟩:ByteArray).size:=by simpa [ByteArray.size] using hs0
  have hg0:(⟨s.toArray⟩:ByteArray)[0]=s[0]:=rfl;have hgn:∀x:UInt8,(s.head? =some x)↔s[0]=x:=fun x=>by
   rw [List.head?_eq_getElem?,List.getElem?_eq_getElem hs0]; simp
  cases d0:((d.length:Int)==0)
  case true=>exact absurd (by simpa using d0) h0
  have hS:(⟨(lg neg).toArray⟩:ByteArray)++(⟨s.toArray⟩:ByteArray).extract 0 d.length=⟨(lg neg++d).toArray⟩:=by
   apply ByteArray.ext;simp [ByteArray.data_extract,htk]
  have hcat:¬9223372036854775807<List.length (lg neg)+d.length:=by have:=vF neg; omega
  cases d1:decide (1<(d.length:Int))
  ·have f1:¬1<d.length:=by have:=Uj d1; omega
   have en:dV neg s=if inI neg d then (wH neg d,d.length) else (0,0):=by
    unfold dV;rw [ed,if_neg (by simp [e0,f1])]
    rfl
   have hv0:W0.cell? ⟨2,0,none⟩=some ev:=by rw [b0.cell hg]; exact hv
   by_cases hr:inI neg d
   ·rw [if_pos hr] at en
    go_wp2_with (go_at_call 248; refine (CK neg d e0 hall (by omega) _ (by first|exact hS|(apply ByteArray.ext; simp [ByteArray.data_extract])) hr _).mono ?_)
    rintro e W1 ⟨rfl,b1⟩
    go_wp2
    go_ret2
    rw [en];exact ⟨rfl,b0.trans (b1.mono b0.size)⟩
   ·rw [if_neg hr] at en
    go_wp2_with (go_at_call 248; refine (zf neg d e0 hall (by omega) _ (by first|exact hS|(apply ByteArray.ext; simp [ByteArray.data_extract])) hr _ ev hv0 hev).mono ?_)
    rintro e W1 ⟨⟨x,N,rfl⟩,b1⟩
    go_wp2
    go_ret2
    rw [en];exact ⟨rfl,b0.trans (b1.mono b0.size)⟩
  ·have f1:1<d.length:=by have:=Ui d1; omega
   cases d2:((s[0].toNat:Int)==48)
   ·have f2:s.head?≠some 48:=by
     rw [ne_eq,hgn]; intro e; rw [e] at d2; simp at d2
    have en:dV neg s=if inI neg d then (wH neg d,d.length) else (0,0):=by
     unfold dV;rw [ed,if_neg (by simp [e0,f2])]
     rfl
    have hv0:W0.cell? ⟨2,0,none⟩=some ev:=by rw [b0.cell hg]; exact hv
    by_cases hr:inI neg d
    ·rw [if_pos hr] at en
     go_wp2_with (go_at_call 248; refine (CK neg d e0 hall (by omega) _ (by first|exact hS|(apply ByteArray.ext; simp [ByteArray.data_extract])) hr _).mono ?_)
     rintro e W1 ⟨rfl,b1⟩
     go_wp2
     go_ret2
     rw [en];exact ⟨rfl,b0.trans (b1.mono b0.size)⟩
    ·rw [if_neg hr] at en
     go_wp2_with (go_at_call 248; refine (zf neg d e0 hall (by omega) _ (by first|exact hS|(apply ByteArray.ext; simp [ByteArray.data_extract])) hr _ ev hv0 hev).mono ?_)
     rintro e W1 ⟨⟨x,N,rfl⟩,b1⟩
     go_wp2
     go_ret2
     rw [en];exact ⟨rfl,b0.trans (b1.mono b0.size)⟩
   ·have f2:s.head? =some 48:=by
     rw [hgn];have:(s[0].toNat:Int)=48:=by simpa using d2
     exact UInt8.toNat_inj.1 (by show s[0].toNat=48; omega)
    have en:dV neg s=(0,0):=by unfold dV; rw [ed,if_pos (.inr ⟨f1,f2⟩)]
    go_wp2
    go_ret2
    rw [en];exact ⟨rfl,b0⟩
def tq (h:Heap):Prop:=∃ev:Value,(ev= .nilIface∨∃te pe,ev= .iface te pe)∧Tab h 2 [ev]
theorem tq.sub {h h' :Heap} (he:tq h) (hs:Ab.Sub h h'):tq h' :=by
 obtain ⟨ev,h1,h2⟩:=he;exact ⟨ev,h1,h2.sub hs⟩
theorem j7 (neg:Bool) (s:Txt) (hs:s.length≤10000) (h:Heap) (he:tq h):ak Tryz.prog 202 [.s (lg neg), .s s] h fun r h' =>r= .tup [.v (.int .i64 (dV neg s).1), .v (.int .i64 ((dV neg s).2:Nat))]∧h' =h:=by
 obtain ⟨ev,hev,id,hi⟩:=he;refine .lib ⟨_,Tryz.func202,by kernel_rfl,rfl⟩ fun c vs hs' g h1 h2=> ?_
 obtain ⟨u,v,rfl⟩:∃u v,vs= #[u,v]:=by
  match vs,h1 with
  |⟨[u,v]⟩,_=>exact ⟨u,v,rfl⟩
 have e1:u= .string ⟨(lg neg).toArray⟩:=((h2 0 (by simp)).lf).1
 have e2:v= .string ⟨s.toArray⟩:=((h2 1 (by simp)).lf).1
 subst e1; subst e2
 obtain ⟨_,t,fr,hh⟩:=g.ro id _ _ (hs' _ _ hi);have hc:c.w.cell? ⟨2,0,none⟩=some ev:=by simp [World.cell?,hh]
 refine (Ao neg s hs c.w ev hc hev (bY hh)).mono ?_
 rintro e w' ⟨rfl,hb⟩
 refine ⟨⟨_,rfl,fun c' _=> ?_⟩,hb⟩
 refine .tup _ _ rfl fun i hi=> ?_
 rcases i with _|_|i
 ·exact .v _
 ·exact .v _
 ·simp at hi; omega
end Go.Proofs.YtmlhcdeamjkpjaaGreatDoor
namespace Go.Bf
open Go Go.Ab
def marks:Txt:= [123,125,40,41,46,44,59,61,60,62,33]
set_option maxRecDepth 100000 in
theorem v7:∀n:Fin 256,decide (0≤Lib.indexByte marks (UInt8.ofNat n.val))=Aj (UInt8.ofNat n.val):=by decide
theorem oD (c:UInt8):decide (0≤Lib.indexByte marks c)=Aj c:=by
 have:=v7 ⟨c.toNat,c.toNat_lt⟩;simpa using this
end Go.Bf
namespace Go.Proofs.YtmlhcdeamjkpjaaGreatDoor
open Go Go.Ab Go.Bf
theorem zX (l:Txt) (c:UInt8) (h:Heap):ak Tryz.prog 204 [.s l, .v (.int .u8 c.toNat)] h fun r h' =>r= .v (.int .i64 (Lib.indexByte l c))∧h' =h:=by
 refine .lib ⟨_,Tryz.func204,by kernel_rfl,rfl⟩ fun cx vs hs' g h1 h2=> ?_
 obtain ⟨u,v,rfl⟩:∃u v,vs= #[u,v]:=by
  match vs,h1 with
  |⟨[u,v]⟩,_=>exact ⟨u,v,rfl⟩
 have e1:u= .string ⟨l.toArray⟩:=((h2 0 (by simp)).lf).1
 have e2:v= .int .u8 c.toNat:=(h2 1 (by simp)).bN
 subst e1; subst e2
 refine (Tryz.strings_IndexByte ⟨l.toArray⟩ c.toNat cx.w).mono ?_
 rintro e w' ⟨rfl,rfl⟩
 refine ⟨⟨_,rfl,fun c' _=> ?_⟩, .refl _ _⟩
 have:((c.toNat:Int).toNat).toUInt8=c:=by simp
 rw [this];exact .v _
theorem DF (s:Txt) (h0:s≠ []) (hs:s.length≤4096) (h:Heap) (he:tq h):ak Tryz.prog 150 [.s s] h fun r h' =>r= .tup [eY (bI s).1, .v (.int .i64 ((bI s).2:Nat))]∧h' =h:=by
 refine ak.body hU hm Tryz.func150 rfl (by kernel_rfl) 106 rfl [.cell 2 168, .tmp 3] rfl (Uf rfl) (fun hwf=> ?_)
 obtain ⟨c,r,rfl⟩:=List.exists_cons_of_ne_nil h0;have hsl:r.length≤4095:=by simpa using hs
 simp only [go_sem];intro i2 hi2;simp only [go_sem];intro i4 hi4;have n24:=aH hi4;have g2:∀(f:Heap) (x:Option Blk),upd f i4 x i2=f i2:=fun f x=>ag f x n24.symm
 have g4:∀(f:Heap) (x:Option Blk),upd f i2 x i4=f i4:=fun f x=>ag f x n24
 have hsub:Ab.Sub h (upd (upd h i2 (some (.obj [.v (.int .i64 0), .v (.int .i64 0), .v (.int .i64 0), .s []] 168))) i4 (some (.obj [.v (.int .i64 0), .v (.int .i64 0), .v (.int .i64 0), .s []] 168))):=(Sub.ai hi2).trans (.ai hi4);have he2:=he.sub hsub;have hi4h:h i4=none:=by rw [ag _ _ n24] at hi4; exact hi4
 simp only [go_sem];refine .at 0 (by simp) ?_
 cases la:decide (97≤(c.toNat:Int))
 ·have hl:ltr c=false:=by simp only [ltr,la,Bool.false_and]
  simp only [go_sem,cm,List.getElem_cons_zero,la];have hlt:(c::r).headD 0=c:=rfl;refine (ku c _).pthen ?_;cases d1:dgt c
  case true=>
   simp only [go_sem,ah];refine (j7 false (c::r) (by simp; omega) _ (he.sub (by repeat (first|exact .refl _|refine Sub.put ?_ (by assumption) _)))).pthen ?_
   simp only [go_sem,g2,ah];exact .mk _ (.refl _) (by repeat (first|exact .refl _|refine Sub.put ?_ (by assumption) _)) ⟨by simp [bI,hl,d1,eY,au],rfl⟩
  have nb:∀(x:UInt8) (n:Int),n=x.toNat→((c.toNat:Int)==n)=true→c=x:=fun x n e h=>by
   have:(c.toNat:Int)=n:=by simpa using h
   exact UInt8.toNat_inj.1 (by omega)
  have nn:∀(x:UInt8) (n:Int),n=x.toNat→((c.toNat:Int)==n)=false→c≠x:=fun x n e h hc=>by
   subst hc; rw [e] at h; simp at h
  have k1:=mh true r;have k2:=mh false r;have k3:=qZ r;cases d2:((c.toNat:Int)==45)
  case true=>
   have e2:=nb 45 45 rfl d2;simp only [go_sem,d2,ah,jX,Option.isSome_none,Option.isSome_some,Int.reduceToNat,List.drop_succ_cons,List.drop_zero,List.length_cons];refine ⟨by omega,by omega,by omega, ?_⟩
   refine (j7 true r (by omega) _ (he.sub (by repeat (first|exact .refl _|refine Sub.put ?_ (by assumption) _)))).pthen ?_
   cases d3:((dV true r).1==0)
   ·have e3:(dV true r).1≠0:=by simpa using d3
    have w1:IntKind.i64.wrap (((dV true r).2:Int)+1)=(((dV true r).2+1:Nat):Int):=by rw [bz _ (by omega)]; omega
    simp only [go_sem,d3,g2,ah,w1];exact .mk _ (.refl _) (by repeat (first|exact .refl _|refine Sub.put ?_ (by assumption) _)) ⟨by subst e2; simp [bI,hl,d1,e3,eY,au],rfl⟩
   ·have e3:(dV true r).1=0:=by simpa using d3
    simp only [go_sem,d3,g2,ah];exact .mk _ (.refl _) (by repeat (first|exact .refl _|refine Sub.put ?_ (by assumption) _)) ⟨by subst e2; simp [bI,hl,d1,e3,eY,au],rfl⟩
  have e2:=nn 45 45 rfl d2;cases d4:((c.toNat:Int)==64)
  case true=>
   have e4:=nb 64 64 rfl d4;simp only [go_sem,d2,d4,ah,jX,Option.isSome_none,Option.isSome_some,Int.reduceToNat,List.drop_succ_cons,List.drop_zero,List.length_cons];refine ⟨by omega,by omega,by omega, ?_⟩
   refine (j7 false r (by omega) _ (he.sub (by repeat (first|exact .refl _|refine Sub.put ?_ (by assumption) _)))).pthen ?_
   cases d3:(((dV false r).2:Int)==0)
   case true=>
    have e3:(dV false r).2=0:=by simpa using d3
    simp only [go_sem,d3,g2,ah];exact .mk _ (.refl _) (by repeat (first|exact .refl _|refine Sub.put ?_ (by assumption) _)) ⟨by subst e4; simp [bI,hl,d1,e3,eY,au],rfl⟩
   have e3:(dV false r).2≠0:=by simpa using d3
   cases d5:decide (1099511627776<(dV false r).1)
   ·have e5:¬1099511627776<(dV false r).1:=Uj d5
    have w1:IntKind.i64.wrap (((dV false r).2:Int)+1)=(((dV false r).2+1:Nat):Int):=by rw [bz _ (by omega)]; omega
    simp only [go_sem,d3,d5,g2,ah,w1];exact .mk _ (.refl _) (by repeat (first|exact .refl _|refine Sub.put ?_ (by assumption) _)) ⟨by subst e4; simp [bI,hl,d1,e3,e5,eY,au],rfl⟩
   ·have e5:1099511627776<(dV false r).1:=Ui d5
    simp only [go_sem,d3,d5,g2,ah];exact .mk _ (.refl _) (by repeat (first|exact .refl _|refine Sub.put ?_ (by assumption) _)) ⟨by subst e4; simp [bI,hl,d1,e3,e5,eY,au],rfl⟩
  have e4:=nn 64 64 rfl d4;cases d6:((c.toNat:Int)==35)
  case true=>
   have e6:=nb 35 35 rfl d6;simp only [go_sem,d2,d4,d6,jX,Option.isSome_none,Option.isSome_some,Int.reduceToNat,List.drop_succ_cons,List.drop_zero,List.length_cons];refine ⟨by omega,by omega,by omega, ?_⟩
   refine (vb r _).pthen ?_;cases d3:(iH r== [])
   ·have e3:iH r≠ []:=by simpa using d3
    have w1:IntKind.i64.wrap (((iH r).length:Int)+1)=(((iH r).length+1:Nat):Int):=by rw [bz _ (by omega)]; omega
    simp only [go_sem,d3,g2,ah,w1];exact .mk _ (.refl _) (by repeat (first|exact .refl _|refine Sub.put ?_ (by assumption) _)) ⟨by subst e6; simp [bI,hl,d1,e3,eY,au],rfl⟩
   ·have e3:iH r= []:=by simpa using d3
    simp only [go_sem,d3,g2,ah];exact .mk _ (.refl _) (by repeat (first|exact .refl _|refine Sub.put ?_ (by assumption) _)) ⟨by subst e6; simp [bI,hl,d1,e3,eY,au],rfl⟩
  have e6:=nn 35 35 rfl d6;cases d7:((c.toNat:Int)==34)
  case true=>
   have e7:=nb 34 34 rfl d7;simp only [go_sem,d2,d4,d6,d7,ah];refine (Du (c::r) (by simp; omega) _).pthen ?_
   simp only [go_sem,g2,ah];exact .mk _ (.refl _) (by repeat (first|exact .refl _|refine Sub.put ?_ (by assumption) _)) ⟨by subst e7; simp [bI,hl,d1,eY,au],rfl⟩
  have e7:=nn 34 34 rfl d7;simp only [go_sem,d2,d4,d6,d7];refine (zX marks c _).pthen ?_;cases d8:Aj c
  ·simp only [go_sem,g2,ah,oD,d8]
   exact .mk _ (.refl _) (by repeat (first|exact .refl _|refine Sub.put ?_ (by assumption) _)) ⟨by simp [bI,hl,d1,e2,e4,e6,e7,d8,eY,au],rfl⟩
  ·simp only [go_sem,oD,d8]
   refine .calls cW [0,1,2,3,4,5,6] (fun _ _ h=>by cases h) (by kernel_rfl) rfl ?_
   simp only [go_sem,g2,ah,pZ,Option.isSome_none,Option.isSome_some,Int.reduceToNat,List.take_succ_cons,List.take_zero,List.length_cons];refine ⟨by omega,by omega,by omega,(fun _ _ h=>(by cases h)),(fun _ _ h=>(by cases h)), ?_⟩
   exact .mk _ (.refl _) (by repeat (first|exact .refl _|refine Sub.put ?_ (by assumption) _)) ⟨by simp [bI,hl,d1,e2,e4,e6,e7,d8,eY,au],rfl⟩
 ·cases lb:decide ((c.toNat:Int)≤122)
  ·have hl:ltr c=false:=by simp only [ltr,lb,Bool.and_false]
   simp only [go_sem,cm,List.getElem_cons_zero,la,lb];have hlt:(c::r).headD 0=c:=rfl;refine (ku c _).pthen ?_;cases d1:dgt c
   case true=>
    simp only [go_sem,ah];refine (j7 false (c::r) (by simp; omega) _ (he.sub (by repeat (first|exact .refl _|refine Sub.put ?_ (by assumption) _)))).pthen ?_
    simp only [go_sem,g2,ah];exact .mk _ (.refl _) (by repeat (first|exact .refl _|refine Sub.put ?_ (by assumption) _)) ⟨by simp [bI,hl,d1,eY,au],rfl⟩
   have nb:∀(x:UInt8) (n:Int),n=x.toNat→((c.toNat:Int)==n)=true→c=x:=fun x n e h=>by
    have:(c.toNat:Int)=n:=by simpa using h
    exact UInt8.toNat_inj.1 (by omega)
   have nn:∀(x:UInt8) (n:Int),n=x.toNat→((c.toNat:Int)==n)=false→c≠x:=fun x n e h hc=>by
    subst hc; rw [e] at h; simp at h
   have k1:=mh true r;have k2:=mh false r;have k3:=qZ r;cases d2:((c.toNat:Int)==45)
   case true=>
    have e2:=nb 45 45 rfl d2;simp only [go_sem,d2,ah,jX,Option.isSome_none,Option.isSome_some,Int.reduceToNat,List.drop_succ_cons,List.drop_zero,List.length_cons];refine ⟨by omega,by omega,by omega, ?_⟩
    refine (j7 true r (by omega) _ (he.sub (by repeat (first|exact .refl _|refine Sub.put ?_ (by assumption) _)))).pthen ?_
    cases d3:((dV true r).1==0)
    ·have e3:(dV true r).1≠0:=by simpa using d3
     have w1:IntKind.i64.wrap (((dV true r).2:Int)+1)=(((dV true r).2+1:Nat):Int):=by rw [bz _ (by omega)]; omega
     simp only [go_sem,d3,g2,ah,w1];exact .mk _ (.refl _) (by repeat (first|exact .refl _|refine Sub.put ?_ (by assumption) _)) ⟨by subst e2; simp [bI,hl,d1,e3,eY,au],rfl⟩
    ·have e3:(dV true r).1=0:=by simpa using d3
     simp only [go_sem,d3,g2,ah];exact .mk _ (.refl _) (by repeat (first|exact .refl _|refine Sub.put ?_ (by assumption) _)) ⟨by subst e2; simp [bI,hl,d1,e3,eY,au],rfl⟩
   have e2:=nn 45 45 rfl d2;cases d4:((c.toNat:Int)==64)
   case true=>
    have e4:=nb 64 64 rfl d4;simp only [go_sem,d2,d4,ah,jX,Option.isSome_none,Option.isSome_some,Int.reduceToNat,List.drop_succ_cons,List.drop_zero,List.length_cons];refine ⟨by omega,by omega,by omega, ?_⟩
    refine (j7 false r (by omega) _ (he.sub (by repeat (first|exact .refl _|refine Sub.put ?_ (by assumption) _)))).pthen ?_
    cases d3:(((dV false r).2:Int)==0)
    case true=>
     have e3:(dV false r).2=0:=by simpa using d3
     simp only [go_sem,d3,g2,ah];exact .mk _ (.refl _) (by repeat (first|exact .refl _|refine Sub.put ?_ (by assumption) _)) ⟨by subst e4; simp [bI,hl,d1,e3,eY,au],rfl⟩
    have e3:(dV false r).2≠0:=by simpa using d3
    cases d5:decide (1099511627776<(dV false r).1)
    ·have e5:¬1099511627776<(dV false r).1:=Uj d5
     have w1:IntKind.i64.wrap (((dV false r).2:Int)+1)=(((dV false r).2+1:Nat):Int):=by rw [bz _ (by omega)]; omega
     simp only [go_sem,d3,d5,g2,ah,w1];exact .mk _ (.refl _) (by repeat (first|exact .refl _|refine Sub.put ?_ (by assumption) _)) ⟨by subst e4; simp [bI,hl,d1,e3,e5,eY,au],rfl⟩
    ·have e5:1099511627776<(dV false r).1:=Ui d5
     simp only [go_sem,d3,d5,g2,ah];exact .mk _ (.refl _) (by repeat (first|exact .refl _|refine Sub.put ?_ (by assumption) _)) ⟨by subst e4; simp [bI,hl,d1,e3,e5,eY,au],rfl⟩
   have e4:=nn 64 64 rfl d4;cases d6:((c.toNat:Int)==35)
   case true=>
    have e6:=nb 35 35 rfl d6;simp only [go_sem,d2,d4,d6,jX,Option.isSome_none,Option.isSome_some,Int.reduceToNat,List.drop_succ_cons,List.drop_zero,List.length_cons];refine ⟨by omega,by omega,by omega, ?_⟩
    refine (vb r _).pthen ?_;cases d3:(iH r== [])
    ·have e3:iH r≠ []:=by simpa using d3
     have w1:IntKind.i64.wrap (((iH r).length:Int)+1)=(((iH r).length+1:Nat):Int):=by rw [bz _ (by omega)]; omega
     simp only [go_sem,d3,g2,ah,w1];exact .mk _ (.refl _) (by repeat (first|exact .refl _|refine Sub.put ?_ (by assumption) _)) ⟨by subst e6; simp [bI,hl,d1,e3,eY,au],rfl⟩
    ·have e3:iH r= []:=by simpa using d3
     simp only [go_sem,d3,g2,ah];exact .mk _ (.refl _) (by repeat (first|exact .refl _|refine Sub.put ?_ (by assumption) _)) ⟨by subst e6; simp [bI,hl,d1,e3,eY,au],rfl⟩
   have e6:=nn 35 35 rfl d6;cases d7:((c.toNat:Int)==34)
   case true=>
    have e7:=nb 34 34 rfl d7;simp only [go_sem,d2,d4,d6,d7,ah];refine (Du (c::r) (by simp; omega) _).pthen ?_
    simp only [go_sem,g2,ah];exact .mk _ (.refl _) (by repeat (first|exact .refl _|refine Sub.put ?_ (by assumption) _)) ⟨by subst e7; simp [bI,hl,d1,eY,au],rfl⟩
   have e7:=nn 34 34 rfl d7;simp only [go_sem,d2,d4,d6,d7];refine (zX marks c _).pthen ?_;cases d8:Aj c
   ·simp only [go_sem,g2,ah,oD,d8]
    exact .mk _ (.refl _) (by repeat (first|exact .refl _|refine Sub.put ?_ (by assumption) _)) ⟨by simp [bI,hl,d1,e2,e4,e6,e7,d8,eY,au],rfl⟩
   ·simp only [go_sem,oD,d8]
    refine .calls cW [0,1,2,3,4,5,6] (fun _ _ h=>by cases h) (by kernel_rfl) rfl ?_
    simp only [go_sem,g2,ah,pZ,Option.isSome_none,Option.isSome_some,Int.reduceToNat,List.take_succ_cons,List.take_zero,List.length_cons];refine ⟨by omega,by omega,by omega,(fun _ _ h=>(by cases h)),(fun _ _ h=>(by cases h)), ?_⟩
    exact .mk _ (.refl _) (by repeat (first|exact .refl _|refine Sub.put ?_ (by assumption) _)) ⟨by simp [bI,hl,d1,e2,e4,e6,e7,d8,eY,au],rfl⟩
  ·have hl:ltr c=true:=by simp only [ltr,la,lb]; rfl
   simp only [go_sem,cm,List.getElem_cons_zero,la,lb];refine (vb _ _).pthen ?_;simp only [go_sem,g2,ah];exact .mk _ (.refl _) (by repeat (first|exact .refl _|refine Sub.put ?_ (by assumption) _)) ⟨by simp [bI,hl,eY,au],rfl⟩
theorem E4:(U 168).sz=4:=by simp only [go_sem]
theorem Je:(U 168).bytes=40:=by simp only [go_sem]
theorem mI (l:List oN):Sized 4 (l.map eY):=fun z hz=>by
 obtain ⟨c,_,rfl⟩:=List.mem_map.1 hz; rfl
def IS:Lexed→AV
 | .bad e a=> .tup [.sl [] .no, .v (.int .i64 e), .v (.int .i64 a)]
 | .ok l=> .tup [.sl (l.map eY) .no, .v (.int .i64 0), .v (.int .i64 0)]
def Fl (s:Txt) (h:Heap) (m:Nat) (ρ:Env) (h' :Heap):Prop:=
 ∃(i f:Nat) (y:AV) (out:List oN) (id:Nat),Acc U 168 h h' y (out.map eY)∧out.length≤i∧i≤s.length∧m=s.length - i∧s.length<f+i∧s.length≤4096∧h id=none∧(∃c0 c1 c2 c3,h' id=some (.obj [c0,c1,c2,c3] 168))∧qA f (s.drop i) i out=pH s∧lk ρ 0=some (.s s)∧lk ρ 5=some y∧lk ρ 6=some (.ptr id 0)∧lk ρ 7=some (.v (.int .i64 i))
theorem Bj (s:Txt) (h:Heap) (he:tq h):ak Tryz.prog 104 [.s s] h fun r h' =>r=IS (pH s)∧h' =h:=by
 refine ak.of_wp hU Tryz.func104 rfl (by kernel_rfl) 52 rfl [.tmp 2, .tmp 3, .tmp 4] rfl (Uf rfl) ?_
 refine .one hU hm ?_;simp only [go_sem];refine WP.Hp hU hm 0 (Fl s h) rfl ?_ ?_
 ·rintro m ρ h' ⟨i,f,y,out,id,hy,hoi,hi,rfl,hf,hs,hid,⟨c0,c1,c2,c3,hob⟩,hl,r0,r5,r6,r7⟩
  refine .vc hU hm ?_;cases d1:((i:Int)==(s.length:Int))
  case true=>
   have e1:i=s.length:=by have:(i:Int)=s.length:=(by simpa using d1); omega
   subst e1;obtain ⟨f,rfl⟩:∃g,f=g+1:=⟨f - 1,by omega⟩
   rw [List.drop_length] at hl;simp only [qA] at hl;simp only [go_sem,r0,r5,r7,d1];refine hy.app (zs:= [eY ⟨7,s.length,0,[]⟩]) (by rw [E4]; decide) (by rw [Je]; decide) (fun k hk=>hk) (by rw [E4]; exact mI out) (by rw [E4]; exact mI [⟨7,s.length,0,[]⟩]) (by rw [Je]; simp; omega) fun y' h2 hy' hk2=> ?_
   simp only [go_sem];obtain ⟨q,rfl⟩:=hy'.row;refine .mk _ (xU _ _ _ _) hy'.1 ⟨?_,rfl⟩;rw [←hl,IS,List.map_append]; rfl
  have e1:i≠s.length:=by intro e; rw [e] at d1; simp at d1
  have hlt:i<s.length:=by omega
  obtain ⟨f,rfl⟩:∃g,f=g+1:=⟨f - 1,by omega⟩
  have hdr:s.drop i=s[i]::s.drop (i+1):=List.drop_eq_getElem_cons hlt;have w1:=Um i (by omega)
  have hl2:=hl;rw [hdr] at hl2;simp only [qA] at hl2;rw [←hdr] at hl2;have blank:mZ s[i]=true→∃m',m' <s.length - i∧True:=fun _=>⟨s.length - (i+1),by omega,trivial⟩
  cases d2:((s[i].toNat:Int)==32)
  case true=>
   have hb:mZ s[i]=true:=by simp only [mZ,d2,Bool.true_or]
   rw [if_pos hb] at hl2;simp only [go_sem,r0,r7,d1];refine .at i hlt ?_;simp only [go_sem,r7,cm,d2,w1];refine ⟨s.length - (i+1),by omega,i+1,f,y,out,id,hy,by omega,by omega,rfl,by omega,hs,hid,⟨c0,c1,c2,c3,hob⟩,hl2, ?_, ?_, ?_, ?_⟩<;>simp only [go_sem,r0,r5,r6]
  cases d3:((s[i].toNat:Int)==10)
  case true=>
   have hb:mZ s[i]=true:=by simp only [mZ,d3,Bool.or_true]
   rw [if_pos hb] at hl2;simp only [go_sem,r0,r7,d1];refine .at i hlt ?_;simp only [go_sem,r0,r7,cm,d2];refine .at i hlt ?_;simp only [go_sem,r7,cm,d3,w1];refine ⟨s.length - (i+1),by omega,i+1,f,y,out,id,hy,by omega,by omega,rfl,by omega,hs,hid,⟨c0,c1,c2,c3,hob⟩,hl2, ?_, ?_, ?_, ?_⟩<;>simp only [go_sem,r0,r5,r6]
  have hb:¬mZ s[i]=true:=by simp only [mZ,d2,d3]; decide
  rw [if_neg hb] at hl2;have hne:s.drop i≠ []:=fun e=>by have:=congrArg List.length e; simp at this; omega
  have hle:=pn (s.drop i) hne;have hdl:(s.drop i).length=s.length - i:=by simp
  have hbo:=fun hh eh=>DF (s.drop i) hne (by omega) hh eh
  obtain ⟨t,n,etn⟩:∃t n,bI (s.drop i)=(t,n):=⟨_,_,rfl⟩;rw [etn] at hbo hl2 hle;simp only [eY] at hbo hl2 hle;simp only [go_sem,r0,r7,d1];refine .at i hlt ?_;simp only [go_sem,r0,r7,cm,d2];refine .at i hlt ?_;simp only [go_sem,r0,r7,cm,d3,jX,Option.isSome_none,Option.isSome_some,Int.toNat_natCast];refine ⟨by omega,by omega,by omega, ?_⟩
  refine (hbo _ (he.sub hy.1)).pthen ?_;cases d4:((n:Int)==0)
  case true=>
   have e4:n=0:=by have:(n:Int)=0:=(by simpa using d4); omega
   rw [if_pos e4] at hl2;simp only [go_sem,r6,r7,hob,d4];refine .mk _ (xU _ _ _ _) (hy.1.put hid _) ⟨?_,rfl⟩;rw [←hl2]; rfl
  have e4:n≠0:=by intro e; rw [e] at d4; simp at d4
  rw [if_neg e4] at hl2;have w2:IntKind.i64.wrap ((i:Int)+(n:Int))=((i+n:Nat):Int):=by rw [bz _ (by omega)]; omega
  simp only [go_sem,r5,r6,r7,hob,d4];refine (hy.put hid hob _).app (zs:= [eY {t with pos:=i}]) (by rw [E4]; decide) (by rw [Je]; decide) (fun k hk=>hk) (by rw [E4]; exact mI out) (by rw [E4]; exact mI [{t with pos:=i}]) (by rw [Je]; simp; omega) fun y' h2 hy' hk2=> ?_
  simp only [go_sem,r7,w2];refine ⟨s.length - (i+n),by omega,i+n,f,y',out++ [{t with pos:=i}],id,by simpa using hy',by simp; omega,by omega,rfl,by omega,hs,hid,⟨_,_,_,_,hk2 _ _ _ (ah ..)⟩, ?_, ?_, ?_, ?_, ?_⟩
  ·rw [List.drop_drop] at hl2; exact hl2
  all_goals simp only [go_sem,r0,r6]
 ·intro nx
  cases d0:decide (4096<(s.length:Int))
  case true=>
   have e0:s.length>4096:=by have:=Ui d0; omega
   refine .one hU hm ?_;simp only [go_sem,d0];exact .mk (.tup [.sl [] .no, .v (.int .i64 6), .v (.int .i64 4096)]) (eN (.tup [.sl [] .full, .v (.int .i64 6), .v (.int .i64 4096)])) (.refl _) ⟨by rw [pH,if_pos e0]; rfl,rfl⟩
  have e0:¬s.length>4096:=by have:=Uj d0; omega
  refine .one hU hm ?_;simp only [go_sem,d0];refine .one hU hm ?_;simp only [go_sem];refine .one hU hm ?_;simp only [go_sem];intro id hid;simp only [go_sem];refine .one hU hm ?_;simp only [go_sem];refine .one hU hm ?_;simp only [go_sem];refine nx (s.length - 0) _ _ ⟨0,s.length+1,_,[],id, .full (.ai hid),by simp,by omega,rfl,by omega,by omega,hid,⟨_,_,_,_,ah ..⟩,by rw [pH,if_neg e0]; rfl, ?_, ?_, ?_, ?_⟩<;>simp only [go_sem]
def PO (st:PS):Blk:= .obj [.sl (st.ts.map eY) .no, .v (.int .i64 st.pos), .v (.int .i64 st.rules), .v (.int .i64 st.bad), .v (.int .i64 st.place)] 165
def PC (f:FuncId) (args:List AV) (st:PS) (R:AV) (st' :PS):Prop:=∀(h:Heap) (id:Nat),h id=some (PO st)→ak Tryz.prog f (.ptr id 0::args) h fun r h' =>r=R∧h' =upd h id (some (PO st'))
theorem PC.go {f:FuncId} {args:List AV} {st st' :PS} {R:AV} (hc:PC f args st R st') {h:Heap} {id:Nat} {Q:AV→Heap→Prop} (hid:h id=some (PO st)) (k:Q R (upd h id (some (PO st')))):ak Tryz.prog f (.ptr id 0::args) h Q:=
 (hc h id hid).mono fun r h' ⟨e1,e2⟩=>by subst e1; subst e2; exact k
theorem bW {h:Heap} {id:Nat} {b:Option Blk} (e:h id=b):upd h id b=h:=by
 funext j
 by_cases hj:j=id
 ·subst hj; rw [ah,e]
 ·rw [ag _ _ hj]
theorem ov (st:PS) (e p:Int):PC 108 [.v (.int .i64 e), .v (.int .i64 p)] st (.tup []) (bt st e p):=fun h id hid=>by
 refine ak.body hU hm Tryz.func108 rfl (by kernel_rfl) 19 rfl [] rfl (Uf rfl) (fun hwf=> ?_)
 have g:=hid;unfold PO at g;cases d1:(st.bad==0)
 ·have e1:st.bad≠0:=by simpa using d1
  simp only [go_sem,g,d1];exact .mk _ (.refl _) (.refl _) ⟨rfl,by rw [bt,if_neg e1,bW hid]⟩
 ·have e1:st.bad=0:=by simpa using d1
  simp only [go_sem,g,d1];exact .mk _ (.refl _) (.refl _) ⟨rfl,by rw [bt,if_pos e1]; rfl⟩
theorem jZ (st:PS) (hw:WfP st):PC 106 [] st (eY (aI st)) st:=fun h id hid=>by
 refine ak.body hU hm Tryz.func106 rfl (by kernel_rfl) 13 rfl [.cell 2 168] rfl (Uf rfl) (fun hwf=> ?_)
 have g:=hid;unfold PO at g;simp only [go_sem];intro i2 hi2;have n2:id≠i2:=fun e=>by rw [e,hi2] at hid; cases hid
 simp only [go_sem,g,aj,n2];refine ⟨.of (by kernel_rfl), ?_⟩
 refine .at st.pos (by simpa using hw.1) (by rw [Uh]; rfl) ?_
 simp only [go_sem,Uh,eY];refine .mk _ (.refl _) (.ai hi2) ⟨by rw [zW hw.1]; rfl,(bW hid).symm⟩
theorem jM (st:PS) (hw:WfP st):PC 107 [] st (.tup []) (aZ st):=fun h id hid=>by
 refine ak.body hU hm Tryz.func107 rfl (by kernel_rfl) 7 rfl [] rfl (Uf rfl) (fun hwf=> ?_)
 simp only [go_sem];refine (jZ st hw).go hid ?_;rw [bW hid];simp only [go_sem,eY];refine (ov st 5 _).go hid ?_;simp only [go_sem];exact .mk _ (.refl _) (.refl _) ⟨rfl,rfl⟩
theorem cE (st:PS) (b:Bool) (hw:WfP st):PC 208 [.v (.bool b)] st (.tup []) (bx st b):=fun h id hid=>by
 refine ak.body hU hm Tryz.func208 rfl (by kernel_rfl) 10 rfl [] rfl (Uf rfl) (fun hwf=> ?_)
 cases b
 ·simp only [go_sem]
  exact .mk _ (.refl _) (.refl _) ⟨rfl,(bW hid).symm⟩
 simp only [go_sem];refine (jZ st hw).go hid ?_;rw [bW hid];simp only [go_sem,eY];refine (ov st 6 _).go hid ?_;simp only [go_sem];exact .mk _ (.refl _) (.refl _) ⟨rfl,rfl⟩
theorem qv (st:PS) (s:Txt) (hw:WfP st):PC 209 [.s s] st (.v (.bool (isD st s))) st:=fun h id hid=>by
 refine ak.body hU hm Tryz.func209 rfl (by kernel_rfl) 29 rfl [.tmp 4] rfl (Uf rfl) (fun hwf=> ?_)
 have g:=hid;unfold PO at g;simp only [go_sem];refine (jZ st hw).go hid ?_;rw [bW hid];simp only [go_sem,eY];intro i2 hi2;have n2:id≠i2:=fun e=>by rw [e,hi2] at hid; cases hid
 cases d1:(st.bad==0)<;>cases d2:((aI st).s==s)<;>cases d3:((aI st).kind==1)<;>cases d4:((aI st).kind==6)
 all_goals
  simp only [go_sem,g,aj,n2,d1,d2,d3,d4];exact .mk _ (.refl _) (.ai hi2) ⟨by simp only [isD,d1,d2,d3,d4]; rfl,rfl⟩
theorem iX (st:PS) (s:Txt) (hw:WfP st):PC 206 [.s s] st (.v (.bool (cg st s).1)) (cg st s).2:=fun h id hid=>by
 refine ak.body hU hm Tryz.func206 rfl (by kernel_rfl) 18 rfl [.tmp 4] rfl (Uf rfl) (fun hwf=> ?_)
 have g:=hid;unfold PO at g;simp only [go_sem];refine (qv st s hw).go hid ?_;rw [bW hid];cases d1:isD st s
 ·have e:cg st s=(false,st):=by simp [cg,d1]
  simp only [go_sem];exact .mk _ (.refl _) (.refl _) ⟨by rw [e]; rfl,by rw [e,bW hid]⟩
 ·have e:cg st s=(true,aX st):=by simp [cg,d1]
  have w1:IntKind.i64.wrap ((st.pos:Int)+1)=((st.pos+1:Nat):Int):=by have:=hw.1; have:=hw.2.2; rw [bz _ (by omega)]; omega
  simp only [go_sem,g,w1];exact .mk _ (.refl _) (.refl _) ⟨by rw [e]; rfl,by rw [e]; rfl⟩
theorem jw (st:PS) (s:Txt) (hw:WfP st):PC 154 [.s s] st (.tup []) (dz st s):=fun h id hid=>by
 refine ak.body hU hm Tryz.func154 rfl (by kernel_rfl) 10 rfl [] rfl (Uf rfl) (fun hwf=> ?_)
 simp only [go_sem];refine (iX st s hw).go hid ?_;cases d1:isD st s
 ·have e:cg st s=(false,st):=by simp [cg,d1]
  rw [e,bW hid];simp only [go_sem];refine (jM st hw).go hid ?_;simp only [go_sem];exact .mk _ (.refl _) (.refl _) ⟨rfl,by simp [dz,d1]⟩
 ·have e:cg st s=(true,aX st):=by simp [cg,d1]
  rw [e];simp only [go_sem];exact .mk _ (.refl _) (.refl _) ⟨rfl,by simp [dz,d1]⟩
theorem qL (st:PS) (hw:WfP st):PC 152 [] st (.s (cc st).1) (cc st).2:=fun h id hid=>by
 refine ak.body hU hm Tryz.func152 rfl (by kernel_rfl) 25 rfl [.tmp 2] rfl (Uf rfl) (fun hwf=> ?_)
 have g:=hid;unfold PO at g;have w1:IntKind.i64.wrap ((st.pos:Int)+1)=((st.pos+1:Nat):Int):=by have:=hw.1; have:=hw.2.2; rw [bz _ (by omega)]; omega
 simp only [go_sem];refine (jZ st hw).go hid ?_;rw [bW hid];simp only [go_sem,eY];intro i2 hi2;have n2:id≠i2:=fun e=>by rw [e,hi2] at hid; cases hid
 cases d1:((aI st).kind !=1)
 case true=>
  have e1:(aI st).kind≠1:=by simpa using d1
  have en:cc st=([],aZ st):=by simp [cc,e1]
  simp only [go_sem,d1];have hid2:upd h i2 (some (.obj [.v (.int .i64 (aI st).kind), .v (.int .i64 (aI st).pos), .v (.int .i64 (aI st).n), .s (aI st).s] 168)) id=some (PO st):=by rw [ag _ _ n2]; exact hid
  refine (jM st hw).go hid2 ?_;have hb:(aZ st).bad≠0:=by
   unfold aZ bt; split
   ·show (5:Int)≠0; decide
   ·assumption
  have d2:((aZ st).bad !=0)=true:=by simpa using hb
  simp only [go_sem,PO,d2];exact .mk _ (.refl _) (Sub.both (.ai hi2) _ _) ⟨by rw [en]; rfl,by rw [en]; try rfl⟩
 have e1:(aI st).kind=1:=by simpa using d1
 cases d2:(st.bad !=0)
 case true=>
  have e2:st.bad≠0:=by simpa using d2
  have en:cc st=([],st):=by simp [cc,e1,e2]
  simp only [go_sem,g,aj,n2,d1,d2];exact .mk _ (.refl _) (.ai hi2) ⟨by rw [en]; rfl,by rw [en]; exact (bW hid).symm⟩
 have e2:st.bad=0:=by simpa using d2
 have en:cc st=((aI st).s,aX st):=by simp [cc,e1,e2]
 simp only [go_sem,g,aj,n2,n2.symm,d1,d2,w1];exact .mk _ (.refl _) (Sub.both (.ai hi2) _ _) ⟨by rw [en]; rfl,by rw [en]; try rfl⟩
theorem PC.run {f:FuncId} {args:List AV} {st st' :PS} {R:AV} (hc:PC f args st R st') {G:Heap} {id:Nat} {Q:AV→Heap→Prop} (k:Q R (upd G id (some (PO st')))):ak Tryz.prog f (.ptr id 0::args) (upd G id (some (PO st))) Q:=
 hc.go (ah ..) (by rw [mJ]; exact k)
theorem PC.of {f:FuncId} {args:List AV} {st st' :PS} {R:AV} (hk:∀(G:Heap) (id:Nat),ak Tryz.prog f (.ptr id 0::args) (upd G id (some (PO st))) fun r h' =>r=R∧h' =upd G id (some (PO st'))):PC f args st R st' :=fun h id hid=>by
 have:=hk h id;rw [bW hid] at this;exact this
theorem cj {α:Type} (f:Nat→α) {i j:Nat} (x y:α) (h:i≠j):upd (upd f i x) j y=upd (upd f j y) i x:=by
 funext k
 by_cases hi:k=i
 ·subst hi; rw [ag _ _ h,ah,ah]
 ·by_cases hj:k=j
  ·subst hj; rw [ah,ag _ _ hi,ah]
  ·rw [ag _ _ hj,ag _ _ hi,ag _ _ hi,ag _ _ hj]
theorem yB {s:Txt}:∀ {ws:List Txt} {i:Nat},rB s ws=some i→i<ws.length
 |w::r,i,h=>by
  simp only [rB] at h;split at h
  ·cases h; simp
  ·cases hr:rB s r with
   |none=>rw [hr] at h; cases h
   |some j=>rw [hr] at h; cases h; have:=yB hr; simp; omega
theorem C1 {s:Txt}:∀ {ws:List Txt} (i:Nat) (hi:i<ws.length),(∀j (hj:j<ws.length),j<i→ws[j]≠s)→ws[i]=s→rB s ws=some i
 |w::r,0,_,_,h=>by simp only [List.getElem_cons_zero] at h; simp [rB,h]
 |w::r,i+1,hi,hb,h=>by
  have h0:=hb 0 (by simp) (by omega)
  simp only [List.getElem_cons_zero] at h0;simp only [rB,if_neg h0];rw [C1 i (by simpa using hi) (fun j hj hlt=>by have:=hb (j+1) (by simpa using hj) (by omega); simpa using this) (by simpa using h)]
  rfl
theorem xk {s:Txt}:∀ {ws:List Txt},(∀j (hj:j<ws.length),ws[j]≠s)→rB s ws=none
 | [],_=>rfl
 |w::r,hb=>by
  have h0:=hb 0 (by simp)
  simp only [List.getElem_cons_zero] at h0;simp only [rB,if_neg h0];rw [xk (fun j hj=>by have:=hb (j+1) (by simpa using hj); simpa using this)]
  rfl
def KT (o:Option Nat):Int:=match o with
 |some i=>i
 |none=> -1
theorem Ek (ws:List Txt) (q:Perm) (s:Txt) (hl:ws.length≤1000) (h:Heap):ak Tryz.prog 205 [.sl (ws.map AV.s) q, .s s] h fun r h' =>r= .v (.int .i64 (KT (rB s ws)))∧h' =h:=by
 refine ak.body hU hm Tryz.func205 rfl (by kernel_rfl) 19 rfl [.tmp 4] rfl (Uf rfl) (fun hwf=> ?_)
 simp only [go_sem,Ug];refine .intro (fun m ρ h' =>h' =h∧∃i:Nat,i≤ws.length∧m=ws.length - i∧(∀j (hj:j<ws.length),j<i→ws[j]≠s)∧lk ρ 0=some (.sl (ws.map AV.s) q)∧lk ρ 1=some (.s s)∧lk ρ 7=some (.v (.int .i64 ws.length))∧lk ρ 8=some (.v (.int .i64 i))) ws.length ?_ ?_
 ·refine ⟨rfl,0,by omega,rfl,fun j _ hj=>(by omega), ?_, ?_, ?_, ?_⟩<;>simp only [go_sem]
 ·rintro m ρ h' ⟨rfl,i,hi,rfl,hc,r0,r1,r7,r8⟩
  simp only [go_sem,r7,r8];refine .intro (fun e=> ?_) (fun e=> ?_)
  ·have hlt:i<ws.length:=Un e
   have w1:=Um i (by omega)
   simp only [go_sem,r0,r1,r8];refine .at i (by simpa using hlt) (by rw [Uh]; rfl) ?_
   cases d1:(s==ws[i])
   ·have e1:ws[i]≠s:=by intro e; rw [e] at d1; simp at d1
    simp only [go_sem,r8,Uh,d1,w1];refine ⟨_, ?_,rfl,i+1,by omega,rfl,fun j hj hji=> ?_, ?_, ?_, ?_, ?_⟩
    ·omega
    ·by_cases e:j=i
     ·subst e; exact e1
     ·exact hc j hj (by omega)
    all_goals simp only [go_sem,r0,r1,r7]
   ·have e1:ws[i]=s:=by have:s=ws[i]:=(by simpa using d1); exact this.symm
    simp only [go_sem,Uh,d1];exact .same (.refl _) ⟨by rw [C1 i hlt hc e1]; rfl,rfl⟩
  ·have hge:i=ws.length:=by have:=Uj e; omega
   subst hge;simp only [go_sem];exact .same (.refl _) ⟨by rw [xk fun j hj=>hc j hj hj]; rfl,rfl⟩
theorem lH (st:PS) (ws:List Txt) (q:Perm) (hl:ws.length≤1000) (hw:WfP st):PC 151 [.sl (ws.map AV.s) q] st (.v (.int .i64 (aV st ws).1)) (aV st ws).2:= .of fun G id=>by
 refine ak.body hU hm Tryz.func151 rfl (by kernel_rfl) 28 rfl [.tmp 4] rfl (Uf rfl) (fun hwf=> ?_)
 simp only [go_sem];refine (jZ st hw).run ?_;simp only [go_sem,eY];intro i2 hi2;have n2:=aH hi2;have hG2:G i2=none:=by rw [ag _ _ n2] at hi2; exact hi2
 have c2:∀(f:Heap) (x y:Option Blk),upd (upd f id x) i2 y=upd (upd f i2 y) id x:=fun f x y=>cj f x y n2.symm
 cases d1:((aI st).kind==1)
 ·have e1:(aI st).kind≠1:=by simpa using d1
  have en:aV st ws=(0,aZ st):=by unfold aV; split<;>simp [e1]
  simp only [go_sem,c2,aj,n2,d1];refine (jM st hw).run ?_;simp only [go_sem];exact .mk _ (.refl _) (Sub.both (.ai hG2) _ _) ⟨by rw [en]; rfl,by rw [en]⟩
 have e1:(aI st).kind=1:=by simpa using d1
 simp only [go_sem,c2,aj,n2,d1];refine (Ek ws q _ hl _).pthen ?_;cases ei:rB (aI st).s ws with
 |none=>
  have en:aV st ws=(0,aZ st):=by simp [aV,ei]
  have dm:decide ((0:Int)≤ -1)=false:=by decide
  simp only [go_sem,KT,dm];refine (jM st hw).run ?_;simp only [go_sem];exact .mk _ (.refl _) (Sub.both (.ai hG2) _ _) ⟨by rw [en]; rfl,by rw [en]⟩
 |some i=>
  have hil:=yB ei;have d2:decide (0≤(i:Int))=true:=by simp
  have w1:IntKind.i64.wrap ((i:Int)+1)=((i:Int)+1):=by rw [bz _ (by omega)]
  simp only [go_sem,KT,d2,aj,n2];refine (iX st _ hw).run ?_;cases d3:(st.bad==0)
  ·have e3:st.bad≠0:=by simpa using d3
   have et:cg st (aI st).s=(false,st):=by simp [cg,isD,d3]
   have en:aV st ws=(0,aZ st):=by simp [aV,ei,e3]
   rw [et];simp only [go_sem];refine (jM st hw).run ?_;simp only [go_sem];exact .mk _ (.refl _) (Sub.both (.ai hG2) _ _) ⟨by rw [en]; rfl,by rw [en]⟩
  ·have e3:st.bad=0:=by simpa using d3
   have et:cg st (aI st).s=(true,aX st):=by simp [cg,isD,e3,e1]
   have en:aV st ws=((i:Int)+1,aX st):=by simp [aV,ei,e3,e1]
   rw [et];simp only [go_sem,w1];exact .mk _ (.refl _) (Sub.both (.ai hG2) _ _) ⟨by rw [en]; rfl,by rw [en]⟩
theorem FE (st:PS) (hw:WfP st):PC 296 [] st (zg (fo st).1) (fo st).2:= .of fun G id=>by
 have h1:=fM so hw;have h2:=gZ [46] h1.1;have h3:=kP h2.1;refine ak.body hU hm Tryz.func296 rfl (by kernel_rfl) 17 rfl [.cell 2 184] rfl (Uf rfl) (fun hwf=> ?_)
 simp only [go_sem];intro i2 hi2;have n2:=aH hi2;have hG2:G i2=none:=by rw [ag _ _ n2] at hi2; exact hi2
 have c2:∀(f:Heap) (x y:Option Blk),upd (upd f id x) i2 y=upd (upd f i2 y) id x:=fun f x y=>cj f x y n2.symm
 simp only [go_sem,c2];intro i3 hi3;have n3:=aH hi3;have hi3' :=hi3;rw [ag _ _ n3] at hi3';have n32:=aH hi3';have hG3:G i3=none:=by rw [ag _ _ n32] at hi3'; exact hi3'
 have c3:∀(f:Heap) (x y:Option Blk),upd (upd f id x) i3 y=upd (upd f i3 y) id x:=fun f x y=>cj f x y n3.symm
 have c23:∀(f:Heap) (x y:Option Blk),upd (upd f i3 x) i2 y=upd (upd f i2 y) i3 x:=fun f x y=>cj f x y n32
 have m32:¬i3=i2:=n32;have m23:¬i2=i3:=n32.symm;simp only [go_sem,c3];refine (lH st so .full (by decide) hw).run ?_
 simp only [go_sem,c3,aj,n3];refine (jw _ [46] h1.1).run ?_;simp only [go_sem];refine (qL _ h2.1).run ?_;simp only [go_sem,c3,aj,n3];refine (iX _ [33] h3.1).run ?_;simp only [go_sem,c2,c3,c23,aj,n2,n3,m23];exact .mk _ (.refl _) (Sub.both (by repeat (first|exact .refl _|refine Sub.put ?_ (by assumption) _)) _ _) ⟨rfl,rfl⟩
set_option maxRecDepth 20000 in
theorem qX (st:PS) (hw:WfP st):PC 297 [] st (aS (aB st).1) (aB st).2:= .of fun G id=>by
 refine ak.body hU hm Tryz.func297 rfl (by kernel_rfl) 56 rfl [.cell 2 42] rfl (Uf rfl) (fun hwf=> ?_)
 have w1:IntKind.i64.wrap ((st.pos:Int)+1)=((st.pos+1:Nat):Int):=by have:=hw.1; have:=hw.2.2; rw [bz _ (by omega)]; omega
 simp only [go_sem];intro i2 hi2;have n2:=aH hi2;have hG2:G i2=none:=by rw [ag _ _ n2] at hi2; exact hi2
 have c2:∀(f:Heap) (x y:Option Blk),upd (upd f id x) i2 y=upd (upd f i2 y) id x:=fun f x y=>cj f x y n2.symm
 simp only [go_sem,c2];refine (jZ st hw).run ?_;simp only [go_sem,eY];intro i3 hi3;have n3:=aH hi3;have hi3' :=hi3;rw [ag _ _ n3] at hi3';have n32:=aH hi3';have hG3:G i3=none:=by rw [ag _ _ n32] at hi3'; exact hi3'
 have c3:∀(f:Heap) (x y:Option Blk),upd (upd f id x) i3 y=upd (upd f i3 y) id x:=fun f x y=>cj f x y n3.symm
 have c23:∀(f:Heap) (x y:Option Blk),upd (upd f i3 x) i2 y=upd (upd f i2 y) i3 x:=fun f x y=>cj f x y n32
 have m32:¬i3=i2:=n32;have m23:¬i2=i3:=n32.symm;simp only [go_sem,c3,aj,n3];intro i4 hi4;have n4:=aH hi4;have hi4' :=hi4;rw [ag _ _ n4] at hi4';have n43:=aH hi4';have hi4'' :=hi4';rw [ag _ _ n43] at hi4'';have n42:=aH hi4'';have hG4:G i4=none:=by rw [ag _ _ n42] at hi4''; exact hi4''
 have c4:∀(f:Heap) (x y:Option Blk),upd (upd f id x) i4 y=upd (upd f i4 y) id x:=fun f x y=>cj f x y n4.symm
 have c24:∀(f:Heap) (x y:Option Blk),upd (upd f i4 x) i2 y=upd (upd f i2 y) i4 x:=fun f x y=>cj f x y n42
 have c34:∀(f:Heap) (x y:Option Blk),upd (upd f i4 x) i3 y=upd (upd f i3 y) i4 x:=fun f x y=>cj f x y n43
 have m42:¬i4=i2:=n42;have m24:¬i2=i4:=n42.symm;have m43:¬i4=i3:=n43;have m34:¬i3=i4:=n43.symm;cases k2:((aI st).kind==2)
 case true=>
  have e2:(aI st).kind=2:=by simpa using k2
  have ev:fm st=(⟨2,(aI st).n,(aI st).s⟩,st):=by simp [fm,e2]
  cases kb:(st.bad !=0)
  ·have eb:st.bad=0:=by simpa using kb
   have en:aB st=(⟨2,(aI st).n,(aI st).s⟩,aX st):=by simp [aB,ev,eb]
   simp only [go_sem,c2,c4,c23,c24,aj,n2,n3,n4,m23,m24,m34,k2,PO,kb,w1];exact .mk (h' :=upd G id (some (PO (aB st).2))) _ (.refl _) (by rw [en]; exact Sub.both (by repeat (first|exact .refl _|refine Sub.put ?_ (by assumption) _)) _ _) ⟨by rw [en]; rfl,rfl⟩
  ·have eb:st.bad≠0:=by simpa using kb
   have en:aB st=(⟨0,0,[]⟩,st):=by simp [aB,ev,eb]
   simp only [go_sem,c2,c4,c23,c24,aj,n2,n3,n4,m23,m24,m34,k2,PO,kb];exact .mk (h' :=upd G id (some (PO (aB st).2))) _ (.refl _) (by rw [en]; exact Sub.both (by repeat (first|exact .refl _|refine Sub.put ?_ (by assumption) _)) _ _) ⟨by rw [en]; rfl,rfl⟩
 have e2:(aI st).kind≠2:=by simpa using k2
 cases k3:((aI st).kind==3)
 case true=>
  have e3:(aI st).kind=3:=by simpa using k3
  have ev:fm st=(⟨4,(aI st).n,(aI st).s⟩,st):=by simp [fm,e3]
  cases kb:(st.bad !=0)
  ·have eb:st.bad=0:=by simpa using kb
   have en:aB st=(⟨4,(aI st).n,(aI st).s⟩,aX st):=by simp [aB,ev,eb]
   simp only [go_sem,c2,c4,c23,c24,aj,n2,n3,n4,m23,m24,m34,k2,k3,PO,kb,w1];exact .mk (h' :=upd G id (some (PO (aB st).2))) _ (.refl _) (by rw [en]; exact Sub.both (by repeat (first|exact .refl _|refine Sub.put ?_ (by assumption) _)) _ _) ⟨by rw [en]; rfl,rfl⟩
  ·have eb:st.bad≠0:=by simpa using kb
   have en:aB st=(⟨0,0,[]⟩,st):=by simp [aB,ev,eb]
   simp only [go_sem,c2,c4,c23,c24,aj,n2,n3,n4,m23,m24,m34,k2,k3,PO,kb];exact .mk (h' :=upd G id (some (PO (aB st).2))) _ (.refl _) (by rw [en]; exact Sub.both (by repeat (first|exact .refl _|refine Sub.put ?_ (by assumption) _)) _ _) ⟨by rw [en]; rfl,rfl⟩
 have e3:(aI st).kind≠3:=by simpa using k3
 cases k4:((aI st).kind==4)
 case true=>
  have e4:(aI st).kind=4:=by simpa using k4
  have ev:fm st=(⟨5,(aI st).n,(aI st).s⟩,st):=by simp [fm,e4]
  cases kb:(st.bad !=0)
  ·have eb:st.bad=0:=by simpa using kb
   have en:aB st=(⟨5,(aI st).n,(aI st).s⟩,aX st):=by simp [aB,ev,eb]
   simp only [go_sem,c2,c4,c23,c24,aj,n2,n3,n4,m23,m24,m34,k2,k3,k4,PO,kb,w1];exact .mk (h' :=upd G id (some (PO (aB st).2))) _ (.refl _) (by rw [en]; exact Sub.both (by repeat (first|exact .refl _|refine Sub.put ?_ (by assumption) _)) _ _) ⟨by rw [en]; rfl,rfl⟩
  ·have eb:st.bad≠0:=by simpa using kb
   have en:aB st=(⟨0,0,[]⟩,st):=by simp [aB,ev,eb]
   simp only [go_sem,c2,c4,c23,c24,aj,n2,n3,n4,m23,m24,m34,k2,k3,k4,PO,kb];exact .mk (h' :=upd G id (some (PO (aB st).2))) _ (.refl _) (by rw [en]; exact Sub.both (by repeat (first|exact .refl _|refine Sub.put ?_ (by assumption) _)) _ _) ⟨by rw [en]; rfl,rfl⟩
 have e4:(aI st).kind≠4:=by simpa using k4
 cases k5:((aI st).kind==5)
 case true=>
  have e5:(aI st).kind=5:=by simpa using k5
  have ev:fm st=(⟨3,(aI st).n,(aI st).s⟩,st):=by simp [fm,e5]
  cases kb:(st.bad !=0)
  ·have eb:st.bad=0:=by simpa using kb
   have en:aB st=(⟨3,(aI st).n,(aI st).s⟩,aX st):=by simp [aB,ev,eb]
   simp only [go_sem,c2,c4,c23,c24,aj,n2,n3,n4,m23,m24,m34,k2,k3,k4,k5,PO,kb,w1];exact .mk (h' :=upd G id (some (PO (aB st).2))) _ (.refl _) (by rw [en]; exact Sub.both (by repeat (first|exact .refl _|refine Sub.put ?_ (by assumption) _)) _ _) ⟨by rw [en]; rfl,rfl⟩
  ·have eb:st.bad≠0:=by simpa using kb
   have en:aB st=(⟨0,0,[]⟩,st):=by simp [aB,ev,eb]
   simp only [go_sem,c2,c4,c23,c24,aj,n2,n3,n4,m23,m24,m34,k2,k3,k4,k5,PO,kb];exact .mk (h' :=upd G id (some (PO (aB st).2))) _ (.refl _) (by rw [en]; exact Sub.both (by repeat (first|exact .refl _|refine Sub.put ?_ (by assumption) _)) _ _) ⟨by rw [en]; rfl,rfl⟩
 have e5:(aI st).kind≠5:=by simpa using k5
 simp only [go_sem,c4,aj,n3,n4,m34,k2,k3,k4,k5];refine (qv st tg hw).run ?_;cases kt:isD st tg
 case true=>
  have ev:fm st=(⟨1,1,[]⟩,st):=by simp [fm,e2,e3,e4,e5,kt]
  cases kb:(st.bad !=0)
  ·have eb:st.bad=0:=by simpa using kb
   have en:aB st=(⟨1,1,[]⟩,aX st):=by simp [aB,ev,eb]
   simp only [go_sem,c2,c4,c23,c24,aj,n2,n4,m23,m24,PO,kb,w1];exact .mk (h' :=upd G id (some (PO (aB st).2))) _ (.refl _) (by rw [en]; exact Sub.both (by repeat (first|exact .refl _|refine Sub.put ?_ (by assumption) _)) _ _) ⟨by rw [en]; rfl,rfl⟩
  ·have eb:st.bad≠0:=by simpa using kb
   have en:aB st=(⟨0,0,[]⟩,st):=by simp [aB,ev,eb]
   simp only [go_sem,c2,c4,c23,c24,aj,n2,n4,m23,m24,PO,kb];exact .mk (h' :=upd G id (some (PO (aB st).2))) _ (.refl _) (by rw [en]; exact Sub.both (by repeat (first|exact .refl _|refine Sub.put ?_ (by assumption) _)) _ _) ⟨by rw [en]; rfl,rfl⟩
 simp only [go_sem];refine (qv st ny hw).run ?_;cases kf:isD st ny
 case true=>
  have ev:fm st=(⟨1,0,[]⟩,st):=by simp [fm,e2,e3,e4,e5,kt,kf]
  cases kb:(st.bad !=0)
  ·have eb:st.bad=0:=by simpa using kb
   have en:aB st=(⟨1,0,[]⟩,aX st):=by simp [aB,ev,eb]
   simp only [go_sem,c2,c4,c23,c24,aj,n2,n4,m23,m24,PO,kb,w1];exact .mk (h' :=upd G id (some (PO (aB st).2))) _ (.refl _) (by rw [en]; exact Sub.both (by repeat (first|exact .refl _|refine Sub.put ?_ (by assumption) _)) _ _) ⟨by rw [en]; rfl,rfl⟩
  ·have eb:st.bad≠0:=by simpa using kb
   have en:aB st=(⟨0,0,[]⟩,st):=by simp [aB,ev,eb]
   simp only [go_sem,c2,c4,c23,c24,aj,n2,n4,m23,m24,PO,kb];exact .mk (h' :=upd G id (some (PO (aB st).2))) _ (.refl _) (by rw [en]; exact Sub.both (by repeat (first|exact .refl _|refine Sub.put ?_ (by assumption) _)) _ _) ⟨by rw [en]; rfl,rfl⟩
 have ev:fm st=(⟨0,(aI st).n,(aI st).s⟩,aZ st):=by simp [fm,e2,e3,e4,e5,kt,kf]
 have en:aB st=(⟨0,0,[]⟩,aZ st):=by simp [aB,ev,oK]
 have kb:((aZ st).bad !=0)=true:=by simpa using oK st
 simp only [go_sem];refine (jM st hw).run ?_;simp only [go_sem,c2,c23,c24,aj,n2,m23,m24,PO,kb];exact .mk (h' :=upd G id (some (PO (aB st).2))) _ (.refl _) (by rw [en]; exact Sub.both (by repeat (first|exact .refl _|refine Sub.put ?_ (by assumption) _)) _ _) ⟨by rw [en]; rfl,rfl⟩
def qE:List Txt:= [[61],[60],[62]]
theorem Lm {st:PS} (i:Nat) (hi:i<qE.length) (hb:∀j (hj:j<qE.length),j<i→isD st qE[j]=false) (h:isD st qE[i]=true):opP st=((i:Int)+1,aX st):=by
 have h3:i<3:=hi;rcases (by omega:i=0∨i=1∨i=2) with rfl|rfl|rfl
 ·simp only [opP,show isD st [61]=true from h,if_true]; rfl
 ·simp only [opP,show isD st [61]=false from hb 0 (by decide) (by decide),show isD st [60]=true from h,if_true]; rfl
 ·simp only [opP,show isD st [61]=false from hb 0 (by decide) (by decide),show isD st [60]=false from hb 1 (by decide) (by decide),show isD st [62]=true from h,if_true]; rfl
theorem GG {st:PS} (hb:∀j (hj:j<qE.length),isD st qE[j]=false):opP st=(0,aZ st):=by
 simp only [opP,show isD st [61]=false from hb 0 (by decide),show isD st [60]=false from hb 1 (by decide),show isD st [62]=false from hb 2 (by decide)]; rfl
set_option maxRecDepth 20000 in
theorem C7 (st:PS) (hw:WfP st):PC 275 [] st (cV (fJ st).1) (fJ st).2:= .of fun G id=>by
 have h1:=yc hw;obtain ⟨a,st1,e1⟩:∃a st1,fo st=(a,st1):=⟨_,_,rfl⟩;have hat:=FE st hw;rw [e1] at h1 hat;simp only at h1 hat;refine ak.body hU hm Tryz.func275 rfl (by kernel_rfl) 32 rfl [.cell 2 246] rfl (Uf rfl) (fun hwf=> ?_)
 simp only [go_sem];intro i2 hi2;have n2:=aH hi2;have hG2:G i2=none:=by rw [ag _ _ n2] at hi2; exact hi2
 have c2:∀(f:Heap) (x y:Option Blk),upd (upd f id x) i2 y=upd (upd f i2 y) id x:=fun f x y=>cj f x y n2.symm
 simp only [go_sem,c2];refine hat.run ?_;simp only [go_sem,zg];intro i3 hi3;have n3:=aH hi3;have hi3' :=hi3;rw [ag _ _ n3] at hi3';have n32:=aH hi3';have hG3:G i3=none:=by rw [ag _ _ n32] at hi3'; exact hi3'
 have c3:∀(f:Heap) (x y:Option Blk),upd (upd f id x) i3 y=upd (upd f i3 y) id x:=fun f x y=>cj f x y n3.symm
 have c23:∀(f:Heap) (x y:Option Blk),upd (upd f i3 x) i2 y=upd (upd f i2 y) i3 x:=fun f x y=>cj f x y n32
 have m32:¬i3=i2:=n32;have m23:¬i2=i3:=n32.symm;simp only [go_sem,c3,aj,n3];refine .intro (fun m ρ H=>H=upd (upd (upd G i2 (some (.obj [.v (.int .i64 0), .s [], .v (.bool false), .v (.int .i64 0), .v (.int .i64 0), .v (.int .i64 0), .s []] 246))) i3 (some (.obj [.v (.int .i64 a.cat), .s a.name, .v (.bool a.must), .v (.int .i64 0), .v (.int .i64 0), .v (.int .i64 0), .s []] 246))) id (some (PO st1))∧
  ∃i:Nat,i≤3∧m=3 - i∧(∀j (hj:j<qE.length),j<i→isD st1 qE[j]=false)∧lk ρ 0=some (.ptr id 0)∧lk ρ 2=some (.ptr i2 0)∧lk ρ 3=some (.ptr i3 0)∧lk ρ 9=some (.sl (qE.map AV.s) .full)∧lk ρ 10=some (.v (.int .i64 3))∧lk ρ 11=some (.v (.int .i64 i))) 3 ?_ ?_
 ·refine ⟨rfl,0,by omega,rfl,fun j _ hj=>(by omega), ?_, ?_, ?_, ?_, ?_, ?_⟩<;>simp only [go_sem]<;>rfl
 ·rintro m ρ H ⟨rfl,i,hi,rfl,hb,r0,r2,r3,r9,r10,r11⟩
  simp only [go_sem,r10,r11];refine .intro (fun e=> ?_) (fun e=> ?_)
  ·have hlt:i<3:=by have:=Ui e; omega
   have hlo:i<qE.length:=hlt;have w1:=Um i (by omega)
   have w2:IntKind.i64.wrap (1+(i:Int))=((i:Int)+1):=by rw [bz _ (by omega)]; omega
   simp only [go_sem,r9,r11];refine .at i (by simpa using hlo) (by rw [Uh]; rfl) ?_
   simp only [go_sem,r0,Uh];refine (iX st1 qE[i] h1.1).run ?_;cases d1:isD st1 qE[i]
   ·have et:cg st1 qE[i]=(false,st1):=by simp [cg,d1]
    rw [et];simp only [go_sem,r11,w1];refine ⟨_, ?_,rfl,i+1,by omega,rfl,fun j hj hji=> ?_, ?_, ?_, ?_, ?_, ?_, ?_⟩
    ·omega
    ·by_cases e:j=i
     ·subst e; exact d1
     ·exact hb j hj (by omega)
    all_goals simp only [go_sem,r0,r2,r3,r9,r10]
   ·have et:cg st1 qE[i]=(true,aX st1):=by simp [cg,d1]
    have eo:=Lm i hlo hb d1;have h2:Ah st1 (aX st1):=dF h1.1 (cy d1);have en:fJ st=(⟨a,(i:Int)+1,(aB (aX st1)).1⟩,(aB (aX st1)).2):=by simp [fJ,e1,eo]
    have d2:(((i:Int)+1)==0)=false:=by simp; omega
    rw [et];simp only [go_sem,c3,aj,n3,r0,r3,w2,d2];refine (qX (aX st1) h2.1).run ?_;simp only [go_sem,c2,c3,c23,aj,n2,n3,m23,aS,r2,r3];exact .mk (h' :=upd G id (some (PO (fJ st).2))) _ (.refl _) (by rw [en]; exact Sub.both (by repeat (first|exact .refl _|refine Sub.put ?_ (by assumption) _)) _ _) ⟨by rw [en]; rfl,rfl⟩
  ·have hge:i=3:=by have:=Uj e; omega
   subst hge;have eo:=GG fun j hj=>hb j hj hj
   have h2:Ah st1 (aZ st1):=kn h1.1;have en:fJ st=(⟨a,0,(aB (aZ st1)).1⟩,(aB (aZ st1)).2):=by simp [fJ,e1,eo]
   simp only [go_sem,r0,r3,aj,n3];refine (jM st1 h1.1).run ?_;simp only [go_sem,r0];refine (qX (aZ st1) h2.1).run ?_;simp only [go_sem,c2,c3,c23,aj,n2,n3,m23,aS,r2,r3];exact .mk (h' :=upd G id (some (PO (fJ st).2))) _ (.refl _) (by rw [en]; exact Sub.both (by repeat (first|exact .refl _|refine Sub.put ?_ (by assumption) _)) _ _) ⟨by rw [en]; rfl,rfl⟩
theorem LK:(U 246).sz=7:=by simp only [go_sem]
theorem Oc:(U 246).bytes=72:=by simp only [go_sem]
theorem Dq (l:List bH):Sized 7 (l.map cV):=fun z hz=>by
 obtain ⟨c,_,rfl⟩:=List.mem_map.1 hz; rfl
theorem LJ:(U 247).sz=1:=by simp only [go_sem]
theorem Ob:(U 247).bytes=24:=by simp only [go_sem]
theorem Dp (l:List (List bH)):Sized 1 (l.map gE):=fun z hz=>by
 obtain ⟨c,_,rfl⟩:=List.mem_map.1 hz; rfl
theorem LM:(U 243).sz=1:=by simp only [go_sem]
theorem Oe:(U 243).bytes=24:=by simp only [go_sem]
theorem Ds (l:List (List (List bH))):Sized 1 (l.map cG):=fun z hz=>by
 obtain ⟨c,_,rfl⟩:=List.mem_map.1 hz; rfl
theorem Ju (st:PS) (hw:WfP st):PC 252 [] st (gE (mR st).1) (mR st).2:= .of fun G id=>by
 have h1:=mW hw;have hm1:=C7 st hw;obtain ⟨x0,st1,e1⟩:∃x0 st1,fJ st=(x0,st1):=⟨_,_,rfl⟩;have ep:fh fJ [44] 8 st.ts.length st1 [x0]=mR st:=by simp only [mR,e1]
 rw [e1] at h1 hm1;simp only [cV] at h1 hm1;refine ak.body hU hm Tryz.func252 rfl (by kernel_rfl) 20 rfl [.tmp 2] rfl (Uf rfl) (fun hwf=> ?_)
 simp only [go_sem];refine hm1.run ?_;simp only [go_sem];have hB:upd G id none id=none:=ah ..;refine .intro (fun m ρ H=>∃(f:Nat) (st' :PS) (l:List _) (y:AV),H id=some (PO st')∧Acc U 246 (upd G id none) H y (l.map cV)∧Ah st1 st'∧fh fJ [44] 8 f st' l=mR st∧st1.ts.length≤f+st'.pos∧l.length≤st'.pos+1∧m=st1.ts.length - st'.pos∧lk ρ 0=some (.ptr id 0)∧lk ρ 3=some y) (st1.ts.length - st1.pos) ?_ ?_
 ·refine ⟨st.ts.length,st1,[x0], .sl ([x0].map cV) .full,ah .., .full (base_start G id _), .refl h1.1,ep,by rw [h1.2.1]; omega,by simp,rfl, ?_, ?_⟩<;>simp only [go_sem]<;>rfl
 ·rintro m ρ H ⟨f,st',l,y,hH,hy,ha,hfin,hf,hll,rfl,r0,r3⟩
  have hlen:=ha.1.2.2;have hpos:=ha.1.1;have htl:=ha.2.1;simp only [go_sem,r0];refine (iX st' [44] ha.1).go hH ?_;cases d1:isD st' [44]
  ·have et:cg st' [44]=(false,st'):=by simp [cg,d1]
   have ef:fh fJ [44] 8 f st' l=(l,st'):=by cases f<;>simp [fh,d1]
   rw [et,bW hH];rw [ef] at hfin;simp only [go_sem,r3];exact .mk (h' :=upd G id (some (PO (mR st).2))) (gE l) hy.weak (by rw [←hfin]; exact eD hy.1 hH) ⟨by rw [←hfin],rfl⟩
  ·have et:cg st' [44]=(true,aX st'):=by simp [cg,d1]
   obtain ⟨g,rfl⟩:∃g,f=g+1:=⟨f - 1,by rw [htl] at hpos; omega⟩
   simp only [fh,d1,if_true] at hfin;have h2:=dF ha.1 (cy d1);have hone:=C7 (aX st') h2.1;have h3:=(fun _ h=>mW h:∀st,WfP st→Ah st (fJ st).2) _ h2.1
   obtain ⟨x,st2,e2⟩:∃x st2,fJ (aX st')=(x,st2):=⟨_,_,rfl⟩;rw [e2] at hfin hone h3;simp only [cV] at hfin hone h3;have hdec:decide ((8:Int)<((l.length+1:Nat):Int))=decide (8<l.length+1):=by
    by_cases h:8<l.length+1
    ·simp only [h,decide_true]; exact decide_eq_true (by omega)
    ·simp only [h,decide_false]; exact decide_eq_false (by omega)
   have h4:=jC (decide (8<l.length+1)) h3.1;have hnp:(aX st').pos=st'.pos+1:=rfl;have hp3:=h3.2.2;have hp4:=h4.2.2;rw [et];simp only [go_sem,r0,r3];refine hone.run ?_;simp only [go_sem];refine (hy.put hB hH _).app (zs:= [cV x]) (by rw [LK]; decide) (by rw [Oc]; decide) (fun k hk=>hk) (by rw [LK]; exact Dq l) (by rw [LK]; exact Dq [x]) (by rw [Oc]; simp; omega) fun y' H2 hy' hk2=> ?_
   have hH2:H2 id=some (PO st2):=hk2 _ _ _ (ah ..);simp only [go_sem,r0,hy'.len,Uk,Ug,List.length_cons,List.length_nil,Nat.zero_add,hdec];refine (cE st2 _ h3.1).go hH2 ?_;simp only [go_sem];refine ⟨_, ?_,g,bx st2 (decide (8<l.length+1)),l++ [x],y',ah ..,by rw [List.map_append]; exact hy'.put hB hH2 _,(((ha.trans h2).trans h3).trans h4),hfin,by omega,by simp; omega,rfl, ?_, ?_⟩
   ·have:st1.ts.length=st'.ts.length:=by rw [htl]
    omega
   all_goals simp only [go_sem,r0]
theorem Jv (st:PS) (hw:WfP st):PC 207 [] st (cG (oO st).1) (oO st).2:= .of fun G id=>by
 have h0:=gZ [40] hw;have h1:=ya h0.1;have hm1:=Ju _ h0.1;obtain ⟨x0,st1,e1⟩:∃x0 st1,mR (dz st [40])=(x0,st1):=⟨_,_,rfl⟩;obtain ⟨M,eM⟩:∃M,fh mR orT 8 st.ts.length st1 [x0]=M:=⟨_,rfl⟩;have epp:(M.1,dz M.2 [41])=oO st:=by simp only [oO,e1,eM]
 rw [e1] at h1 hm1;simp only [gE] at h1 hm1;refine ak.body hU hm Tryz.func207 rfl (by kernel_rfl) 24 rfl [.tmp 2] rfl (Uf rfl) (fun hwf=> ?_)
 simp only [go_sem];refine (jw st [40] hw).run ?_;simp only [go_sem];refine hm1.run ?_;simp only [go_sem];have hB:upd G id none id=none:=ah ..;refine .intro (fun m ρ H=>∃(f:Nat) (st' :PS) (l:List _) (y:AV),H id=some (PO st')∧Acc U 247 (upd G id none) H y (l.map gE)∧Ah st1 st'∧fh mR orT 8 f st' l=M∧st1.ts.length≤f+st'.pos∧l.length≤st'.pos+1∧m=st1.ts.length - st'.pos∧lk ρ 0=some (.ptr id 0)∧lk ρ 3=some y) (st1.ts.length - st1.pos) ?_ ?_
 ·refine ⟨st.ts.length,st1,[x0], .sl ([x0].map gE) .full,ah .., .full (base_start G id _), .refl h1.1,eM,by rw [h1.2.1,h0.2.1]; omega,by simp,rfl, ?_, ?_⟩<;>simp only [go_sem]<;>rfl
 ·rintro m ρ H ⟨f,st',l,y,hH,hy,ha,hfin,hf,hll,rfl,r0,r3⟩
  have hlen:=ha.1.2.2;have hpos:=ha.1.1;have htl:=ha.2.1;simp only [go_sem,r0];refine (iX st' orT ha.1).go hH ?_;cases d1:isD st' orT
  ·have et:cg st' orT=(false,st'):=by simp [cg,d1]
   have ef:fh mR orT 8 f st' l=(l,st'):=by cases f<;>simp [fh,d1]
   rw [et,bW hH];rw [ef] at hfin;simp only [go_sem,r0];refine (jw st' [41] ha.1).go hH ?_;simp only [go_sem,r3];exact .mk (h' :=upd G id (some (PO (oO st).2))) (cG l) hy.weak (by rw [←epp,←hfin]; exact eD (hy.1.put hB _) (ah ..)) ⟨by rw [←epp,←hfin],rfl⟩
  ·have et:cg st' orT=(true,aX st'):=by simp [cg,d1]
   obtain ⟨g,rfl⟩:∃g,f=g+1:=⟨f - 1,by rw [htl] at hpos; omega⟩
   simp only [fh,d1,if_true] at hfin;have h2:=dF ha.1 (cy d1);have hone:=Ju (aX st') h2.1;have h3:=(fun _ h=>ya h:∀st,WfP st→Ah st (mR st).2) _ h2.1
   obtain ⟨x,st2,e2⟩:∃x st2,mR (aX st')=(x,st2):=⟨_,_,rfl⟩;rw [e2] at hfin hone h3;simp only [gE] at hfin hone h3;have hdec:decide ((8:Int)<((l.length+1:Nat):Int))=decide (8<l.length+1):=by
    by_cases h:8<l.length+1
    ·simp only [h,decide_true]; exact decide_eq_true (by omega)
    ·simp only [h,decide_false]; exact decide_eq_false (by omega)
   have h4:=jC (decide (8<l.length+1)) h3.1;have hnp:(aX st').pos=st'.pos+1:=rfl;have hp3:=h3.2.2;have hp4:=h4.2.2;rw [et];simp only [go_sem,r0,r3];refine hone.run ?_;simp only [go_sem];refine (hy.put hB hH _).app (zs:= [gE x]) (by rw [LJ]; decide) (by rw [Ob]; decide) (fun k hk=>hk) (by rw [LJ]; exact Dp l) (by rw [LJ]; exact Dp [x]) (by rw [Ob]; simp; omega) fun y' H2 hy' hk2=> ?_
   have hH2:H2 id=some (PO st2):=hk2 _ _ _ (ah ..);simp only [go_sem,r0,hy'.len,Uk,Ug,List.length_cons,List.length_nil,Nat.zero_add,hdec];refine (cE st2 _ h3.1).go hH2 ?_;simp only [go_sem];refine ⟨_, ?_,g,bx st2 (decide (8<l.length+1)),l++ [x],y',ah ..,by rw [List.map_append]; exact hy'.put hB hH2 _,(((ha.trans h2).trans h3).trans h4),hfin,by omega,by simp; omega,rfl, ?_, ?_⟩
   ·have:st1.ts.length=st'.ts.length:=by rw [htl]
    omega
   all_goals simp only [go_sem,r0]
theorem J0 (st:PS) (hw:WfP st):PC 153 [] st (aR (fX st).1) (fX st).2:= .of fun G id=>by
 refine ak.body hU hm Tryz.func153 rfl (by kernel_rfl) 23 rfl [.tmp 2] rfl (Uf rfl) (fun hwf=> ?_)
 simp only [go_sem];refine (iX st Bb hw).run ?_;cases d0:isD st Bb
 ·have et:cg st Bb=(false,st):=by simp [cg,d0]
  have ep:fX st=([],st):=by simp [fX,d0]
  rw [et];simp only [go_sem];exact .mk (h' :=upd G id (some (PO (fX st).2))) (aR []) (.sl _ _) (by rw [ep]; exact .refl _) ⟨by rw [ep],rfl⟩
 have et:cg st Bb=(true,aX st):=by simp [cg,d0]
 have h0:=dF hw (cy d0);have h1:=yb h0.1;have hm1:=Jv _ h0.1;obtain ⟨x0,st1,e1⟩:∃x0 st1,oO (aX st)=(x0,st1):=⟨_,_,rfl⟩;obtain ⟨M,eM⟩:∃M,fh oO zc 8 st.ts.length st1 [x0]=M:=⟨_,rfl⟩;have ep:M=fX st:=by simp only [fX,d0,if_true,e1,eM]
 rw [e1] at h1 hm1;simp only [cG] at h1 hm1;rw [et];simp only [go_sem];refine hm1.run ?_;simp only [go_sem];have hB:upd G id none id=none:=ah ..;refine .intro (fun m ρ H=>∃(f:Nat) (st' :PS) (l:List _) (y:AV),H id=some (PO st')∧Acc U 243 (upd G id none) H y (l.map cG)∧Ah st1 st'∧fh oO zc 8 f st' l=M∧st1.ts.length≤f+st'.pos∧l.length≤st'.pos+1∧m=st1.ts.length - st'.pos∧lk ρ 0=some (.ptr id 0)∧lk ρ 3=some y) (st1.ts.length - st1.pos) ?_ ?_
 ·refine ⟨st.ts.length,st1,[x0], .sl ([x0].map cG) .full,ah .., .full (base_start G id _), .refl h1.1,eM,by rw [h1.2.1,h0.2.1]; omega,by simp,rfl, ?_, ?_⟩<;>simp only [go_sem]<;>rfl
 ·rintro m ρ H ⟨f,st',l,y,hH,hy,ha,hfin,hf,hll,rfl,r0,r3⟩
  have hlen:=ha.1.2.2;have hpos:=ha.1.1;have htl:=ha.2.1;simp only [go_sem,r0];refine (iX st' zc ha.1).go hH ?_;cases d1:isD st' zc
  ·have et:cg st' zc=(false,st'):=by simp [cg,d1]
   have ef:fh oO zc 8 f st' l=(l,st'):=by cases f<;>simp [fh,d1]
   rw [et,bW hH];rw [ef] at hfin;simp only [go_sem,r3];exact .mk (h' :=upd G id (some (PO (fX st).2))) (aR l) hy.weak (by rw [←ep,←hfin]; exact eD hy.1 hH) ⟨by rw [←ep,←hfin],rfl⟩
  ·have et:cg st' zc=(true,aX st'):=by simp [cg,d1]
   obtain ⟨g,rfl⟩:∃g,f=g+1:=⟨f - 1,by rw [htl] at hpos; omega⟩
   simp only [fh,d1,if_true] at hfin;have h2:=dF ha.1 (cy d1);have hone:=Jv (aX st') h2.1;have h3:=(fun _ h=>yb h:∀st,WfP st→Ah st (oO st).2) _ h2.1
   obtain ⟨x,st2,e2⟩:∃x st2,oO (aX st')=(x,st2):=⟨_,_,rfl⟩;rw [e2] at hfin hone h3;simp only [cG] at hfin hone h3;have hdec:decide ((8:Int)<((l.length+1:Nat):Int))=decide (8<l.length+1):=by
    by_cases h:8<l.length+1
    ·simp only [h,decide_true]; exact decide_eq_true (by omega)
    ·simp only [h,decide_false]; exact decide_eq_false (by omega)
   have h4:=jC (decide (8<l.length+1)) h3.1;have hnp:(aX st').pos=st'.pos+1:=rfl;have hp3:=h3.2.2;have hp4:=h4.2.2;rw [et];simp only [go_sem,r0,r3];refine hone.run ?_;simp only [go_sem];refine (hy.put hB hH _).app (zs:= [cG x]) (by rw [LM]; decide) (by rw [Oe]; decide) (fun k hk=>hk) (by rw [LM]; exact Ds l) (by rw [LM]; exact Ds [x]) (by rw [Oe]; simp; omega) fun y' H2 hy' hk2=> ?_
   have hH2:H2 id=some (PO st2):=hk2 _ _ _ (ah ..);simp only [go_sem,r0,hy'.len,Uk,Ug,List.length_cons,List.length_nil,Nat.zero_add,hdec];refine (cE st2 _ h3.1).go hH2 ?_;simp only [go_sem];refine ⟨_, ?_,g,bx st2 (decide (8<l.length+1)),l++ [x],y',ah ..,by rw [List.map_append]; exact hy'.put hB hH2 _,(((ha.trans h2).trans h3).trans h4),hfin,by omega,by simp; omega,rfl, ?_, ?_⟩
   ·have:st1.ts.length=st'.ts.length:=by rw [htl]
    omega
   all_goals simp only [go_sem,r0]
theorem As (op:Int) (h:Heap):ak Tryz.prog 319 [.v (.int .i64 op)] h fun r h' =>r= .sl ((opers op).map iK) .no∧h' =h:=by
 refine ak.body hU hm Tryz.func319 rfl (by kernel_rfl) 15 rfl [.tmp 2] rfl (Uf rfl) (fun hwf=> ?_)
 cases k3:(op==3)<;>cases k4:(op==4)<;>cases k5:(op==5)<;>cases k11:(op==11)
 all_goals
  simp only [go_sem,k3,k4,k5,k11];simp only [beq_iff_eq,beq_eq_false_iff_ne] at k3 k4 k5 k11;refine .mk _ (.sl _ _) (.refl _) ⟨?_,rfl⟩;simp [opers,k3,k4,k5,k11,iK]
theorem LL:(U 90).sz=3:=by simp only [go_sem]
theorem Od:(U 90).bytes=32:=by simp only [go_sem]
theorem Dr (l:List cr):Sized 3 (l.map bk):=fun z hz=>by
 obtain ⟨c,_,rfl⟩:=List.mem_map.1 hz; rfl
set_option maxRecDepth 20000 in
theorem qf (st:PS) (hw:WfP st):PC 157 [] st (ax (fG st).1) (fG st).2:= .of fun G id=>by
 obtain ⟨M,eM⟩:∃M,fG st=M:=⟨_,rfl⟩;have eM2:fh vg sP 8 st.ts.length st []=M:=eM;refine ak.body hU hm Tryz.func157 rfl (by kernel_rfl) 28 rfl [.tmp 2] rfl (Uf rfl) (fun hwf=> ?_)
 simp only [go_sem];have hB:upd G id none id=none:=ah ..;refine .intro (fun m ρ H=>∃(f:Nat) (st' :PS) (l:List cr) (y:AV),H id=some (PO st')∧Acc U 90 (upd G id none) H y (l.map bk)∧Ah st st'∧fh vg sP 8 f st' l=M∧st.ts.length≤f+st'.pos∧l.length≤st'.pos+1∧m=st.ts.length - st'.pos∧lk ρ 0=some (.ptr id 0)∧lk ρ 3=some y) (st.ts.length - st.pos) ?_ ?_
 ·refine ⟨st.ts.length,st,[], .sl ([].map bk) .full,ah .., .full (base_start G id _), .refl hw,eM2,by omega,by simp,rfl, ?_, ?_⟩<;>simp only [go_sem]<;>rfl
 ·rintro m ρ H ⟨f,st',l,y,hH,hy,ha,hfin,hf,hll,rfl,r0,r3⟩
  have hlen:=ha.1.2.2;have hpos:=ha.1.1;have htl:=ha.2.1;simp only [go_sem,r0];refine (iX st' sP ha.1).go hH ?_;cases d1:isD st' sP
  ·have et:cg st' sP=(false,st'):=by simp [cg,d1]
   have ef:fh vg sP 8 f st' l=(l,st'):=by cases f<;>simp [fh,d1]
   rw [et,bW hH];rw [ef] at hfin;simp only [go_sem,r3];exact .mk (h' :=upd G id (some (PO (fG st).2))) (ax l) hy.weak (by rw [eM,←hfin]; exact eD hy.1 hH) ⟨by rw [eM,←hfin],rfl⟩
  ·have et:cg st' sP=(true,aX st'):=by simp [cg,d1]
   obtain ⟨g,rfl⟩:∃g,f=g+1:=⟨f - 1,by rw [htl] at hpos; omega⟩
   simp only [fh,d1,if_true] at hfin;have h2:=dF ha.1 (cy d1);have ho1:=fM rK h2.1;have ho2:=fM kq ho1.1;have ho3:=kP ho2.1;have h3:Ah (aX st') (vg (aX st')).2:=FA h2.1;have hdec:decide ((8:Int)<((l.length+1:Nat):Int))=decide (8<l.length+1):=by
    by_cases h:8<l.length+1
    ·simp only [h,decide_true]; exact decide_eq_true (by omega)
    ·simp only [h,decide_false]; exact decide_eq_false (by omega)
   have h4:=jC (decide (8<l.length+1)) h3.1;have hnp:(aX st').pos=st'.pos+1:=rfl;have hp3:=h3.2.2;have hp4:=h4.2.2;have eX:(vg (aX st'))=(⟨(aV (aX st') rK).1,(aV (aV (aX st') rK).2 kq).1,(cc (aV (aV (aX st') rK).2 kq).2).1⟩,(cc (aV (aV (aX st') rK).2 kq).2).2):=rfl;obtain ⟨x,st2,e2⟩:∃x st2,vg (aX st')=(x,st2):=⟨_,_,rfl⟩;rw [et];simp only [go_sem];intro i4 hi4;have n4:=aH hi4;have hH4:H i4=none:=by rw [ag _ _ n4] at hi4; exact hi4
   have c4:∀(f:Heap) (x y:Option Blk),upd (upd f id x) i4 y=upd (upd f i4 y) id x:=fun f x y=>cj f x y n4.symm
   simp only [go_sem,r0,c4];refine (lH _ rK .full (by decide) h2.1).run ?_
   simp only [go_sem,r0,c4,aj,n4];refine (lH _ kq .full (by decide) ho1.1).run ?_
   simp only [go_sem,r0,c4,aj,n4];refine (qL _ ho2.1).run ?_;simp only [go_sem,r3,c4,aj,n4];rw [e2] at hfin h3 h4 hp3 hp4;simp only at hfin h3 h4 hp3 hp4;have ex1:x=(vg (aX st')).1:=by rw [e2]
   have ex2:st2=(cc (aV (aV (aX st') rK).2 kq).2).2:=by
    have:st2=(vg (aX st')).2:=by rw [e2]
    exact this
   rw [←ex2];refine ((hy.sub (Sub.ai (k:=_) hH4)).put hB (by rw [ag _ _ n4.symm]; exact hH) _).app (zs:= [bk x]) (by rw [LL]; decide) (by rw [Od]; decide) (fun k hk=>by rw [ex1] at hk; exact hk) (by rw [LL]; exact Dr l) (by rw [LL]; exact Dr [x]) (by rw [Od]; simp; omega) fun y' H2 hy' hk2=> ?_
   have hH2:H2 id=some (PO st2):=hk2 _ _ _ (ah ..);simp only [go_sem,r0,hy'.len,Uk,Ug,List.length_cons,List.length_nil,Nat.zero_add,hdec];refine (cE st2 _ h3.1).go hH2 ?_;simp only [go_sem];refine ⟨_, ?_,g,bx st2 (decide (8<l.length+1)),l++ [x],y',ah ..,by rw [List.map_append]; exact hy'.put hB hH2 _,(((ha.trans h2).trans h3).trans h4),hfin,by omega,by simp; omega,rfl, ?_, ?_⟩
   ·have:st.ts.length=st'.ts.length:=by rw [htl]
    omega
   all_goals simp only [go_sem,r0]
theorem pU {U:TypeId→TI} {e:TypeId} {B B' H:Heap} {y:AV} {xs:List AV} (hs:Sub B B') (ha:Acc U e B' H y xs):Acc U e B H y xs:=by
 obtain ⟨h1,rfl|⟨k,i1,rfl,i2⟩⟩:=ha
 ·exact ⟨hs.trans h1, .inl rfl⟩
 ·refine ⟨hs.trans h1, .inr ⟨k, ?_,rfl,i2⟩⟩
  cases hk:B k with
  |none=>rfl
  |some b=>rw [hs _ _ hk] at i1; cases i1
theorem tY {U:TypeId→TI} {e:TypeId} {B H:Heap} {y:AV} {xs:List AV} (ha:Acc U e B H y xs) {i:Nat} (hi:H i=none) (b:Option Blk):Acc U e (upd B i b) (upd H i b) y xs:=by
 obtain ⟨h1,rfl|⟨k,i1,rfl,i2⟩⟩:=ha
 ·exact ⟨h1.both _ _, .inl rfl⟩
 ·have hne:k≠i:=fun hh=>by subst hh; rw [hi] at i2; cases i2
  exact ⟨h1.both _ _, .inr ⟨k,by rw [ag _ _ hne]; exact i1,rfl,by rw [ag _ _ hne]; exact i2⟩⟩
theorem lG {U:TypeId→TI} {e:TypeId} {G K:Heap} {id:Nat} {st:PS} {y:AV} {xs:List AV} (ha:Acc U e (upd G id none) (upd K id (some (PO st))) y xs) (st' :PS):Acc U e (upd G id none) (upd K id (some (PO st'))) y xs:=by
 have:=ha.put (id:=id) (ah ..) (cs:=_) (t:=_) (ah ..) (some (PO st'));rw [mJ] at this;exact this
def XC (f:FuncId) (args:List AV) (st:PS) (l:List aL) (mk:AV→AV) (st' :PS) (l' :List aL):Prop:=
 ∀(G K:Heap) (id:Nat) (y:AV),Acc U 186 (upd G id none) (upd K id (some (PO st))) y (l.map cP)→ak Tryz.prog f (.ptr id 0::y::args) (upd K id (some (PO st))) fun r h' =>∃y',r=mk y'∧h' id=some (PO st')∧Acc U 186 (upd G id none) h' y' (l'.map cP)
theorem XC.run {f:FuncId} {args:List AV} {st st' :PS} {l l' :List aL} {mk:AV→AV} (hc:XC f args st l mk st' l') {G K:Heap} {id:Nat} {y:AV} {Q:AV→Heap→Prop} (ha:Acc U 186 (upd G id none) (upd K id (some (PO st))) y (l.map cP))
  (k:∀y' K',Acc U 186 (upd G id none) (upd K' id (some (PO st'))) y' (l'.map cP)→Q (mk y') (upd K' id (some (PO st')))):ak Tryz.prog f (.ptr id 0::y::args) (upd K id (some (PO st))) Q:=
 (hc G K id y ha).mono fun r h' ⟨y',e1,e2,e3⟩=>by
  subst e1;have:=k y' h' (by rw [bW e2]; exact e3)
  rwa [bW e2] at this
def EH (ex:ExF) (f:Nat):Prop:=∀st l,WfP st→st.ts.length≤f+st.pos→l.length≤2*st.pos+1→XC 276 [] st l (fun y=> .tup [y, .v (.bool (ex st l).1.2)]) (ex st l).2 (ex st l).1.1
theorem DB (st:PS) (ws:List Txt):0≤(aV st ws).1∧(aV st ws).1≤ws.length:=by
 unfold aV;cases ei:rB (aI st).s ws with
 |none=>simp
 |some i=>
  have:=yB ei;simp only;split<;>simp<;>omega
theorem xx {ex:ExF} (ho:Be ex) {f:Nat} (he:EH ex f) (st:PS) (l:List aL) (b:Bool) (hw:WfP st) (hf:st.ts.length≤f+st.pos) (hl:l.length≤2*st.pos+1):XC 253 [.v (.bool b)] st l (fun y=>y) (gx ex st l b).2 (gx ex st l b).1:=fun G K id y ha=>by
 refine ak.body hU hm Tryz.func253 rfl (by kernel_rfl) 25 rfl [.tmp 6] rfl (Uf rfl) (fun hwf=> ?_)
 simp only [go_sem];refine (jZ st hw).run ?_;simp only [go_sem,eY];refine (he st l hw hf hl).run ha fun y' K' ha' => ?_
 cases db:((ex st l).1.2==b)
 ·have e1:(ex st l).1.2≠b:=by simpa using db
  have en:gx ex st l b=((ex st l).1.1,bt (ex st l).2 5 (aI st).pos):=by simp [gx,e1]
  simp only [go_sem,db,Bool.not_false];refine (ov _ 5 _).run ?_;simp only [go_sem];exact .mk (h' :=upd K' id (some (PO (bt (ex st l).2 5 (aI st).pos)))) y' (.refl _) (.refl _) ⟨y',rfl,by rw [en]; exact ah ..,by rw [en]; exact lG ha' _⟩
 ·have e1:(ex st l).1.2=b:=by simpa using db
  have en:gx ex st l b=((ex st l).1.1,(ex st l).2):=by simp [gx,e1]
  simp only [go_sem,db,Bool.not_true];exact .mk (h' :=upd K' id (some (PO (ex st l).2))) y' (.refl _) (.refl _) ⟨y',rfl,by rw [en]; exact ah ..,by rw [en]; exact ha'⟩
set_option maxRecDepth 20000 in
theorem BN {ex:ExF} (ho:Be ex) {f:Nat} (he:EH ex f) (st:PS) (l:List aL) (hw:WfP st) (hf:st.ts.length≤f+st.pos) (hl:l.length+1≤2*st.pos):XC 298 [] st l (fun y=> .tup [y,cP (nD ex st l).1.2]) (nD ex st l).2 (nD ex st l).1.1:=fun G K id y ha=>by
 have h1:=fM jT hw;have hrg:=DB st jT;have hfl:jT.length=11:=rfl;have w2:IntKind.i64.wrap (2+(aV st jT).1)=2+(aV st jT).1:=by rw [bz _ (by omega)]
 refine ak.body hU hm Tryz.func298 rfl (by kernel_rfl) 36 rfl [.tmp 4, .cell 5 186] rfl (Uf rfl) (fun hwf=> ?_)
 simp only [go_sem];intro i5 hi5;have n5:=aH hi5;have hK5:K i5=none:=by rw [ag _ _ n5] at hi5; exact hi5
 have c5:∀(f:Heap) (x y:Option Blk),upd (upd f id x) i5 y=upd (upd f i5 y) id x:=fun f x y=>cj f x y n5.symm
 simp only [go_sem,c5];refine (lH _ jT .full (by decide) hw).run ?_
 simp only [go_sem,w2];intro i6 hi6;have n6:=aH hi6;have c6:∀(f:Heap) (x y:Option Blk),upd (upd f id x) i6 y=upd (upd f i6 y) id x:=fun f x y=>cj f x y n6.symm
 have hi6' :=hi6;rw [ag _ _ n6] at hi6';have n65:=aH hi6';have hK6:K i6=none:=by rw [ag _ _ n65] at hi6'; exact hi6'
 simp only [go_sem,c6,aj,n6];refine (As _ _).pthen ?_;simp only [go_sem];have h5f:=ha;obtain ⟨bs,ebs⟩:∃bs,opers (2+(aV st jT).1)=bs:=⟨_,rfl⟩;obtain ⟨M,eM⟩:∃M,iq ex bs (aV st jT).2 l=M:=⟨_,rfl⟩;have hb2:bs.length≤2:=by rw [←ebs]; exact Au _
 have hMr:nD ex st l=((M.1,⟨2+(aV st jT).1,⟨0,0,[]⟩,⟨0,[],false⟩⟩),dz M.2 [41]):=by simp only [nD,ebs,eM]
 obtain ⟨st1,es1⟩:∃st1,(aV st jT).2=st1:=⟨_,rfl⟩;have hac0:=tY (tY (lG ha st1) (by rw [ag _ _ n5]; exact hK5) (some (.obj [.v (.int .i64 0), .v (.int .i64 0), .v (.int .i64 0), .s [], .v (.int .i64 0), .s [], .v (.bool false)] 186))) (by rw [ag _ _ n65,ag _ _ n6]; exact hK6) (some (.obj [.v (.int .i64 (2+(aV st jT).1)), .v (.int .i64 0), .v (.int .i64 0), .s [], .v (.int .i64 0), .s [], .v (.bool false)] 186))
 simp only [c5,c6] at hac0;obtain ⟨G',eG⟩:∃G',G' =upd (upd G i5 (some (.obj [.v (.int .i64 0), .v (.int .i64 0), .v (.int .i64 0), .s [], .v (.int .i64 0), .s [], .v (.bool false)] 186))) i6 (some (.obj [.v (.int .i64 (2+(aV st jT).1)), .v (.int .i64 0), .v (.int .i64 0), .s [], .v (.int .i64 0), .s [], .v (.bool false)] 186)):=⟨_,rfl⟩;have g5:upd G' id none i5=some (.obj [.v (.int .i64 0), .v (.int .i64 0), .v (.int .i64 0), .s [], .v (.int .i64 0), .s [], .v (.bool false)] 186):=by rw [eG,ag _ _ n5,ag _ _ (Ne.symm n65),ah]
 have g6:upd G' id none i6=some (.obj [.v (.int .i64 (2+(aV st jT).1)), .v (.int .i64 0), .v (.int .i64 0), .s [], .v (.int .i64 0), .s [], .v (.bool false)] 186):=by rw [eG,ag _ _ n6,ah]
 rw [←eG] at hac0;have gi5:upd G id none i5=none:=by
  cases hk:upd G id none i5 with
  |none=>rfl
  |some b=>rw [ha.1 _ _ hk] at hi5; cases hi5
 have hsG:Sub (upd G id none) (upd G' id none):=fun k b hk=>by
  have hs1:=ha.1 k b hk;have hk5:k≠i5:=fun e=>by rw [e,hi5] at hs1; cases hs1
  have hk6:k≠i6:=fun e=>by
   rw [e,ag _ _ n6,hK6] at hs1; cases hs1
  by_cases hkid:k=id
  ·subst hkid; rw [ah] at hk; cases hk
  ·rw [ag _ _ hkid] at hk⊢
   rw [eG,ag _ _ hk6,ag _ _ hk5]; exact hk
 simp only [es1,ebs] at h1 eM⊢;refine .intro (fun m ρ H=>∃(i:Nat) (st' :PS) (l' :List aL) (y' :AV) (K' :Heap),H=upd K' id (some (PO st'))∧Acc U 186 (upd G' id none) (upd K' id (some (PO st'))) y' (l'.map cP)∧Ah st1 st'∧i≤bs.length∧iq ex (bs.drop i) st' l' =M∧l'.length+1≤2*st'.pos+i∧m=bs.length - i∧lk ρ 0=some (.ptr id 0)∧lk ρ 1=some y'∧lk ρ 5=some (.ptr i5 0)∧lk ρ 6=some (.ptr i6 0)∧lk ρ 16=some (.sl (bs.map iK) .no)∧lk ρ 17=some (.v (.int .i64 bs.length))∧lk ρ 18=some (.v (.int .i64 i))) bs.length ?_ ?_
 ·refine ⟨0,st1,l,y,_,rfl,hac0, .refl h1.1,by omega,by simpa using eM,by have:=h1.2.2; omega,rfl, ?_, ?_, ?_, ?_, ?_, ?_, ?_⟩<;>simp only [go_sem]<;>(try rfl)<;>simp
 ·rintro m ρ H ⟨i,st',l',y',K',rfl,hac,hah,hi,hfin,hll,rfl,r0,r1,r5,r6,r16,r17,r18⟩
  simp only [go_sem,r17,r18];have k6:upd K' id (some (PO st')) i6=some (.obj [.v (.int .i64 (2+(aV st jT).1)), .v (.int .i64 0), .v (.int .i64 0), .s [], .v (.int .i64 0), .s [], .v (.bool false)] 186):=hac.1 _ _ g6;have k5:upd K' id (some (PO st')) i5=some (.obj [.v (.int .i64 0), .v (.int .i64 0), .v (.int .i64 0), .s [], .v (.int .i64 0), .s [], .v (.bool false)] 186):=hac.1 _ _ g5;rw [ag _ _ n6] at k6;rw [ag _ _ n5] at k5;refine .intro (fun e=> ?_) (fun e=> ?_)
  ·have hlt:i<bs.length:=Un e
   simp only [go_sem,r16,r18];refine .at i (by simpa using hlt) (by rw [Uh]; rfl) ?_
   cases db:(st'.bad !=0)
   ·have e1:st'.bad=0:=by simpa using db
    rw [List.drop_eq_getElem_cons hlt] at hfin;simp only [iq,e1,if_true] at hfin;simp only [go_sem,r0,r1,Uh,iK,PO,db];have hpl:=hah.2.2;refine (xx ho he st' l' bs[i] hah.1 (by rw [hah.2.1,h1.2.1]; have:=h1.2.2; omega) (by omega)).run hac fun y2 K2 hac2=> ?_
    obtain ⟨q1,q2⟩:=vh ho st' l' bs[i] hah.1;have w1:=Um i (by omega)
    simp only [go_sem,r18,w1];refine ⟨_, ?_,i+1,(gx ex st' l' bs[i]).2,(gx ex st' l' bs[i]).1,y2,K2,rfl,hac2,hah.trans q1,hlt,hfin,by omega,rfl, ?_⟩
    ·omega
    refine ⟨?_, ?_, ?_, ?_, ?_, ?_, ?_⟩
    all_goals simp only [go_sem,r0,r5,r6,r16,r17]
   ·have e1:st'.bad≠0:=by simpa using db
    have hfin2:(l',st')=M:=by
     rw [←hfin,List.drop_eq_getElem_cons hlt];simp [iq,e1]
    clear hfin;have hfin:=hfin2;simp only [go_sem,r0,Uh,iK,PO,db];refine (jw _ [41] hah.1).run ?_;simp only [go_sem,r1,r5,r6,aj,n5,n6,k5,k6];refine ⟨.of (by kernel_rfl), ?_⟩
    exact .mk (.tup [y',cP ⟨2+(aV st jT).1,⟨0,0,[]⟩,⟨0,[],false⟩⟩]) (.refl _) (.refl _) ⟨y',by rw [hMr],by rw [hMr,←hfin]; exact (ag _ _ (Ne.symm n5)).trans (ah ..),by rw [hMr,←hfin]; exact (pU hsG (lG hac (dz st' [41]))).put gi5 ((ag _ _ n5).trans k5) _⟩
  ·have hge:i=bs.length:=by have:=Uj e; omega
   subst hge;rw [List.drop_length] at hfin;simp only [iq] at hfin;simp only [go_sem,r0];refine (jw _ [41] hah.1).run ?_;simp only [go_sem,r1,r5,r6,aj,n5,n6,k5,k6];refine ⟨.of (by kernel_rfl), ?_⟩
   exact .mk (.tup [y',cP ⟨2+(aV st jT).1,⟨0,0,[]⟩,⟨0,[],false⟩⟩]) (.refl _) (.refl _) ⟨y',by rw [hMr],by rw [hMr,←hfin]; exact (ag _ _ (Ne.symm n5)).trans (ah ..),by rw [hMr,←hfin]; exact (pU hsG (lG hac (dz st' [41]))).put gi5 ((ag _ _ n5).trans k5) _⟩
theorem pQ:(U 186).sz=7:=by simp only [go_sem]
theorem wG:(U 186).bytes=72:=by simp only [go_sem]
theorem jA (l:List aL):Sized 7 (l.map cP):=fun z hz=>by
 obtain ⟨c,_,rfl⟩:=List.mem_map.1 hz; rfl
set_option maxRecDepth 20000 in
theorem KQ (f:Nat) (ih:EH (dM f) f):EH (dM (f+1)) (f+1):=fun st l hw hf hl G K id y ha=>by
 refine ak.body hU hm Tryz.func276 rfl (by kernel_rfl) 52 rfl [.tmp 4, .tmp 5] rfl (Uf rfl) (fun hwf=> ?_)
 simp only [go_sem];intro i6 hi6;have n6:=aH hi6;have hK6:K i6=none:=by rw [ag _ _ n6] at hi6; exact hi6
 have c6:∀(f:Heap) (x y:Option Blk),upd (upd f id x) i6 y=upd (upd f i6 y) id x:=fun f x y=>cj f x y n6.symm
 have gi6:upd G id none i6=none:=by
  cases hk:upd G id none i6 with
  |none=>rfl
  |some b=>rw [ha.1 _ _ hk] at hi6; cases hi6
 have hac:=tY ha hi6 (some (.obj [.v (.int .i64 0), .v (.int .i64 0), .v (.int .i64 0), .s [], .v (.int .i64 0), .s [], .v (.bool false)] 186));simp only [go_sem,c6];refine (jZ st hw).run ?_;simp only [go_sem,eY];intro i7 hi7;have n7:=aH hi7;have hi7' :=hi7;rw [ag _ _ n7] at hi7';have n76:=aH hi7';have m76:¬i7=i6:=n76;have m67:¬i6=i7:=fun e=>n76 e.symm
 have hK7:K i7=none:=by rw [ag _ _ n76] at hi7'; exact hi7'
 have c7:∀(f:Heap) (x y:Option Blk),upd (upd f id x) i7 y=upd (upd f i7 y) id x:=fun f x y=>cj f x y n7.symm
 have e6:upd (upd G id none) i6 (some (.obj [.v (.int .i64 0), .v (.int .i64 0), .v (.int .i64 0), .s [], .v (.int .i64 0), .s [], .v (.bool false)] 186))=upd (upd G i6 (some (.obj [.v (.int .i64 0), .v (.int .i64 0), .v (.int .i64 0), .s [], .v (.int .i64 0), .s [], .v (.bool false)] 186))) id none:=c6 G none _;have hac7:∀k,Acc U 186 (upd (upd G i6 (some (.obj [.v (.int .i64 0), .v (.int .i64 0), .v (.int .i64 0), .s [], .v (.int .i64 0), .s [], .v (.bool false)] 186))) id none) (upd (upd (upd K i6 (some (.obj [.v (.int .i64 0), .v (.int .i64 0), .v (.int .i64 0), .s [], .v (.int .i64 0), .s [], .v (.bool false)] 186))) i7 k) id (some (PO st))) y (l.map cP):=fun k=>by
  have:=hac.sub (Sub.ai (k:=k) (by rw [c6]; exact hi7))
  rw [e6,c6 K,c7] at this;exact this
 have hsG:Sub (upd G id none) (upd (upd G i6 (some (.obj [.v (.int .i64 0), .v (.int .i64 0), .v (.int .i64 0), .s [], .v (.int .i64 0), .s [], .v (.bool false)] 186))) id none):=by
  rw [←e6]; exact Sub.ai gi6
 have g6:upd (upd G i6 (some (.obj [.v (.int .i64 0), .v (.int .i64 0), .v (.int .i64 0), .s [], .v (.int .i64 0), .s [], .v (.bool false)] 186))) id none i6=some (.obj [.v (.int .i64 0), .v (.int .i64 0), .v (.int .i64 0), .s [], .v (.int .i64 0), .s [], .v (.bool false)] 186):=by rw [←e6,ah]
 simp only [go_sem,c7,aj,n7];refine (iX st [40] hw).run ?_;have hacX:∀tk NB st',Acc U 186 (upd G id none) (upd (upd (upd (upd K i6 (some (.obj [.v (.int .i64 0), .v (.int .i64 0), .v (.int .i64 0), .s [], .v (.int .i64 0), .s [], .v (.bool false)] 186))) i7 tk) i6 NB) id (some (PO st'))) y (l.map cP):=fun tk NB st' =>by
  have:=(lG (pU hsG (hac7 tk)) st').put gi6 ((ag _ _ n6).trans ((ag _ _ m67).trans (ah ..))) NB;rw [c6] at this;exact this
 obtain ⟨⟨⟨lh,n⟩,sth⟩,eh⟩:∃x,gW (dM f) st l=x:=⟨_,rfl⟩;obtain ⟨hha,hhl⟩:=zV (nw f) st l hw;rw [eh] at hha hhl;simp only at hha hhl;have hwp:=hha.1.2.2;have hwq:=hha.1.1;have hpl:=hha.2.2;have hdec:decide ((32:Int)<((lh.length+1:Nat):Int))=decide (32<lh.length+1):=by
  by_cases h:32<lh.length+1
  ·simp only [h,decide_true]; exact decide_eq_true (by omega)
  ·simp only [h,decide_false]; exact decide_eq_false (by omega)
 cases d0:isD st [40]
 ·have et:cg st [40]=(false,st):=by simp [cg,d0]
  rw [et];cases d1:((aI st).kind==1)
  ·have en:gW (dM f) st l=((l,⟨1,(aB st).1,⟨0,[],false⟩⟩),(aB st).2):=by
    have:(aI st).kind≠1:=by simpa using d1
    simp [gW,d0,this]
   simp only [go_sem,aj,n7,d1];refine (qX st hw).run ?_;rw [en] at eh;injection eh with eh1 eh2
   injection eh1 with eh3 eh4
   subst eh2;subst eh3;subst eh4;simp only [go_sem,c6,aj,n6,m67,aS];refine (hacX _ _ _).app (zs:= [cP (⟨1,(aB st).1,⟨0,[],false⟩⟩:aL)]) (by rw [pQ]; decide) (by rw [wG]; decide) (fun k hk=>hk) (by rw [pQ]; exact jA _) (by rw [pQ]; exact jA [(⟨1,(aB st).1,⟨0,[],false⟩⟩:aL)]) (by rw [wG]; simp; omega) fun y3 H3 hy3 hk3=> ?_
   have hH3:H3 id=some (PO (aB st).2):=hk3 _ _ _ (ah ..);have hb3:H3 i6=some (.obj [.v (.int .i64 (⟨1,(aB st).1,⟨0,[],false⟩⟩:aL).op), .v (.int .i64 (⟨1,(aB st).1,⟨0,[],false⟩⟩:aL).val.kind), .v (.int .i64 (⟨1,(aB st).1,⟨0,[],false⟩⟩:aL).val.n), .s (⟨1,(aB st).1,⟨0,[],false⟩⟩:aL).val.s, .v (.int .i64 (⟨1,(aB st).1,⟨0,[],false⟩⟩:aL).attr.cat), .s (⟨1,(aB st).1,⟨0,[],false⟩⟩:aL).attr.name, .v (.bool (⟨1,(aB st).1,⟨0,[],false⟩⟩:aL).attr.must)] 186):=hk3 _ _ _ ((ag _ _ n6).trans (ah ..));simp only [go_sem,hy3.len,Uk,Ug,List.length_cons,List.length_nil,Nat.zero_add,hdec];refine (cE (aB st).2 _ hha.1).go hH3 ?_;simp only [go_sem,aj,n6,hb3];refine ⟨.of (by kernel_rfl), ?_⟩
   have efin:dM (f+1) st l=((l++ [(⟨1,(aB st).1,⟨0,[],false⟩⟩:aL)],(⟨1,(aB st).1,⟨0,[],false⟩⟩:aL).op==2),bx (aB st).2 (decide (32<l.length+1))):=by simp only [dM,en]
   exact .mk (.tup [y3, .v (.bool ((⟨1,(aB st).1,⟨0,[],false⟩⟩:aL).op==2))]) (.refl _) (.refl _) ⟨y3,by rw [efin],by rw [efin]; exact ah ..,by rw [efin,List.map_append]; exact hy3.put (ah ..) hH3 _⟩
  ·have k1:(aI st).kind=1:=by simpa using d1
   cases d2:((aI st).s== [116,114,117,101])
   ·have k2:(aI st).s≠tg:=by unfold tg; simpa using d2
    cases d3:((aI st).s== [102,97,108,115,101])
    ·have k3:(aI st).s≠ny:=by unfold ny; simpa using d3
     have en:gW (dM f) st l=((l,⟨2,⟨0,0,[]⟩,(fo st).1⟩),(fo st).2):=by simp [gW,d0,k1,k2,k3]
     simp only [go_sem,aj,n7,d1,d2,d3,Bool.not_false];refine (FE st hw).run ?_;rw [en] at eh;injection eh with eh1 eh2
     injection eh1 with eh3 eh4
     subst eh2;subst eh3;subst eh4;simp only [go_sem,c6,aj,n6,m67,zg];refine (hacX _ _ _).app (zs:= [cP (⟨2,⟨0,0,[]⟩,(fo st).1⟩:aL)]) (by rw [pQ]; decide) (by rw [wG]; decide) (fun k hk=>hk) (by rw [pQ]; exact jA _) (by rw [pQ]; exact jA [(⟨2,⟨0,0,[]⟩,(fo st).1⟩:aL)]) (by rw [wG]; simp; omega) fun y3 H3 hy3 hk3=> ?_
     have hH3:H3 id=some (PO (fo st).2):=hk3 _ _ _ (ah ..);have hb3:H3 i6=some (.obj [.v (.int .i64 (⟨2,⟨0,0,[]⟩,(fo st).1⟩:aL).op), .v (.int .i64 (⟨2,⟨0,0,[]⟩,(fo st).1⟩:aL).val.kind), .v (.int .i64 (⟨2,⟨0,0,[]⟩,(fo st).1⟩:aL).val.n), .s (⟨2,⟨0,0,[]⟩,(fo st).1⟩:aL).val.s, .v (.int .i64 (⟨2,⟨0,0,[]⟩,(fo st).1⟩:aL).attr.cat), .s (⟨2,⟨0,0,[]⟩,(fo st).1⟩:aL).attr.name, .v (.bool (⟨2,⟨0,0,[]⟩,(fo st).1⟩:aL).attr.must)] 186):=hk3 _ _ _ ((ag _ _ n6).trans (ah ..));simp only [go_sem,hy3.len,Uk,Ug,List.length_cons,List.length_nil,Nat.zero_add,hdec];refine (cE (fo st).2 _ hha.1).go hH3 ?_;simp only [go_sem,aj,n6,hb3];refine ⟨.of (by kernel_rfl), ?_⟩
     have efin:dM (f+1) st l=((l++ [(⟨2,⟨0,0,[]⟩,(fo st).1⟩:aL)],(⟨2,⟨0,0,[]⟩,(fo st).1⟩:aL).op==2),bx (fo st).2 (decide (32<l.length+1))):=by simp only [dM,en]
     exact .mk (.tup [y3, .v (.bool ((⟨2,⟨0,0,[]⟩,(fo st).1⟩:aL).op==2))]) (.refl _) (.refl _) ⟨y3,by rw [efin],by rw [efin]; exact ah ..,by rw [efin,List.map_append]; exact hy3.put (ah ..) hH3 _⟩
    ·have k3:(aI st).s=ny:=by unfold ny; simpa using d3
     have en:gW (dM f) st l=((l,⟨1,(aB st).1,⟨0,[],false⟩⟩),(aB st).2):=by simp [gW,d0,k1,k3]
     simp only [go_sem,aj,n7,d1,d2,d3,Bool.not_false,Bool.not_true];refine (qX st hw).run ?_;rw [en] at eh;injection eh with eh1 eh2
     injection eh1 with eh3 eh4
     subst eh2;subst eh3;subst eh4;simp only [go_sem,c6,aj,n6,m67,aS];refine (hacX _ _ _).app (zs:= [cP (⟨1,(aB st).1,⟨0,[],false⟩⟩:aL)]) (by rw [pQ]; decide) (by rw [wG]; decide) (fun k hk=>hk) (by rw [pQ]; exact jA _) (by rw [pQ]; exact jA [(⟨1,(aB st).1,⟨0,[],false⟩⟩:aL)]) (by rw [wG]; simp; omega) fun y3 H3 hy3 hk3=> ?_
     have hH3:H3 id=some (PO (aB st).2):=hk3 _ _ _ (ah ..);have hb3:H3 i6=some (.obj [.v (.int .i64 (⟨1,(aB st).1,⟨0,[],false⟩⟩:aL).op), .v (.int .i64 (⟨1,(aB st).1,⟨0,[],false⟩⟩:aL).val.kind), .v (.int .i64 (⟨1,(aB st).1,⟨0,[],false⟩⟩:aL).val.n), .s (⟨1,(aB st).1,⟨0,[],false⟩⟩:aL).val.s, .v (.int .i64 (⟨1,(aB st).1,⟨0,[],false⟩⟩:aL).attr.cat), .s (⟨1,(aB st).1,⟨0,[],false⟩⟩:aL).attr.name, .v (.bool (⟨1,(aB st).1,⟨0,[],false⟩⟩:aL).attr.must)] 186):=hk3 _ _ _ ((ag _ _ n6).trans (ah ..));simp only [go_sem,hy3.len,Uk,Ug,List.length_cons,List.length_nil,Nat.zero_add,hdec];refine (cE (aB st).2 _ hha.1).go hH3 ?_;simp only [go_sem,aj,n6,hb3];refine ⟨.of (by kernel_rfl), ?_⟩
     have efin:dM (f+1) st l=((l++ [(⟨1,(aB st).1,⟨0,[],false⟩⟩:aL)],(⟨1,(aB st).1,⟨0,[],false⟩⟩:aL).op==2),bx (aB st).2 (decide (32<l.length+1))):=by simp only [dM,en]
     exact .mk (.tup [y3, .v (.bool ((⟨1,(aB st).1,⟨0,[],false⟩⟩:aL).op==2))]) (.refl _) (.refl _) ⟨y3,by rw [efin],by rw [efin]; exact ah ..,by rw [efin,List.map_append]; exact hy3.put (ah ..) hH3 _⟩
   ·have k2:(aI st).s=tg:=by unfold tg; simpa using d2
    have en:gW (dM f) st l=((l,⟨1,(aB st).1,⟨0,[],false⟩⟩),(aB st).2):=by simp [gW,d0,k1,k2]
    simp only [go_sem,aj,n7,d1,d2,Bool.not_true];refine (qX st hw).run ?_;rw [en] at eh;injection eh with eh1 eh2
    injection eh1 with eh3 eh4
    subst eh2;subst eh3;subst eh4;simp only [go_sem,c6,aj,n6,m67,aS];refine (hacX _ _ _).app (zs:= [cP (⟨1,(aB st).1,⟨0,[],false⟩⟩:aL)]) (by rw [pQ]; decide) (by rw [wG]; decide) (fun k hk=>hk) (by rw [pQ]; exact jA _) (by rw [pQ]; exact jA [(⟨1,(aB st).1,⟨0,[],false⟩⟩:aL)]) (by rw [wG]; simp; omega) fun y3 H3 hy3 hk3=> ?_
    have hH3:H3 id=some (PO (aB st).2):=hk3 _ _ _ (ah ..);have hb3:H3 i6=some (.obj [.v (.int .i64 (⟨1,(aB st).1,⟨0,[],false⟩⟩:aL).op), .v (.int .i64 (⟨1,(aB st).1,⟨0,[],false⟩⟩:aL).val.kind), .v (.int .i64 (⟨1,(aB st).1,⟨0,[],false⟩⟩:aL).val.n), .s (⟨1,(aB st).1,⟨0,[],false⟩⟩:aL).val.s, .v (.int .i64 (⟨1,(aB st).1,⟨0,[],false⟩⟩:aL).attr.cat), .s (⟨1,(aB st).1,⟨0,[],false⟩⟩:aL).attr.name, .v (.bool (⟨1,(aB st).1,⟨0,[],false⟩⟩:aL).attr.must)] 186):=hk3 _ _ _ ((ag _ _ n6).trans (ah ..));simp only [go_sem,hy3.len,Uk,Ug,List.length_cons,List.length_nil,Nat.zero_add,hdec];refine (cE (aB st).2 _ hha.1).go hH3 ?_;simp only [go_sem,aj,n6,hb3];refine ⟨.of (by kernel_rfl), ?_⟩
    have efin:dM (f+1) st l=((l++ [(⟨1,(aB st).1,⟨0,[],false⟩⟩:aL)],(⟨1,(aB st).1,⟨0,[],false⟩⟩:aL).op==2),bx (aB st).2 (decide (32<l.length+1))):=by simp only [dM,en]
    exact .mk (.tup [y3, .v (.bool ((⟨1,(aB st).1,⟨0,[],false⟩⟩:aL).op==2))]) (.refl _) (.refl _) ⟨y3,by rw [efin],by rw [efin]; exact ah ..,by rw [efin,List.map_append]; exact hy3.put (ah ..) hH3 _⟩
 ·have et:cg st [40]=(true,aX st):=by simp [cg,d0]
  have h1:=dF hw (cy d0);have hnp:(aX st).pos=st.pos+1:=rfl;have hnt:(aX st).ts=st.ts:=rfl;rw [et];simp only [go_sem];have ef:nD (dM f) (aX st) l=((lh,n),sth):=by rw [←eh]; simp [gW,d0]
  have hfx:=BN (nw f) ih (aX st) l h1.1 (by rw [hnt]; omega) (by omega)
  simp only [ef] at hfx;refine hfx.run (lG (hac7 _) _) fun y2 K2 hac2=> ?_
  have k6:=hac2.1 _ _ g6;rw [ag _ _ n6] at k6;simp only [go_sem,c6,aj,n6,k6,cP];have hac3:=(pU hsG hac2).put gi6 ((ag _ _ n6).trans k6) (some (.obj [.v (.int .i64 n.op), .v (.int .i64 n.val.kind), .v (.int .i64 n.val.n), .s n.val.s, .v (.int .i64 n.attr.cat), .s n.attr.name, .v (.bool n.attr.must)] 186));rw [c6] at hac3;refine (hac3).app (zs:= [cP n]) (by rw [pQ]; decide) (by rw [wG]; decide) (fun k hk=>hk) (by rw [pQ]; exact jA _) (by rw [pQ]; exact jA [n]) (by rw [wG]; simp; omega) fun y3 H3 hy3 hk3=> ?_
  have hH3:H3 id=some (PO sth):=hk3 _ _ _ (ah ..);have hb3:H3 i6=some (.obj [.v (.int .i64 n.op), .v (.int .i64 n.val.kind), .v (.int .i64 n.val.n), .s n.val.s, .v (.int .i64 n.attr.cat), .s n.attr.name, .v (.bool n.attr.must)] 186):=hk3 _ _ _ ((ag _ _ n6).trans (ah ..));simp only [go_sem,hy3.len,Uk,Ug,List.length_cons,List.length_nil,Nat.zero_add,hdec];refine (cE sth _ hha.1).go hH3 ?_;simp only [go_sem,aj,n6,hb3];refine ⟨.of (by kernel_rfl), ?_⟩
  have efin:dM (f+1) st l=((lh++ [n],n.op==2),bx sth (decide (32<lh.length+1))):=by simp only [dM,eh]
  exact .mk (.tup [y3, .v (.bool (n.op==2))]) (.refl _) (.refl _) ⟨y3,by rw [efin],by rw [efin]; exact ah ..,by rw [efin,List.map_append]; exact hy3.put (ah ..) hH3 _⟩
theorem FY:∀f,EH (dM f) f
 |0=>fun st l hw hf _=>absurd hw.1 (by omega)
 |f+1=>KQ f (FY f)
theorem BL {P:Program} {f:FuncId} {args:List AV} {h:Heap} {Q Q' :AV→Heap→Prop} (hf:ak P f args h Q) (hq:∀x h1,Q x h1→∃y h2,Weak x y∧Sub h2 h1∧Q' y h2):ak P f args h Q' :=
 fun c vs h1 h2 h3 h4=>(hf c vs h1 h2 h3 h4).mono fun u w' ⟨c',x,h',g1,g2,g3,g4,g5,g6⟩=>by
  obtain ⟨y,h'',k1,k2,k3⟩:=hq x h' g6;exact ⟨c',y,h'',g1,g2,g3,g4.weak k1,k2.trans g5,k3⟩
def flat:AV→AV
 | .sl xs _=> .sl xs .no
 |x=>x
theorem fD (xs:List AV):Weak (.agg xs) (.agg (xs.map flat)):= .agg _ _ (by simp) fun i h1 h2=>by
 rw [Uh];cases xs[i]<;>first|exact .refl _|exact .sl _ _
theorem Ez (st:PS) (hw:WfP st):PC 253 [.sl [] .full, .v (.bool false)] st (eE (gx (dM st.ts.length) st [] false).1) (gx (dM st.ts.length) st [] false).2:= .of fun G id=>by
 have hx:=xx (nw st.ts.length) (FY st.ts.length) st [] false hw (by omega) (by simp)
 refine BL (hx G G id (.sl [] .full) (.full (base_start G id _))) fun r h1 ⟨y',e1,e2,e3⟩=>⟨_,upd G id (some (PO (gx (dM st.ts.length) st [] false).2)), ?_,eD e3.1 e2,rfl,rfl⟩
 subst e1;exact e3.weak
set_option maxRecDepth 20000 in
theorem G8 (deny:Bool) (st:PS) (hw:WfP st):PC 210 [.v (.bool deny)] st (aA (mQ deny st).1) (mQ deny st).2:= .of fun G id=>by
 have h1:=kP hw;have h2:=yg h1.1;have h3:=CG h2.1;have h4:=ye h3.1;have ht:=J0 _ h1.1;simp only [aR] at ht;refine ak.body hU hm Tryz.func210 rfl (by kernel_rfl) 23 rfl [.cell 4 181] rfl (Uf rfl) (fun hwf=> ?_)
 simp only [go_sem];intro i4 hi4;have n4:=aH hi4;have hG4:G i4=none:=by rw [ag _ _ n4] at hi4; exact hi4
 have c4:∀(f:Heap) (x y:Option Blk),upd (upd f id x) i4 y=upd (upd f i4 y) id x:=fun f x y=>cj f x y n4.symm
 simp only [go_sem,c4];refine (qL st hw).run ?_;simp only [go_sem];refine ht.run ?_;simp only [go_sem];intro i5 hi5;have n5:=aH hi5;have hi5' :=hi5;rw [ag _ _ n5] at hi5';have n54:=aH hi5';have m54:¬i5=i4:=n54;have m45:¬i4=i5:=n54.symm;have hG5:G i5=none:=by rw [ag _ _ n54] at hi5'; exact hi5'
 have c5:∀(f:Heap) (x y:Option Blk),upd (upd f id x) i5 y=upd (upd f i5 y) id x:=fun f x y=>cj f x y n5.symm
 have c45:∀(f:Heap) (x y:Option Blk),upd (upd f i5 x) i4 y=upd (upd f i4 y) i5 x:=fun f x y=>cj f x y n54
 simp only [go_sem,c5,aj,n5];refine (iX _ ifT h2.1).run ?_;cases d0:isD (fX (cc st).2).2 ifT
 ·have et:cg (fX (cc st).2).2 ifT=(false,(fX (cc st).2).2):=by simp [cg,d0]
  have ec:nq (fX (cc st).2).2=([],(fX (cc st).2).2):=by simp [nq,d0]
  have er:mQ deny st=(⟨(cc st).1,deny,(fX (cc st).2).1,[],(fG (fX (cc st).2).2).1⟩,dz (fG (fX (cc st).2).2).2 [59]):=by simp only [mQ,ec]
  rw [ec] at h4;have ho:=qf _ h2.1;simp only [ax] at ho;rw [et];simp only [go_sem];refine ho.run ?_;simp only [go_sem,c5,aj,n5];refine (jw _ [59] h4.1).run ?_;simp only [go_sem,c4,c45,aj,n4,n5,m45];exact .mk (h' :=upd G id (some (PO (dz (fG (fX (cc st).2).2).2 [59])))) (aA ⟨(cc st).1,deny,(fX (cc st).2).1,[],(fG (fX (cc st).2).2).1⟩) (fD _) (Sub.both (by repeat (first|exact .refl _|refine Sub.put ?_ (by assumption) _)) _ _) ⟨by rw [er],by rw [er]⟩
 ·have et:cg (fX (cc st).2).2 ifT=(true,aX (fX (cc st).2).2):=by simp [cg,d0]
  obtain ⟨⟨cn,stc⟩,ec⟩:∃x,nq (fX (cc st).2).2=x:=⟨_,rfl⟩;have er:mQ deny st=(⟨(cc st).1,deny,(fX (cc st).2).1,cn,(fG stc).1⟩,dz (fG stc).2 [59]):=by simp only [mQ,ec]
  have hcnd:=Ez (aX (fX (cc st).2).2) (dF h2.1 (cy d0)).1;have ec2:gx (dM (aX (fX (cc st).2).2).ts.length) (aX (fX (cc st).2).2) [] false=(cn,stc):=by rw [←ec]; simp only [nq,d0,if_true]; rfl
  rw [ec2] at hcnd;simp only [eE] at hcnd;rw [ec] at h3 h4;have ho:=qf _ h3.1;simp only [ax] at ho;rw [et];simp only [go_sem];refine hcnd.run ?_;simp only [go_sem,c5,aj,n5];refine ho.run ?_;simp only [go_sem,c5,aj,n5];refine (jw _ [59] h4.1).run ?_;simp only [go_sem,c4,c45,aj,n4,n5,m45];exact .mk (h' :=upd G id (some (PO (dz (fG stc).2 [59])))) (aA ⟨(cc st).1,deny,(fX (cc st).2).1,cn,(fG stc).1⟩) (fD _) (Sub.both (by repeat (first|exact .refl _|refine Sub.put ?_ (by assumption) _)) _ _) ⟨by rw [er],by rw [er]⟩
theorem E8:(U 181).sz=5:=by simp only [go_sem]
theorem Jg:(U 181).bytes=96:=by simp only [go_sem]
theorem tP (l:List cH):Sized 5 (l.map aA):=fun z hz=>by
 obtain ⟨c,_,rfl⟩:=List.mem_map.1 hz; rfl
set_option maxRecDepth 20000 in
theorem Lw (st:PS) (hw:WfP st) (hr:st.rules≤64):PC 156 [] st (.sl ((iU 17 st []).1.map aA) .no) (iU 17 st []).2:= .of fun G id=>by
 obtain ⟨M,eM⟩:∃M,iU 17 st []=M:=⟨_,rfl⟩;rw [eM];refine ak.body hU hm Tryz.func156 rfl (by kernel_rfl) 51 rfl [.tmp 2] rfl (Uf rfl) (fun hwf=> ?_)
 simp only [go_sem];have hB:upd G id none id=none:=ah ..;refine .intro (fun m ρ H=>∃(f:Nat) (st' :PS) (l:List cH) (y:AV),H id=some (PO st')∧Acc U 181 (upd G id none) H y (l.map aA)∧Ah st st'∧st'.rules≤64∧iU f st' l=M∧f+l.length=17∧l.length≤16∧m=f∧lk ρ 0=some (.ptr id 0)∧lk ρ 3=some y) 17 ?_ ?_
 ·refine ⟨17,st,[], .sl ([].map aA) .full,ah .., .full (base_start G id _), .refl hw,hr,eM,by simp,by simp,rfl, ?_, ?_⟩<;>simp only [go_sem]<;>rfl
 ·rintro m ρ H ⟨f,st',l,y,hH,hy,ha,hru,hfin,hf,hll,rfl,r0,r3⟩
  have hlen:=ha.1.2.2;have hpos:=ha.1.1;obtain ⟨g,rfl⟩:∃g,m=g+1:=⟨m - 1,by omega⟩
  simp only [go_sem,r0];refine (qv st' mw ha.1).go hH ?_;rw [bW hH];have fin:isD st' mw=false→isD st' gT=false→(l,st')=M:=fun d1 d2=>by
   rw [←hfin]; simp [iU,d1,d2]
  have rest:isD st' mw=true∨isD st' gT=true→True:=fun _=>trivial
  cases d1:isD st' mw
  ·simp only [go_sem,r0]
   refine (qv st' gT ha.1).go hH ?_;rw [bW hH];cases d2:isD st' gT
   ·simp only [go_sem,r3]
    have e:=fin d1 d2;exact .mk (h' :=upd G id (some (PO M.2))) (.sl (M.1.map aA) .no) (by rw [←e]; exact hy.weak) (by rw [←e]; exact eD hy.1 hH) ⟨rfl,rfl⟩
   ·have hd:isD st' mw=true∨isD st' gT=true:=by first|exact .inl d1|exact .inr d2
    have eb:=(kr hd).1;have ek:=(kr hd).2;have db:(st'.bad !=0)=false:=by simp [eb]
    have gP:=hH;unfold PO at gP;have lim:l.length=16∨st'.rules=64→(l,bx st' true)=M:=fun h=>by
     rw [←hfin]; simp only [iU,if_pos hd,if_pos h]
    have hdl:bx st' true=bt st' 6 (aI st').pos:=rfl;have hlb:((bx st' true).bad !=0)=true:=by rw [hdl]; simp [bt,eb]
    cases dA:((l.length:Int)==16)
    ·cases dB:((st'.rules:Int)==64)
     ·have nA:l.length≠16:=fun e=>by rw [e] at dA; simp at dA
      have nB:st'.rules≠64:=fun e=>by rw [e] at dB; simp at dB
      have hno:¬(l.length=16∨st'.rules=64):=fun h=>h.elim nA nB
      simp only [iU,if_pos hd,if_neg hno] at hfin;simp only [go_sem,r0,r3,hy.len,Ug,dA,gP,dB];refine (cE st' false ha.1).go hH ?_;rw [show bx st' false=st' from rfl,bW hH]
      have w1:IntKind.i64.wrap ((st'.rules:Int)+1)=((st'.rules+1:Nat):Int):=by rw [bz _ (by omega)]; omega
      have w2:IntKind.i64.wrap ((st'.pos:Int)+1)=((st'.pos+1:Nat):Int):=by rw [bz _ (by omega)]; omega
      simp only [go_sem,r0,gP,db,w1];have hwr:WfP {st' with rules:=st'.rules+1}:=ha.1
      refine (qv {st' with rules:=st'.rules+1} gT hwr).go (ah ..) ?_
      rw [mJ];have g2:upd H id (some (PO {st' with rules:=st'.rules+1})) id=some (.obj [.sl (st'.ts.map eY) .no, .v (.int .i64 st'.pos), .v (.int .i64 (st'.rules+1:Nat)), .v (.int .i64 st'.bad), .v (.int .i64 st'.place)] 165):=ah ..
      simp only [go_sem,r0,r3,g2,w2];have h2:Ah st' {aX st' with rules:=st'.rules+1}:=ua ha.1 ek
      have h3:=yf (isD st' gT) h2.1;have hrp:=G8 (isD st' gT) {aX st' with rules:=st'.rules+1} h2.1
      have hr3:=(oJ (vv (isD st' gT) {aX st' with rules:=st'.rules+1})).2.2
      obtain ⟨x,st2,e2⟩:∃x st2,mQ (isD st' gT) {aX st' with rules:=st'.rules+1}=(x,st2):=⟨_,_,rfl⟩
      rw [e2] at hfin hrp h3 hr3;simp only [aA] at hrp hfin h3 hr3;refine hrp.go (ah ..) ?_;rw [mJ];simp only [go_sem];refine (hy.put hB hH _).app (zs:= [aA x]) (by rw [E8]; decide) (by rw [Jg]; decide) (fun k hk=>hk) (by rw [E8]; exact tP l) (by rw [E8]; exact tP [x]) (by rw [Jg]; simp; omega) fun y' H2 hy' hk2=> ?_
      have hH2:H2 id=some (PO st2):=hk2 _ _ _ (ah ..);simp only [go_sem];refine ⟨_, ?_,g,st2,l++ [x],y',hH2,by rw [List.map_append]; exact hy',(ha.trans h2).trans h3,by omega,hfin,by simp; omega,by simp; omega,rfl, ?_, ?_⟩
      ·omega
      all_goals simp only [go_sem,r0]
     ·have nB:st'.rules=64:=by have:(st'.rules:Int)=64:=(by simpa using dB); omega
      have e:=lim (.inr nB);simp only [go_sem,r0,r3,hy.len,Ug,dA,gP,dB];refine (cE st' true ha.1).go hH ?_;have g3:upd H id (some (PO (bx st' true))) id=some (PO (bx st' true)):=ah ..;unfold PO at g3;simp only [go_sem,r0,r3,g3,hlb,PO];exact .mk (h' :=upd G id (some (PO M.2))) (.sl (M.1.map aA) .no) (by rw [←e]; exact hy.weak) (by rw [←e]; exact eD (hy.put hB hH _).1 (ah ..)) ⟨rfl,rfl⟩
    ·have nA:l.length=16:=by have:(l.length:Int)=16:=(by simpa using dA); omega
     have e:=lim (.inl nA);simp only [go_sem,r0,r3,hy.len,Ug,dA];refine (cE st' true ha.1).go hH ?_;have g3:upd H id (some (PO (bx st' true))) id=some (PO (bx st' true)):=ah ..;unfold PO at g3;simp only [go_sem,r0,r3,g3,hlb,PO];exact .mk (h' :=upd G id (some (PO M.2))) (.sl (M.1.map aA) .no) (by rw [←e]; exact hy.weak) (by rw [←e]; exact eD (hy.put hB hH _).1 (ah ..)) ⟨rfl,rfl⟩
  ·have hd:isD st' mw=true∨isD st' gT=true:=by first|exact .inl d1|exact .inr d2
   have eb:=(kr hd).1;have ek:=(kr hd).2;have db:(st'.bad !=0)=false:=by simp [eb]
   have gP:=hH;unfold PO at gP;have lim:l.length=16∨st'.rules=64→(l,bx st' true)=M:=fun h=>by
    rw [←hfin]; simp only [iU,if_pos hd,if_pos h]
   have hdl:bx st' true=bt st' 6 (aI st').pos:=rfl;have hlb:((bx st' true).bad !=0)=true:=by rw [hdl]; simp [bt,eb]
   cases dA:((l.length:Int)==16)
   ·cases dB:((st'.rules:Int)==64)
    ·have nA:l.length≠16:=fun e=>by rw [e] at dA; simp at dA
     have nB:st'.rules≠64:=fun e=>by rw [e] at dB; simp at dB
     have hno:¬(l.length=16∨st'.rules=64):=fun h=>h.elim nA nB
     simp only [iU,if_pos hd,if_neg hno] at hfin;simp only [go_sem,r0,r3,hy.len,Ug,dA,gP,dB];refine (cE st' false ha.1).go hH ?_;rw [show bx st' false=st' from rfl,bW hH]
     have w1:IntKind.i64.wrap ((st'.rules:Int)+1)=((st'.rules+1:Nat):Int):=by rw [bz _ (by omega)]; omega
     have w2:IntKind.i64.wrap ((st'.pos:Int)+1)=((st'.pos+1:Nat):Int):=by rw [bz _ (by omega)]; omega
     simp only [go_sem,r0,gP,db,w1];have hwr:WfP {st' with rules:=st'.rules+1}:=ha.1
     refine (qv {st' with rules:=st'.rules+1} gT hwr).go (ah ..) ?_
     rw [mJ];have g2:upd H id (some (PO {st' with rules:=st'.rules+1})) id=some (.obj [.sl (st'.ts.map eY) .no, .v (.int .i64 st'.pos), .v (.int .i64 (st'.rules+1:Nat)), .v (.int .i64 st'.bad), .v (.int .i64 st'.place)] 165):=ah ..
     simp only [go_sem,r0,r3,g2,w2];have h2:Ah st' {aX st' with rules:=st'.rules+1}:=ua ha.1 ek
     have h3:=yf (isD st' gT) h2.1;have hrp:=G8 (isD st' gT) {aX st' with rules:=st'.rules+1} h2.1
     have hr3:=(oJ (vv (isD st' gT) {aX st' with rules:=st'.rules+1})).2.2
     obtain ⟨x,st2,e2⟩:∃x st2,mQ (isD st' gT) {aX st' with rules:=st'.rules+1}=(x,st2):=⟨_,_,rfl⟩
     rw [e2] at hfin hrp h3 hr3;simp only [aA] at hrp hfin h3 hr3;refine hrp.go (ah ..) ?_;rw [mJ];simp only [go_sem];refine (hy.put hB hH _).app (zs:= [aA x]) (by rw [E8]; decide) (by rw [Jg]; decide) (fun k hk=>hk) (by rw [E8]; exact tP l) (by rw [E8]; exact tP [x]) (by rw [Jg]; simp; omega) fun y' H2 hy' hk2=> ?_
     have hH2:H2 id=some (PO st2):=hk2 _ _ _ (ah ..);simp only [go_sem];refine ⟨_, ?_,g,st2,l++ [x],y',hH2,by rw [List.map_append]; exact hy',(ha.trans h2).trans h3,by omega,hfin,by simp; omega,by simp; omega,rfl, ?_, ?_⟩
     ·omega
     all_goals simp only [go_sem,r0]
    ·have nB:st'.rules=64:=by have:(st'.rules:Int)=64:=(by simpa using dB); omega
     have e:=lim (.inr nB);simp only [go_sem,r0,r3,hy.len,Ug,dA,gP,dB];refine (cE st' true ha.1).go hH ?_;have g3:upd H id (some (PO (bx st' true))) id=some (PO (bx st' true)):=ah ..;unfold PO at g3;simp only [go_sem,r0,r3,g3,hlb,PO];exact .mk (h' :=upd G id (some (PO M.2))) (.sl (M.1.map aA) .no) (by rw [←e]; exact hy.weak) (by rw [←e]; exact eD (hy.put hB hH _).1 (ah ..)) ⟨rfl,rfl⟩
   ·have nA:l.length=16:=by have:(l.length:Int)=16:=(by simpa using dA); omega
    have e:=lim (.inl nA);simp only [go_sem,r0,r3,hy.len,Ug,dA];refine (cE st' true ha.1).go hH ?_;have g3:upd H id (some (PO (bx st' true))) id=some (PO (bx st' true)):=ah ..;unfold PO at g3;simp only [go_sem,r0,r3,g3,hlb,PO];exact .mk (h' :=upd G id (some (PO M.2))) (.sl (M.1.map aA) .no) (by rw [←e]; exact hy.weak) (by rw [←e]; exact eD (hy.put hB hH _).1 (ah ..)) ⟨rfl,rfl⟩
theorem E7:(U 34).sz=7:=by simp only [go_sem]
theorem Jf:(U 34).bytes=128:=by simp only [go_sem]
theorem tO (l:List bB):Sized 7 (l.map aJ):=fun z hz=>by
 obtain ⟨c,_,rfl⟩:=List.mem_map.1 hz;cases c; rfl
set_option maxRecDepth 20000 in
theorem K6 (pol:PoF) (d:Nat) (hd5:d≤5) (hp:∀st,WfP st→st.rules≤64→d≤4→PC 105 [.v (.int .i64 d)] st (aJ (pol st).1) (pol st).2) (hpa:∀st,WfP st→Ah st (pol st).2) (hpr:∀st,lB st (pol st).2)
  (st:PS) (hw:WfP st) (hr:st.rules≤64):PC 155 [.v (.int .i64 d)] st (.sl ((iO pol (decide ((4:Int)<(d:Int))) 17 st []).1.map aJ) .no) (iO pol (decide ((4:Int)<(d:Int))) 17 st []).2:= .of fun G id=>by
 obtain ⟨M,eM⟩:∃M,iO pol (decide ((4:Int)<(d:Int))) 17 st []=M:=⟨_,rfl⟩;rw [eM];refine ak.body hU hm Tryz.func155 rfl (by kernel_rfl) 33 rfl [.tmp 4] rfl (Uf rfl) (fun hwf=> ?_)
 simp only [go_sem];have hB:upd G id none id=none:=ah ..;refine .intro (fun m ρ H=>∃(f:Nat) (st' :PS) (l:List bB) (y:AV),H id=some (PO st')∧Acc U 34 (upd G id none) H y (l.map aJ)∧Ah st st'∧st'.rules≤64∧iO pol (decide ((4:Int)<(d:Int))) f st' l=M∧f+l.length=17∧l.length≤16∧m=f∧lk ρ 0=some (.ptr id 0)∧lk ρ 1=some (.v (.int .i64 d))∧lk ρ 5=some y) 17 ?_ ?_
 ·refine ⟨17,st,[], .sl ([].map aJ) .full,ah .., .full (base_start G id _), .refl hw,hr,eM,by simp,by simp,rfl, ?_, ?_, ?_⟩<;>simp only [go_sem]<;>rfl
 ·rintro m ρ H ⟨f,st',l,y,hH,hy,ha,hru,hfin,hf,hll,rfl,r0,r1,r5⟩
  have hlen:=ha.1.2.2;have hpos:=ha.1.1;obtain ⟨g,rfl⟩:∃g,m=g+1:=⟨m - 1,by omega⟩
  simp only [go_sem,r0];refine (qv st' mz ha.1).go hH ?_;rw [bW hH];have fin:isD st' mz=false→isD st' Cj=false→(l,st')=M:=fun d1 d2=>by
   rw [←hfin]; simp [iO,d1,d2]
  cases d1:isD st' mz
  ·simp only [go_sem,r0]
   refine (qv st' Cj ha.1).go hH ?_;rw [bW hH];cases d2:isD st' Cj
   ·simp only [go_sem,r5]
    have e:=fin d1 d2;exact .mk (h' :=upd G id (some (PO M.2))) (.sl (M.1.map aJ) .no) (by rw [←e]; exact hy.weak) (by rw [←e]; exact eD hy.1 hH) ⟨rfl,rfl⟩
   ·have hd:isD st' mz=true∨isD st' Cj=true:=by first|exact .inl d1|exact .inr d2
    have eb:=(kr hd).1;have ek:=(kr hd).2;have db:(st'.bad !=0)=false:=by simp [eb]
    have gP:=hH;unfold PO at gP;have lim:l.length=16∨decide ((4:Int)<(d:Int))=true→(l,bx st' true)=M:=fun h=>by
     rw [←hfin]; simp only [iO,if_pos hd,if_pos h]
    have hdl:bx st' true=bt st' 6 (aI st').pos:=rfl;have hlb:((bx st' true).bad !=0)=true:=by rw [hdl]; simp [bt,eb]
    cases dA:((l.length:Int)==16)
    ·cases dB:decide ((4:Int)<(d:Int))
     ·have nA:l.length≠16:=fun e=>by rw [e] at dA; simp at dA
      have hno:¬(l.length=16∨decide ((4:Int)<(d:Int))=true):=fun h=>h.elim nA (fun e=>by rw [dB] at e; cases e)
      simp only [iO,if_pos hd,if_neg hno] at hfin;rw [dB] at hfin;have hd4:d≤4:=by have:=Uj dB; omega
      simp only [go_sem,r0,r1,r5,hy.len,Ug,dA,dB];refine (cE st' false ha.1).go hH ?_;rw [show bx st' false=st' from rfl,bW hH]
      have h3:=hpa st' ha.1;have hrp:=hp st' ha.1 hru hd4;have hr3:=rQ (hpr st') hru;obtain ⟨x,st2,e2⟩:∃x st2,pol st' =(x,st2):=⟨_,_,rfl⟩;rw [e2] at hfin hrp h3 hr3;obtain ⟨pid,pset,palg,ptgt,prules,pkids,pobls⟩:=x;simp only [aJ] at hrp hfin h3 hr3;simp only [go_sem,r0,r1,r5,gP,db];refine hrp.go hH ?_;simp only [go_sem];refine (hy.put hB hH _).app (zs:= [aJ ⟨pid,pset,palg,ptgt,prules,pkids,pobls⟩]) (by rw [E7]; decide) (by rw [Jf]; decide) (fun k hk=>hk) (by rw [E7]; exact tO l) (by rw [E7]; exact tO [⟨pid,pset,palg,ptgt,prules,pkids,pobls⟩]) (by rw [Jf]; simp; omega) fun y' H2 hy' hk2=> ?_
      have hH2:H2 id=some (PO st2):=hk2 _ _ _ (ah ..);simp only [go_sem];refine ⟨_, ?_,g,st2,l++ [⟨pid,pset,palg,ptgt,prules,pkids,pobls⟩],y',hH2,by rw [List.map_append]; exact hy',ha.trans h3,hr3,hfin,by simp; omega,by simp; omega,rfl, ?_, ?_, ?_⟩
      ·omega
      all_goals simp only [go_sem,r0,r1]
     ·have e:=lim (.inr dB)
      simp only [go_sem,r0,r1,r5,hy.len,Ug,dA,dB];refine (cE st' true ha.1).go hH ?_;have g3:upd H id (some (PO (bx st' true))) id=some (PO (bx st' true)):=ah ..;unfold PO at g3;simp only [go_sem,r0,r5,g3,hlb,PO];exact .mk (h' :=upd G id (some (PO M.2))) (.sl (M.1.map aJ) .no) (by rw [←e]; exact hy.weak) (by rw [←e]; exact eD (hy.put hB hH _).1 (ah ..)) ⟨rfl,rfl⟩
    ·have nA:l.length=16:=by have:(l.length:Int)=16:=(by simpa using dA); omega
     have e:=lim (.inl nA);simp only [go_sem,r0,r5,hy.len,Ug,dA];refine (cE st' true ha.1).go hH ?_;have g3:upd H id (some (PO (bx st' true))) id=some (PO (bx st' true)):=ah ..;unfold PO at g3;simp only [go_sem,r0,r5,g3,hlb,PO];exact .mk (h' :=upd G id (some (PO M.2))) (.sl (M.1.map aJ) .no) (by rw [←e]; exact hy.weak) (by rw [←e]; exact eD (hy.put hB hH _).1 (ah ..)) ⟨rfl,rfl⟩
  ·have hd:isD st' mz=true∨isD st' Cj=true:=by first|exact .inl d1|exact .inr d2
   have eb:=(kr hd).1;have ek:=(kr hd).2;have db:(st'.bad !=0)=false:=by simp [eb]
   have gP:=hH;unfold PO at gP;have lim:l.length=16∨decide ((4:Int)<(d:Int))=true→(l,bx st' true)=M:=fun h=>by
    rw [←hfin]; simp only [iO,if_pos hd,if_pos h]
   have hdl:bx st' true=bt st' 6 (aI st').pos:=rfl;have hlb:((bx st' true).bad !=0)=true:=by rw [hdl]; simp [bt,eb]
   cases dA:((l.length:Int)==16)
   ·cases dB:decide ((4:Int)<(d:Int))
    ·have nA:l.length≠16:=fun e=>by rw [e] at dA; simp at dA
     have hno:¬(l.length=16∨decide ((4:Int)<(d:Int))=true):=fun h=>h.elim nA (fun e=>by rw [dB] at e; cases e)
     simp only [iO,if_pos hd,if_neg hno] at hfin;rw [dB] at hfin;have hd4:d≤4:=by have:=Uj dB; omega
     simp only [go_sem,r0,r1,r5,hy.len,Ug,dA,dB];refine (cE st' false ha.1).go hH ?_;rw [show bx st' false=st' from rfl,bW hH]
     have h3:=hpa st' ha.1;have hrp:=hp st' ha.1 hru hd4;have hr3:=rQ (hpr st') hru;obtain ⟨x,st2,e2⟩:∃x st2,pol st' =(x,st2):=⟨_,_,rfl⟩;rw [e2] at hfin hrp h3 hr3;obtain ⟨pid,pset,palg,ptgt,prules,pkids,pobls⟩:=x;simp only [aJ] at hrp hfin h3 hr3;simp only [go_sem,r0,r1,r5,gP,db];refine hrp.go hH ?_;simp only [go_sem];refine (hy.put hB hH _).app (zs:= [aJ ⟨pid,pset,palg,ptgt,prules,pkids,pobls⟩]) (by rw [E7]; decide) (by rw [Jf]; decide) (fun k hk=>hk) (by rw [E7]; exact tO l) (by rw [E7]; exact tO [⟨pid,pset,palg,ptgt,prules,pkids,pobls⟩]) (by rw [Jf]; simp; omega) fun y' H2 hy' hk2=> ?_
     have hH2:H2 id=some (PO st2):=hk2 _ _ _ (ah ..);simp only [go_sem];refine ⟨_, ?_,g,st2,l++ [⟨pid,pset,palg,ptgt,prules,pkids,pobls⟩],y',hH2,by rw [List.map_append]; exact hy',ha.trans h3,hr3,hfin,by simp; omega,by simp; omega,rfl, ?_, ?_, ?_⟩
     ·omega
     all_goals simp only [go_sem,r0,r1]
    ·have e:=lim (.inr dB)
     simp only [go_sem,r0,r1,r5,hy.len,Ug,dA,dB];refine (cE st' true ha.1).go hH ?_;have g3:upd H id (some (PO (bx st' true))) id=some (PO (bx st' true)):=ah ..;unfold PO at g3;simp only [go_sem,r0,r5,g3,hlb,PO];exact .mk (h' :=upd G id (some (PO M.2))) (.sl (M.1.map aJ) .no) (by rw [←e]; exact hy.weak) (by rw [←e]; exact eD (hy.put hB hH _).1 (ah ..)) ⟨rfl,rfl⟩
   ·have nA:l.length=16:=by have:(l.length:Int)=16:=(by simpa using dA); omega
    have e:=lim (.inl nA);simp only [go_sem,r0,r5,hy.len,Ug,dA];refine (cE st' true ha.1).go hH ?_;have g3:upd H id (some (PO (bx st' true))) id=some (PO (bx st' true)):=ah ..;unfold PO at g3;simp only [go_sem,r0,r5,g3,hlb,PO];exact .mk (h' :=upd G id (some (PO M.2))) (.sl (M.1.map aJ) .no) (by rw [←e]; exact hy.weak) (by rw [←e]; exact eD (hy.put hB hH _).1 (ah ..)) ⟨rfl,rfl⟩
set_option maxRecDepth 20000 in
theorem AF (r:Nat) (d:Nat) (hrd:r+d=4) (hp:∀st,WfP st→st.rules≤64→d+1≤4→PC 105 [.v (.int .i64 (d+1:Nat))] st (aJ (fO r st).1) (fO r st).2) (st:PS) (hw:WfP st) (hr:st.rules≤64):
  PC 105 [.v (.int .i64 d)] st (aJ (fO (r+1) st).1) (fO (r+1) st).2:= .of fun G id=>by
 have h1:=fM kC hw;have h2:=kP h1.1;have h3:=fM ud h2.1;have h4:=yg h3.1;have h5:Ah _ (cJ st).2:=gZ [123] h4.1;have ht:=J0 _ h3.1;simp only [aR] at ht;have hrh:=rQ (AK st).big hr;have hset:(cJ st).1.1=((aV st kC).1==2):=rfl;have w1:=Um d (by omega)
 have hdp:(r==0)=decide ((4:Int)<((d+1:Nat):Int)):=by
  by_cases h:r=0
  ·rw [decide_eq_true (by omega),h]; rfl
  ·rw [decide_eq_false (by omega)]; simpa using h
 have hk:=K6 (fO r) (d+1) (by omega) hp (fun _ h=>tZ r _ h) (yM r) _ h5.1 hrh
 have hs:=Lw _ h5.1 hrh;refine ak.body hU hm Tryz.func105 rfl (by kernel_rfl) 39 rfl [.cell 4 34] rfl (Uf rfl) (fun hwf=> ?_)
 simp only [go_sem];intro i4 hi4;have n4:=aH hi4;have hG4:G i4=none:=by rw [ag _ _ n4] at hi4; exact hi4
 have c4:∀(f:Heap) (x y:Option Blk),upd (upd f id x) i4 y=upd (upd f i4 y) id x:=fun f x y=>cj f x y n4.symm
 simp only [go_sem,c4];intro i5 hi5;have n5:=aH hi5;have hi5' :=hi5;rw [ag _ _ n5] at hi5';have n54:=aH hi5';have m54:¬i5=i4:=n54;have m45:¬i4=i5:=n54.symm;have hG5:G i5=none:=by rw [ag _ _ n54] at hi5'; exact hi5'
 have c5:∀(f:Heap) (x y:Option Blk),upd (upd f id x) i5 y=upd (upd f i5 y) id x:=fun f x y=>cj f x y n5.symm
 have c45:∀(f:Heap) (x y:Option Blk),upd (upd f i5 x) i4 y=upd (upd f i4 y) i5 x:=fun f x y=>cj f x y n54
 simp only [go_sem,c5];refine (lH st kC .full (by decide) hw).run ?_
 simp only [go_sem,c5,aj,n5];refine (qL _ h1.1).run ?_;simp only [go_sem,c5,aj,n5];refine (lH _ ud .full (by decide) h2.1).run ?_
 simp only [go_sem,c5,aj,n5];refine ht.run ?_;simp only [go_sem,c5,aj,n5];refine (jw _ [123] h4.1).run ?_;cases ds:((aV st kC).1==2)
 ·rw [ds] at hset
  simp only [go_sem,aj,n5];have eb:mN (fO r) (r==0) (cJ st).1.1 (cJ st).2=(((iU 17 (cJ st).2 []).1,[]),(iU 17 (cJ st).2 []).2):=by simp [mN,hset]
  have hb:=yd (fun _ h=>tZ r _ h) (r==0) (cJ st).1.1 h5.1
  obtain ⟨⟨rl,stb⟩,er⟩:∃x,iU 17 (cJ st).2 []=x:=⟨_,rfl⟩;rw [er] at eb hs;rw [eb] at hb;have ho:=qf _ (gZ [125] hb.1).1;simp only [ax] at ho hs;refine hs.run ?_;simp only [go_sem,c5,aj,n5];refine (jw _ [125] hb.1).run ?_;simp only [go_sem];refine ho.run ?_;simp only [go_sem,c4,c5,c45,aj,n4,n5,m45];have efin:fO (r+1) st=(.mk (cJ st).1.2.1 false (cJ st).1.2.2.1 (cJ st).1.2.2.2 rl [] (fG (dz stb [125])).1,(fG (dz stb [125])).2):=by simp only [fO,eb]; rw [hset]
  exact .mk (h' :=upd G id (some (PO (fG (dz stb [125])).2))) (aJ (.mk (cJ st).1.2.1 false (cJ st).1.2.2.1 (cJ st).1.2.2.2 rl [] (fG (dz stb [125])).1)) (fD _) (Sub.both (by repeat (first|exact .refl _|refine Sub.put ?_ (by assumption) _)) _ _) ⟨by rw [efin],by rw [efin]⟩
 ·rw [ds] at hset
  simp only [go_sem,aj,n5,w1];have eb:mN (fO r) (r==0) (cJ st).1.1 (cJ st).2=(([],(iO (fO r) (r==0) 17 (cJ st).2 []).1),(iO (fO r) (r==0) 17 (cJ st).2 []).2):=by simp [mN,hset]
  have hb:=yd (fun _ h=>tZ r _ h) (r==0) (cJ st).1.1 h5.1
  rw [←hdp] at hk;obtain ⟨⟨kl,stb⟩,er⟩:∃x,iO (fO r) (r==0) 17 (cJ st).2 []=x:=⟨_,rfl⟩;rw [er] at eb hk;rw [eb] at hb;have ho:=qf _ (gZ [125] hb.1).1;simp only [ax] at ho hk;refine hk.run ?_;simp only [go_sem,c5,aj,n5];refine (jw _ [125] hb.1).run ?_;simp only [go_sem];refine ho.run ?_;simp only [go_sem,c4,c5,c45,aj,n4,n5,m45];have efin:fO (r+1) st=(.mk (cJ st).1.2.1 true (cJ st).1.2.2.1 (cJ st).1.2.2.2 [] kl (fG (dz stb [125])).1,(fG (dz stb [125])).2):=by simp only [fO,eb]; rw [hset]
  exact .mk (h' :=upd G id (some (PO (fG (dz stb [125])).2))) (aJ (.mk (cJ st).1.2.1 true (cJ st).1.2.2.1 (cJ st).1.2.2.2 [] kl (fG (dz stb [125])).1)) (by simp only [aJ,aW]; exact fD _) (Sub.both (by repeat (first|exact .refl _|refine Sub.put ?_ (by assumption) _)) _ _) ⟨by rw [efin],by rw [efin]⟩
theorem AE:∀(r d:Nat),r+d=4→∀st,WfP st→st.rules≤64→PC 105 [.v (.int .i64 d)] st (aJ (fO (r+1) st).1) (fO (r+1) st).2
 |0,d,hrd=>fun st hw hr=>AF 0 d hrd (fun _ _ _ h=>absurd h (by omega)) st hw hr
 |r+1,d,hrd=>fun st hw hr=>AF (r+1) d hrd (fun st hw hr _=>AE r (d+1) (by omega) st hw hr) st hw hr
theorem FC (l:List (List bH)) (h:Heap):ak Tryz.prog 258 [cG l] h fun r h' =>r= .v (.int .i64 (tv l))∧h' =h:=by
 refine ak.body hU hm Tryz.func258 rfl (by kernel_rfl) 25 rfl [.tmp 2] rfl (Uf rfl) (fun hwf=> ?_)
 simp only [go_sem,cG,Ug];refine (C6 _ _).pthen ?_;cases d1:(jb l.length !=0)
 case true=>
  have e1:jb l.length≠0:=by simpa using d1
  simp only [go_sem,d1];exact .same (.refl _) ⟨by simp [tv,e1,au],rfl⟩
 have e1:jb l.length=0:=by simpa using d1
 have hlen:=Ai e1;simp only [go_sem,d1,Ug];refine .intro (fun m ρ h' =>Ab.Sub h h'∧∃i:Nat,i≤l.length∧m=l.length - i∧gq tr (l.take i)=0∧lk ρ 13=some (cG l)∧lk ρ 14=some (.v (.int .i64 l.length))∧lk ρ 15=some (.v (.int .i64 i))) l.length ?_ ?_
 ·refine ⟨.refl _,0,by omega,rfl,rfl, ?_, ?_, ?_⟩<;>simp only [go_sem,cG]
 ·rintro m ρ h' ⟨hs,i,hi,rfl,hc,r12,r13,r14⟩
  simp only [go_sem,r13,r14];refine .intro (fun e=> ?_) (fun e=> ?_)
  ·have hlt:i<l.length:=Un e
   have w1:=Um i (by omega)
   simp only [go_sem,r12,r14,cG];refine .at i (by simpa using hlt) (by rw [Uh]; rfl) ?_
   simp only [go_sem,Uh,gE];refine (FB l[i] _).pthen ?_;cases d2:(tr l[i] !=0)
   ·have e2:tr l[i]=0:=by simpa using d2
    simp only [go_sem,r14,d2,w1];refine ⟨_, ?_,hs,i+1,by omega,rfl,sC hlt hc e2, ?_, ?_, ?_⟩
    ·omega
    all_goals simp only [go_sem,r12,r13,cG]
   ·have e2:tr l[i]≠0:=by simpa using d2
    simp only [go_sem,d2];refine .mk _ (.refl _) hs ⟨?_,rfl⟩;simp [tv,e1,w9 hlt hc e2,au]
  ·have hge:i=l.length:=by have:=Uj e; omega
   subst hge;rw [List.take_length] at hc;simp only [go_sem];exact .mk _ (.refl _) hs ⟨by simp [tv,e1,hc,au],rfl⟩
theorem rT (l:fE) (h:Heap):ak Tryz.prog 230 [aR l] h fun r h' =>r= .v (.int .i64 (jN l))∧h' =h:=by
 refine ak.body hU hm Tryz.func230 rfl (by kernel_rfl) 21 rfl [.tmp 2] rfl (Uf rfl) (fun hwf=> ?_)
 cases d1:decide (8<(l.length:Int))
 case true=>
  have e1:8<l.length:=by have:=Ui d1; omega
  simp only [go_sem,aR,Ug,d1];exact .same (.refl _) ⟨by simp [jN,e1,au],rfl⟩
 have e1:¬8<l.length:=by have:=Uj d1; omega
 simp only [go_sem,d1,aR,Ug];refine .intro (fun m ρ h' =>Ab.Sub h h'∧∃i:Nat,i≤l.length∧m=l.length - i∧gq tv (l.take i)=0∧lk ρ 9=some (aR l)∧lk ρ 10=some (.v (.int .i64 l.length))∧lk ρ 11=some (.v (.int .i64 i))) l.length ?_ ?_
 ·refine ⟨.refl _,0,by omega,rfl,rfl, ?_, ?_, ?_⟩<;>simp only [go_sem,aR]
 ·rintro m ρ h' ⟨hs,i,hi,rfl,hc,r12,r13,r14⟩
  simp only [go_sem,r13,r14];refine .intro (fun e=> ?_) (fun e=> ?_)
  ·have hlt:i<l.length:=Un e
   have w1:=Um i (by omega)
   simp only [go_sem,r12,r14,aR];refine .at i (by simpa using hlt) (by rw [Uh]; rfl) ?_
   simp only [go_sem,Uh,cG];refine (FC l[i] _).pthen ?_;cases d2:(tv l[i] !=0)
   ·have e2:tv l[i]=0:=by simpa using d2
    simp only [go_sem,r14,d2,w1];refine ⟨_, ?_,hs,i+1,by omega,rfl,sC hlt hc e2, ?_, ?_, ?_⟩
    ·omega
    all_goals simp only [go_sem,r12,r13,aR]
   ·have e2:tv l[i]≠0:=by simpa using d2
    simp only [go_sem,d2];refine .mk _ (.refl _) hs ⟨?_,rfl⟩;simp [jN,e1,w9 hlt hc e2,au]
  ·have hge:i=l.length:=by have:=Uj e; omega
   subst hge;rw [List.take_length] at hc;simp only [go_sem];exact .mk _ (.refl _) hs ⟨by simp [jN,e1,hc,au],rfl⟩
theorem yI (l:List cr) (h:Heap):ak Tryz.prog 231 [ax l] h fun r h' =>r= .v (.int .i64 (gv l))∧h' =h:=by
 refine ak.body hU hm Tryz.func231 rfl (by kernel_rfl) 39 rfl [.tmp 2] rfl (Uf rfl) (fun hwf=> ?_)
 cases d1:decide (8<(l.length:Int))
 case true=>
  have e1:8<l.length:=by have:=Ui d1; omega
  simp only [go_sem,ax,Ug,d1];exact .same (.refl _) ⟨by simp [gv,e1,au],rfl⟩
 have e1:¬8<l.length:=by have:=Uj d1; omega
 simp only [go_sem,d1,ax,Ug];refine .intro (fun m ρ h' =>Ab.Sub h h'∧∃i:Nat,i≤l.length∧m=l.length - i∧(l.take i).all nW=true∧lk ρ 8=some (ax l)∧lk ρ 9=some (.v (.int .i64 l.length))∧lk ρ 10=some (.v (.int .i64 i))) l.length ?_ ?_
 ·refine ⟨.refl _,0,by omega,rfl,rfl, ?_, ?_, ?_⟩<;>simp only [go_sem,ax]
 ·rintro m ρ h' ⟨hs,i,hi,rfl,hc,r12,r13,r14⟩
  simp only [go_sem,r13,r14];refine .intro (fun e=> ?_) (fun e=> ?_)
  ·have hlt:i<l.length:=Un e
   have w1:=Um i (by omega)
   simp only [go_sem,r12,r14,ax];refine .at i (by simpa using hlt) (by rw [Uh]; rfl) ?_
   simp only [go_sem,Uh,bk];intro id hid;have bad:nW l[i]=false→gv l=1:=fun hb=>by
    have:l.all nW=false:=List.all_eq_false.2 ⟨_,Ul hlt,by simp [hb]⟩
    simp [gv,e1,this]
   cases c1:decide (l[i].on<1)
   case true=>
    simp only [go_sem,c1];exact .mk _ (.refl _) (hs.new hid _) ⟨by rw [bad (by have:=Ui c1; simp [nW]; omega)]; rfl,rfl⟩
   cases c2:decide (2<l[i].on)
   case true=>
    simp only [go_sem,c1,c2];exact .mk _ (.refl _) (hs.new hid _) ⟨by rw [bad (by have:=Ui c2; simp [nW]; omega)]; rfl,rfl⟩
   cases c3:decide (l[i].kind<1)
   case true=>
    simp only [go_sem,c1,c2,c3];exact .mk _ (.refl _) (hs.new hid _) ⟨by rw [bad (by have:=Ui c3; simp [nW]; omega)]; rfl,rfl⟩
   cases c4:decide (4<l[i].kind)
   case true=>
    simp only [go_sem,c1,c2,c3,c4];exact .mk _ (.refl _) (hs.new hid _) ⟨by rw [bad (by have:=Ui c4; simp [nW]; omega)]; rfl,rfl⟩
   simp only [go_sem,c1,c2,c3,c4];refine (me _ _).pthen ?_;cases d2:bn l[i].arg
   ·simp only [go_sem]
    exact .mk _ (.refl _) (hs.new hid _) ⟨by rw [bad (by simp [nW,d2])]; rfl,rfl⟩
   ·simp only [go_sem,r14,w1]
    refine ⟨_, ?_,hs.new hid _,i+1,by omega,rfl, ?_, ?_, ?_, ?_⟩
    ·omega
    ·have f1:=Uj c1
     have f2:=Uj c2;have f3:=Uj c3;have f4:=Uj c4;rw [List.take_succ_eq_append_getElem hlt,List.all_append,hc]; simp [nW,d2]; omega
    all_goals simp only [go_sem,r12,r13,ax]
  ·have hge:i=l.length:=by have:=Uj e; omega
   subst hge;rw [List.take_length] at hc;simp only [go_sem];exact .mk _ (.refl _) hs ⟨by simp [gv,e1,hc,au],rfl⟩
theorem HJ (op:Int) (h:Heap):ak Tryz.prog 282 [.v (.int .i64 op)] h fun r h' =>r=(match gC op with
  |none=> .tup [.sl [] .no, .v (.bool false)]
  |some w=> .tup [.sl (w.map iK) .no, .v (.bool true)])∧h' =h:=by
 refine ak.body hU hm Tryz.func282 rfl (by kernel_rfl) 35 rfl [.tmp 2, .tmp 3] rfl (Uf rfl) (fun hwf=> ?_)
 cases k1:(op==1)
 case true=>
  have e1:op=1:=by simpa using k1
  simp only [go_sem,k1];exact .mk _ (eN _) (.refl _) ⟨by simp [gC,e1,au,strip,eW],rfl⟩
 have n1:op≠1:=by simpa using k1
 cases k2:(op==2)
 case true=>
  have e1:op=2:=by simpa using k2
  simp only [go_sem,k1,k2];exact .mk _ (eN _) (.refl _) ⟨by simp [gC,e1,au,strip,eW],rfl⟩
 have n2:op≠2:=by simpa using k2
 cases k3:(op==3)
 case true=>
  have e1:op=3:=by simpa using k3
  simp only [go_sem,k1,k2,k3];exact .mk _ (eN _) (.refl _) ⟨by simp [gC,e1,au,strip,eW,iK],rfl⟩
 have n3:op≠3:=by simpa using k3
 cases k4:(op==4)
 case true=>
  have e1:op=4:=by simpa using k4
  simp only [go_sem,k1,k2,k3,k4];exact .mk _ (eN _) (.refl _) ⟨by simp [gC,e1,au,strip,eW,iK],rfl⟩
 have n4:op≠4:=by simpa using k4
 cases k5:(op==5)
 case true=>
  have e1:op=5:=by simpa using k5
  simp only [go_sem,k1,k2,k3,k4,k5];exact .mk _ (eN _) (.refl _) ⟨by simp [gC,e1,au,strip,eW,iK],rfl⟩
 have n5:op≠5:=by simpa using k5
 cases k11:(op==11)
 case true=>
  have e1:op=11:=by simpa using k11
  simp only [go_sem,k1,k2,k3,k4,k5,k11];exact .mk _ (eN _) (.refl _) ⟨by simp [gC,e1,au,strip,eW,iK],rfl⟩
 have n11:op≠11:=by simpa using k11
 cases k6:decide (6≤op)
 ·have n6:=Uj k6
  simp only [go_sem,k1,k2,k3,k4,k5,k11,k6];exact .mk _ (eN _) (.refl _) ⟨by simp [gC,n1,n2,n3,n4,n5,n11,n6,au,strip,eW],rfl⟩
 cases k13:decide (op≤13)
 ·have n13:=Uj k13
  simp only [go_sem,k1,k2,k3,k4,k5,k11,k6,k13];exact .mk _ (eN _) (.refl _) ⟨by simp [gC,n1,n2,n3,n4,n5,n11,n13,au,strip,eW],rfl⟩
 have n6:=Ui k6;have n13:=Ui k13;simp only [go_sem,k1,k2,k3,k4,k5,k11,k6,k13];exact .mk _ (eN _) (.refl _) ⟨by simp [gC,n1,n2,n3,n4,n5,n11,n6,n13,au,strip,eW,iK],rfl⟩
theorem DZ (n:aL) (h:Heap):ak Tryz.prog 283 [cP n] h fun r h' =>r= .v (.bool (iM n))∧h' =h:=by
 refine ak.body hU hm Tryz.func283 rfl (by kernel_rfl) 37 rfl [.tmp 2] rfl (Uf rfl) (fun hwf=> ?_)
 simp only [go_sem,cP];intro id hid;have fa:∀x y z:Bool,(x && (y && (z && true)))=(x && (y && (z && true))):=fun _ _ _=>rfl
 cases k1:(n.op==1)
 case true=>
  have e1:n.op=1:=by simpa using k1
  simp only [go_sem,k1];refine (iG n.val _).pthen ?_;cases d0:bX n.val
  ·simp only [go_sem]
   exact .mk _ (.refl _) (.ai hid) ⟨by simp [iM,e1,d0,au],rfl⟩
  ·simp only [go_sem]
   exact .mk _ (.refl _) (.ai hid) ⟨by simp [iM,e1,d0,au,zeroAt],rfl⟩
 have n1:n.op≠1:=by simpa using k1
 cases k2:(n.op==2)
 case true=>
  have e1:n.op=2:=by simpa using k2
  simp only [go_sem,k1,k2];refine (CL n.attr _).pthen ?_;cases d0:mY n.attr
  ·simp only [go_sem]
   exact .mk _ (.refl _) (.ai hid) ⟨by simp [iM,e1,d0,au],rfl⟩
  ·simp only [go_sem]
   exact .mk _ (.refl _) (.ai hid) ⟨by simp [iM,e1,d0,au,zeroV],rfl⟩
 have n2:n.op≠2:=by simpa using k2
 cases d0:zeroV n.val
 ·have d1:=d0
  unfold zeroV at d1;simp only [go_sem,k1,k2,d1];exact .mk _ (.refl _) (.ai hid) ⟨by simp [iM,n1,n2,d0,au],rfl⟩
 ·have d1:=d0
  unfold zeroV at d1;simp only [go_sem,k1,k2,d1];exact .mk _ (.refl _) (.ai hid) ⟨by simp [iM,n1,n2,d0,au,zeroAt],rfl⟩
theorem u4:(U 4).sz=1:=by simp only [go_sem]
theorem u4a:(U 4).k.agg=false:=by simp only [go_sem]
theorem u4b:(U 4).bytes=1:=by simp only [go_sem]
theorem u4f:fit (U 4).zero 1:=by simp only [go_sem]
theorem u4n:bp (U 4).zero=false:=by simp only [go_sem]
theorem CM (l:List Bool):One (l.map iK):=One.map (fun _=>rfl) l
theorem I8 (y:AV) (st:List Bool) (n:aL) (h0 h:Heap) (hy:WrA 4 h0 h y (st.map iK)) (hl:st.length≤1000000):
  ak Tryz.prog 259 [y,cP n] h fun r h' =>∃z,r= .tup [z, .v (.bool (gA st n).isSome)]∧match gA st n with
   |none=>Ab.Sub h0 h'
   |some st' =>WrA 4 h0 h' z (st'.map iK):=by
 refine ak.body hU hm Tryz.func259 rfl (by kernel_rfl) 60 rfl [.tmp 4, .tmp 5] rfl (Uf rfl) (fun hwf=> ?_)
 simp only [go_sem,cP];intro id hid;simp only [go_sem];have hyb:=hy.base hid (some (.obj [.v (.int .i64 n.op), .v (.int .i64 n.val.kind), .v (.int .i64 n.val.n), .s n.val.s, .v (.int .i64 n.attr.cat), .s n.attr.name, .v (.bool n.attr.must)] 186));have hw:=HJ n.op (upd h id (some (.obj [.v (.int .i64 n.op), .v (.int .i64 n.val.kind), .v (.int .i64 n.val.n), .s n.val.s, .v (.int .i64 n.attr.cat), .s n.attr.name, .v (.bool n.attr.must)] 186)));cases hwd:gC n.op with
 |none=>
  rw [hwd] at hw;have hst:gA st n=none:=by simp [gA,hwd]
  refine hw.pthen ?_;simp only [go_sem];exact .mk _ (.refl _) (.ai hid) ⟨_,by rw [hst]; rfl,by rw [hst]; exact hy.1⟩
 |some w=>
  rw [hwd] at hw;have hwl:w.length≤2:=by
   unfold gC at hwd
   repeat' split at hwd
   all_goals first|(cases hwd; simp; done)|(cases hwd)
  refine hw.pthen ?_;simp only [go_sem];refine (DZ n _).pthen ?_;cases d1:iM n
  ·have hst:gA st n=none:=by simp [gA,hwd,d1]
   simp only [go_sem];exact .mk _ (.refl _) (.ai hid) ⟨_,by rw [hst]; rfl,by rw [hst]; exact hy.1⟩
  cases d2:decide ((st.length:Int)<(w.length:Int))
  case true=>
   have e2:¬w.length≤st.length:=by have:=Ui d2; omega
   have hst:gA st n=none:=by simp [gA,hwd,d1,e2]
   simp only [go_sem,hyb.len,Ug,d2];exact .mk _ (.refl _) (.ai hid) ⟨_,by rw [hst]; rfl,by rw [hst]; exact hy.1⟩
  have e2:w.length≤st.length:=by have:=Uj d2; omega
  have w1:IntKind.i64.wrap ((st.length:Int) - (w.length:Int))=((st.length - w.length:Nat):Int):=by rw [bz _ (by omega)]; omega
  obtain ⟨hb,ehb⟩:∃hb,upd h id (some (.obj [.v (.int .i64 n.op), .v (.int .i64 n.val.kind), .v (.int .i64 n.val.n), .s n.val.s, .v (.int .i64 n.attr.cat), .s n.attr.name, .v (.bool n.attr.must)] 186))=hb:=⟨_,rfl⟩;have hbid:hb id=some (.obj [.v (.int .i64 n.op), .v (.int .i64 n.val.kind), .v (.int .i64 n.val.n), .s n.val.s, .v (.int .i64 n.attr.cat), .s n.attr.name, .v (.bool n.attr.must)] 186):=by rw [←ehb]; exact ah ..
  have hsub:Ab.Sub h hb:=by rw [←ehb]; exact .ai hid
  rw [ehb] at hyb⊢;simp only [go_sem,hyb.len,Ug,d2,w1];refine .intro (fun m ρ h' =>h' =hb∧∃i:Nat,i≤w.length∧m=w.length - i∧(∀j,j<i→st[st.length - w.length+j]? =w[j]?)∧lk ρ 0=some y∧lk ρ 3=some (.ptr id 0)∧lk ρ 8=some (.v (.int .i64 ((st.length - w.length:Nat):Int)))∧lk ρ 36=some (.sl (w.map iK) .no)∧lk ρ 37=some (.v (.int .i64 w.length))∧lk ρ 38=some (.v (.int .i64 i))) w.length ?_ ?_
  ·refine ⟨rfl,0,by omega,rfl,fun j hj=>(by omega), ?_, ?_, ?_, ?_, ?_, ?_⟩<;>simp only [go_sem]
  ·rintro m ρ h' ⟨rfl,i,hi,rfl,hc,r0,r3,r8,r36,r37,r38⟩
   simp only [go_sem,r37,r38];refine .intro (fun e=> ?_) (fun e=> ?_)
   ·have hlt:i<w.length:=Un e
    have w2:=Um i (by omega)
    have w3:IntKind.i64.wrap (((st.length - w.length:Nat):Int)+(i:Int))=((st.length - w.length+i:Nat):Int):=by rw [bz _ (by omega)]; omega
    have hlt2:st.length - w.length+i<st.length:=by omega
    simp only [go_sem,r36,r38];refine .at i (by simpa using hlt) (by rw [Uh]; rfl) ?_
    simp only [go_sem,r0,r8,Uh,iK,w3];refine hyb.idx (CM st) (st.length - w.length+i) rfl (by simpa using hlt2) u4 u4a fun p hp=> ?_
    simp only [go_sem,hp _,Uh,iK];cases d3:(st[st.length - w.length+i]==w[i])
    ·have hst:gA st n=none:=by
      have:st.drop (st.length - w.length)≠w:=fun hh=>by
       have:=congrArg (fun q=>q[i]?) hh
       simp only [List.getElem?_drop,List.getElem?_eq_getElem hlt,List.getElem?_eq_getElem hlt2,Option.some.injEq] at this;rw [this] at d3; simp at d3
      simp [gA,hwd,this]
     simp only [go_sem];exact .mk _ (.refl _) hsub ⟨_,by rw [hst]; rfl,by rw [hst]; exact hy.1⟩
    ·simp only [go_sem,r38,w2]
     refine ⟨_, ?_,rfl,i+1,by omega,rfl,fun j hj=> ?_, ?_, ?_, ?_, ?_, ?_, ?_⟩
     ·omega
     ·by_cases hji:j=i
      ·subst hji
       rw [List.getElem?_eq_getElem hlt2,List.getElem?_eq_getElem hlt];simpa using d3
      ·exact hc j (by omega)
     all_goals simp only [go_sem,r0,r3,r8,r36,r37]
   ·have hge:i=w.length:=by have:=Uj e; omega
    subst hge;have hdrop:st.drop (st.length - w.length)=w:=by
     apply List.ext_getElem?;intro j;rw [List.getElem?_drop]
     by_cases hj:j<w.length
     ·exact hc j hj
     ·rw [List.getElem?_eq_none (by omega),List.getElem?_eq_none (by omega)]
    have hst:gA st n=some (st.take (st.length - w.length)++ [n.op==2]):=by
     simp [gA,hwd,d1,e2,hdrop]
    simp only [go_sem];refine .calls (hm1 id _) [0,1,2,3,4,5,6,7,8,9] (.hm1 hbid) (by kernel_rfl) rfl ?_
    simp only [go_sem,r0,r8];refine hyb.cut (x:= .i64) (st.length - w.length) (by simp only [go_sem]) rfl (by simp) u4 fun z hz=> ?_
    rw [←List.map_take] at hz;simp only [go_sem,r3,fz];refine hz.app (zs:= [.v (.bool (n.op==2))]) (CM _) (CM [n.op==2]) u4 (by rw [u4b]; decide) u4f u4n (fun k hk=>hk) (by rw [u4b]; simp; omega) fun z' h2 hz' => ?_
    refine ⟨fun j b hj=>((Sub.hm1 (ah ..)).trans hz'.1) j b hj, ?_⟩
    simp only [go_sem];have hz2:=hz'.less (Sub.ai (hy.1.none hid));refine .same (.refl _) ⟨z',by rw [hst]; rfl, ?_⟩
    rw [hst];simp only [List.map_append];exact hz2
theorem Bu {l:List aL} (h:l.length≤32) (hs:eV [] l=none):iZ l=1:=by
 simp [iZ,hs,Nat.not_lt.2 h]
theorem iW (st:List Bool):∀(l:List aL) (i:Nat),eV st l=(match eV st (l.take i) with
  |none=>none
  |some st' =>eV st' (l.drop i))
 | [],i=>by simp [eV]
 |n::r,0=>by simp [eV]
 |n::r,i+1=>by
  simp only [List.take_succ_cons,List.drop_succ_cons,eV];cases gA st n with
  |none=>rfl
  |some st' =>simp only; exact iW st' r i
theorem o6 (st st' :List Bool) (l:List aL) (h:eV st l=some st'):st'.length≤st.length+l.length:=by
 induction l generalizing st with
 |nil=>simp only [eV,Option.some.injEq] at h; subst h; simp
 |cons n r ih=>
  simp only [eV] at h;cases hs:gA st n with
  |none=>rw [hs] at h; cases h
  |some s2=>
   rw [hs] at h;have:=ih s2 h;unfold gA at hs;split at hs
   ·cases hs
   ·split at hs
    ·cases hs
     simp at this⊢;omega
    ·cases hs
theorem CT (l:List aL) (h:Heap):ak Tryz.prog 232 [eE l] h fun r h' =>r= .v (.int .i64 (iZ l))∧h' =h:=by
 refine ak.body hU hm Tryz.func232 rfl (by kernel_rfl) 38 rfl [.tmp 2] rfl (Uf rfl) (fun hwf=> ?_)
 cases d1:decide (32<(l.length:Int))
 case true=>
  have e1:32<l.length:=by have:=Ui d1; omega
  simp only [go_sem,eE,Ug,d1];exact .same (.refl _) ⟨by simp [iZ,e1,au],rfl⟩
 have e1:l.length≤32:=by have:=Uj d1; omega
 simp only [go_sem,eE,Ug,d1];refine .intro (fun m ρ h' =>∃(i:Nat) (y:AV) (st:List Bool),WrA 4 h h' y (st.map iK)∧eV [] (l.take i)=some st∧i≤l.length∧m=l.length - i∧
  lk ρ 0=some (eE l)∧lk ρ 3=some y∧lk ρ 10=some (eE l)∧lk ρ 11=some (.v (.int .i64 l.length))∧lk ρ 12=some (.v (.int .i64 i))) l.length ?_ ?_
 ·refine ⟨0,_,[], .nil (.refl _),rfl,by omega,rfl, ?_, ?_, ?_, ?_, ?_⟩<;>simp only [go_sem,eE]
 ·rintro m ρ h' ⟨i,y,st,hy,hst,hi,rfl,r0,r3,r10,r11,r12⟩
  have hsl:=o6 _ _ _ hst;have hsl:st.length≤i:=by simpa [Nat.min_eq_left hi] using hsl
  simp only [go_sem,r11,r12];refine .intro (fun e=> ?_) (fun e=> ?_)
  ·have hlt:i<l.length:=Un e
   have w1:=Um i (by omega)
   have hnx:eV [] (l.take (i+1))=gA st l[i]:=by
    rw [iW [] _ i,List.take_take,Nat.min_eq_left (by omega),hst,List.take_succ_eq_append_getElem hlt,List.drop_append_of_le_length (by simp; omega),List.drop_of_length_le (by simp; omega)]
    simp only [List.nil_append,eV];cases gA st l[i]<;>rfl
   simp only [go_sem,r10,r12,eE];refine .at i (by simpa using hlt) (by rw [Uh]; rfl) ?_
   simp only [go_sem,Uh,cP];intro id hid;simp only [go_sem,r3];have hyb:=hy.sub (Sub.ai (k:=some (.obj [.v (.int .i64 l[i].op), .v (.int .i64 l[i].val.kind), .v (.int .i64 l[i].val.n), .s l[i].val.s, .v (.int .i64 l[i].attr.cat), .s l[i].attr.name, .v (.bool l[i].attr.must)] 186)) hid);refine (I8 y st l[i] h _ hyb (by omega)).mono fun r h2 ⟨z,e2,hz⟩=> ?_
   subst e2;cases hsd:gA st l[i] with
   |none=>
    rw [hsd] at hz;simp only [go_sem,Option.isSome_none];refine .mk _ (.refl _) hz ⟨?_,rfl⟩;rw [Bu e1 (by rw [iW [] l (i+1),hnx,hsd])]; rfl
   |some st' =>
    rw [hsd] at hz hnx;simp only [go_sem,r12,Option.isSome_some,w1];refine ⟨_, ?_,i+1,z,st',hz,hnx,by omega,rfl, ?_, ?_, ?_, ?_, ?_⟩
    ·omega
    all_goals simp only [go_sem,r0,r10,r11,eE]
  ·have hge:i=l.length:=by have:=Uj e; omega
   subst hge;rw [List.take_length] at hst;have he:iZ l=if l= []∨st= [false] then 0 else 1:=by
    simp only [iZ,hst];rw [if_neg (by omega)]
   cases d2:decide (0<(l.length:Int))
   ·have e2:l= []:=by have:=Uj d2; exact List.length_eq_zero_iff.1 (by omega)
    simp only [go_sem,r0,eE,Ug,d2];exact .mk _ (.refl _) hy.1 ⟨by rw [he,if_pos (.inl e2)]; rfl,rfl⟩
   have e2:l≠ []:=by rintro rfl; simp at d2
   cases d3:((st.length:Int) !=1)
   case true=>
    have e3:st≠ [false]:=by rintro rfl; simp at d3
    simp only [go_sem,r0,r3,eE,Ug,d2,hy.len,d3];exact .mk _ (.refl _) hy.1 ⟨by rw [he,if_neg (by simp [e2,e3])]; rfl,rfl⟩
   have e3:st.length=1:=by
    have:(st.length:Int)=1:=by simpa using d3
    omega
   obtain ⟨b,rfl⟩:=List.length_eq_one_iff.1 e3;simp only [go_sem,r0,r3,eE,Ug,d2,hy.len];refine hy.idx (CM [b]) 0 rfl (by simp) u4 u4a fun p hp=> ?_
   simp only [go_sem,hp _,iK,List.getElem_cons_zero];cases b
   ·simp only [go_sem]
    exact .mk _ (.refl _) hy.1 ⟨by rw [he,if_pos (.inr rfl)]; rfl,rfl⟩
   ·simp only [go_sem]
    exact .mk _ (.refl _) hy.1 ⟨by rw [he,if_neg (by simp [e2])]; rfl,rfl⟩
def Keeps (S:List Nat) (h h' :Heap):Prop:=∀j k,j∉S→h j=some k→h' j=some k
theorem Keeps.trans {S:List Nat} {a b c:Heap} (x:Keeps S a b) (y:Keeps S b c):Keeps S a c:=fun j k hj e=>y j k hj (x j k hj e)
theorem Keeps.of {S:List Nat} {a b:Heap} (x:Ab.Sub a b):Keeps S a b:=fun j k _ e=>x j k e
theorem Keeps.upd {S:List Nat} {a:Heap} {i:Nat} {b:Option Blk} (hi:i∈S):Keeps S a (Ab.upd a i b):=fun j k hj e=>by
 rw [ag _ _ (fun e=>hj (by rw [e]; exact hi))]; exact e
def fT (h:Heap) (idw mid:Nat) (m:dI):Prop:=h idw=some (.obj [.mp mid, .v (.int .i64 m.rules)] 208)∧h mid=some (.mp (wA m.met))∧(∀l∈m.met,l.length≤16)∧m.rules≤64
theorem fT.ne {h:Heap} {idw mid:Nat} {m:dI} (hw:fT h idw mid m):idw≠mid:=fun e=>by
 have h1:=hw.1; have h2:=hw.2.1
 rw [e,h2] at h1; cases h1
theorem fT.keep {h h' :Heap} {idw mid:Nat} {m:dI} (hw:fT h idw mid m) (hs:Ab.Sub h h'):fT h' idw mid m:=⟨hs _ _ hw.1,hs _ _ hw.2.1,hw.2.2⟩
theorem Qd:(U 323).sz=0:=by simp only [go_sem]
theorem B4 {s:Txt} (h:bn s=true):s.length≤16:=by
 simp [bn] at h; exact h.2
theorem u9 {m:dI} {s:Txt} (h:s∈m.met∨bn s=false):gY m s=none:=by
 unfold gY;rw [if_neg]
 rintro ⟨h1,h2⟩
 rcases h with h|h
 ·exact h1 h
 ·rw [h] at h2; cases h2
theorem Bc (idw mid:Nat) (m:dI) (s:Txt) (h:Heap) (hw:fT h idw mid m):ak Tryz.prog 229 [.ptr idw 0, .s s] h fun r h' =>match gY m s with
  |none=>r= .v (.bool false)∧Ab.Sub h h'
  |some m' =>r= .v (.bool true)∧Keeps [idw,mid] h h'∧fT h' idw mid m' :=by
 refine ak.body hU hm Tryz.func229 rfl (by kernel_rfl) 28 rfl [.tmp 4] rfl (Uf rfl) (fun hwf=> ?_)
 obtain ⟨w1,w2,w3,w4⟩:=hw;have hlen:s.length≤maxLen:=by
  have:=hwf (.s s) (by simp)
  simp only [wfA,wf1,lim] at this;unfold maxLen; omega
 have hkeys:wN .str (wA m.met):=Er fun l hl=>by have:=w3 l hl; unfold maxLen; omega
 simp only [go_sem,w1,w2];refine ⟨hlen, .inr (by simp only [go_sem]),hkeys, ?_⟩
 rw [Et _ _ Qd];simp only [go_sem];intro idv hidv;simp only [go_sem];cases d1:decide (s∈m.met)
 case true=>
  have hm:=u9 (.inl (Ui d1));simp only [go_sem];rw [hm];exact .mk _ (.refl _) (.ai hidv) ⟨rfl, .refl _⟩
 have e1:=Uj d1;simp only [go_sem];refine (me _ _).pthen ?_;cases d2:bn s
 ·have hm:=u9 (m:=m) (.inr d2)
  simp only [go_sem];rw [hm];exact .mk _ (.refl _) (.ai hidv) ⟨rfl, .refl _⟩
 have hm:gY m s=some ⟨m.met++ [s],m.rules⟩:=by simp [gY,e1,d2]
 have hne:=fT.ne ⟨w1,w2,w3,w4⟩;have n1:idw≠idv:=fun e=>by rw [e,hidv] at w1; cases w1
 have n2:mid≠idv:=fun e=>by rw [e,hidv] at w2; cases w2
 have w1' :upd h idv (some (.obj [] 323)) idw=some (.obj [.mp mid, .v (.int .i64 m.rules)] 208):=by rw [ag _ _ n1]; exact w1
 have w2' :upd h idv (some (.obj [] 323)) mid=some (.mp (wA m.met)):=by rw [ag _ _ n2]; exact w2
 simp only [go_sem,w1',w2'];refine ⟨hlen,hkeys, ?_⟩;rw [Hq e1];rw [hm];refine .same (.refl _) ⟨rfl,(Keeps.of (.ai hidv)).trans (.upd (by simp)), ?_, ?_, ?_,w4⟩
 ·rw [ag _ _ hne]; exact w1'
 ·rw [ah]
 ·intro l hl
  rcases List.mem_append.1 hl with hl|hl
  ·exact w3 l hl
  ·rw [List.mem_singleton.1 hl]; exact B4 d2
theorem HN (idw mid:Nat) (m:dI) (r:cH) (h:Heap) (hw:fT h idw mid m):ak Tryz.prog 187 [.ptr idw 0,aA r] h fun x h' =>x= .v (.int .i64 (fH m r).err)∧Keeps [idw,mid] h h'∧∀m',fH m r= .ok m'→fT h' idw mid m' :=by
 refine ak.body hU hm Tryz.func187 rfl (by kernel_rfl) 39 rfl [.tmp 4] rfl (Uf rfl) (fun hwf=> ?_)
 simp only [go_sem,aA,aR,eE,ax];intro id hid;have n1:idw≠id:=fun e=>by have:=hw.1; rw [e,hid] at this; cases this
 have n2:mid≠id:=fun e=>by have:=hw.2.1; rw [e,hid] at this; cases this
 have hwb:=hw.keep (Sub.ai (k:=some (.obj [.s r.id, .v (.bool r.deny), .sl (r.tgt.map cG) .no, .sl (r.cond.map cP) .no, .sl (r.obls.map bk) .no] 181)) hid);have hk0:Keeps [idw,mid] h (upd h id (some (.obj [.s r.id, .v (.bool r.deny), .sl (r.tgt.map cG) .no, .sl (r.cond.map cP) .no, .sl (r.obls.map bk) .no] 181))):= .of (.ai hid);simp only [go_sem];obtain ⟨hb,ehb⟩:∃hb,upd h id (some (.obj [.s r.id, .v (.bool r.deny), .sl (r.tgt.map cG) .no, .sl (r.cond.map cP) .no, .sl (r.obls.map bk) .no] 181))=hb:=⟨_,rfl⟩;have hbid:hb id=some (.obj [.s r.id, .v (.bool r.deny), .sl (r.tgt.map cG) .no, .sl (r.cond.map cP) .no, .sl (r.obls.map bk) .no] 181):=by rw [←ehb]; exact ah ..
 rw [ehb] at hwb hk0⊢;refine (Bc idw mid m r.id hb hwb).mono fun x h2 hx=> ?_
 cases hm:gY m r.id with
 |none=>
  rw [hm] at hx;obtain ⟨rfl,hs⟩:=hx;have hr:fH m r= .bad 1:=by simp [fH,hm]
  simp only [go_sem];exact .same (.refl _) ⟨by rw [hr]; rfl,hk0.trans (.of hs),fun m' h' =>by rw [hr] at h'; cases h'⟩
 |some m1=>
  rw [hm] at hx;obtain ⟨rfl,hk,hw2⟩:=hx;have g2:=hw2.1;have hle:=hw2.2.2.2;have hid2:h2 id=some (.obj [.s r.id, .v (.bool r.deny), .sl (r.tgt.map cG) .no, .sl (r.cond.map cP) .no, .sl (r.obls.map bk) .no] 181):=hk id _ (by simp [n1.symm,n2.symm]) hbid
  have w1:IntKind.i64.wrap ((m1.rules:Int)+1)=((m1.rules+1:Nat):Int):=by rw [bz _ (by omega)]; omega
  have hk3:Keeps [idw,mid] h (upd h2 idw (some (.obj [.mp mid, .v (.int .i64 ((m1.rules+1:Nat):Int))] 208))):=(hk0.trans hk).trans (.upd (by simp))
  have hid3:upd h2 idw (some (.obj [.mp mid, .v (.int .i64 ((m1.rules+1:Nat):Int))] 208)) id=some (.obj [.s r.id, .v (.bool r.deny), .sl (r.tgt.map cG) .no, .sl (r.cond.map cP) .no, .sl (r.obls.map bk) .no] 181):=by
   rw [ag _ _ n1.symm]; exact hid2
  cases d1:decide (64<((m1.rules+1:Nat):Int))
  case true=>
   have e1:m1.rules+1>64:=by have:=Ui d1; omega
   have hr:fH m r= .bad 6:=by simp [fH,hm,e1]
   simp only [go_sem,g2,w1,d1];exact .same (.refl _) ⟨by rw [hr]; rfl,hk3,fun m' h' =>by rw [hr] at h'; cases h'⟩
  have e1:¬m1.rules+1>64:=by have:=Uj d1; omega
  have hr:fH m r=need (jN r.tgt) (need (iZ r.cond) (need (gv r.obls) (.ok ⟨m1.met,m1.rules+1⟩))):=by simp [fH,hm,e1]
  simp only [go_sem,g2,w1,d1,hid3];refine (rT r.tgt _).pthen ?_;cases d2:(jN r.tgt !=0)
  case true=>
   have e2:jN r.tgt≠0:=by simpa using d2
   have hr:fH m r= .bad (jN r.tgt):=by rw [hr]; simp [need,e2]
   simp only [go_sem,d2];exact .same (.refl _) ⟨by rw [hr]; rfl,hk3,fun m' h' =>by rw [hr] at h'; cases h'⟩
  have e2:jN r.tgt=0:=by simpa using d2
  rw [need,if_pos e2] at hr;simp only [go_sem,d2,hid3];refine (CT r.cond _).pthen ?_;cases d3:(iZ r.cond !=0)
  case true=>
   have e3:iZ r.cond≠0:=by simpa using d3
   have hr:fH m r= .bad (iZ r.cond):=by rw [hr]; simp [need,e3]
   simp only [go_sem,d3];exact .same (.refl _) ⟨by rw [hr]; rfl,hk3,fun m' h' =>by rw [hr] at h'; cases h'⟩
  have e3:iZ r.cond=0:=by simpa using d3
  rw [need,if_pos e3] at hr;simp only [go_sem,d3,hid3];refine (yI r.obls _).pthen ?_;simp only [go_sem]
  by_cases e4:gv r.obls=0
  ·rw [need,if_pos e4] at hr
   refine .same (.refl _) ⟨by rw [hr,e4]; rfl,hk3,fun m' h' => ?_⟩
   rw [hr] at h';cases h';refine ⟨ah .., ?_,hw2.2.2.1,by show m1.rules+1≤64; omega⟩
   rw [ag _ _ hw2.ne.symm]; exact hw2.2.1
  ·rw [need,if_neg e4] at hr
   exact .same (.refl _) ⟨by rw [hr]; rfl,hk3,fun m' h' =>by rw [hr] at h'; cases h'⟩
theorem uH {m:dI} {id:Txt} {set:Bool} {alg:Int} {tgt:fE} {nr nk:Nat} {obls:List cr} (h:gY m id=none):dY m id set alg tgt nr nk obls= .bad 1:=by
 simp [dY,h]
theorem HL (idw mid:Nat) (m:dI) (id:Txt) (set:Bool) (alg:Int) (tgt:fE) (rules:List cH) (kids:List bB) (obls:List cr) (h:Heap) (hw:fT h idw mid m):
  ak Tryz.prog 186 [.ptr idw 0,aJ (.mk id set alg tgt rules kids obls)] h fun x h' =>x= .v (.int .i64 (dY m id set alg tgt rules.length kids.length obls).err)∧Keeps [idw,mid] h h'∧∀m',dY m id set alg tgt rules.length kids.length obls= .ok m'→fT h' idw mid m' :=by
 refine ak.body hU hm Tryz.func186 rfl (by kernel_rfl) 68 rfl [.tmp 4] rfl (Uf rfl) (fun hwf=> ?_)
 simp -implicitDefEqProofs only [go_sem,aJ,aR,ax];intro ip hip;have n1:idw≠ip:=fun e=>by have:=hw.1; rw [e,hip] at this; cases this
 have n2:mid≠ip:=fun e=>by have:=hw.2.1; rw [e,hip] at this; cases this
 have hwb:=hw.keep (Sub.ai (k:=some (.obj [.s id, .v (.bool set), .v (.int .i64 alg), .sl (tgt.map cG) .no, .sl (rules.map aA) .no, .sl (eS kids) .no, .sl (obls.map bk) .no] 34)) hip);have hk0:Keeps [idw,mid] h (upd h ip (some (.obj [.s id, .v (.bool set), .v (.int .i64 alg), .sl (tgt.map cG) .no, .sl (rules.map aA) .no, .sl (eS kids) .no, .sl (obls.map bk) .no] 34))):= .of (.ai hip);simp -implicitDefEqProofs only [go_sem];obtain ⟨hb,ehb⟩:∃hb,upd h ip (some (.obj [.s id, .v (.bool set), .v (.int .i64 alg), .sl (tgt.map cG) .no, .sl (rules.map aA) .no, .sl (eS kids) .no, .sl (obls.map bk) .no] 34))=hb:=⟨_,rfl⟩;have hbip:hb ip=some (.obj [.s id, .v (.bool set), .v (.int .i64 alg), .sl (tgt.map cG) .no, .sl (rules.map aA) .no, .sl (eS kids) .no, .sl (obls.map bk) .no] 34):=by rw [←ehb]; exact ah ..
 rw [ehb] at hwb hk0⊢;refine (Bc idw mid m id hb hwb).mono fun x h2 hx=> ?_
 cases hm:gY m id with
 |none=>
  rw [hm] at hx;obtain ⟨rfl,hs⟩:=hx;simp -implicitDefEqProofs only [go_sem];exact .same (.refl _) ⟨by rw [uH hm]; rfl,hk0.trans (.of hs),fun m' h' =>by rw [uH hm] at h'; cases h'⟩
 |some m1=>
  rw [hm] at hx;obtain ⟨rfl,hk,hw2⟩:=hx;have hip2:h2 ip=some (.obj [.s id, .v (.bool set), .v (.int .i64 alg), .sl (tgt.map cG) .no, .sl (rules.map aA) .no, .sl (eS kids) .no, .sl (obls.map bk) .no] 34):=hk ip _ (by simp [n1.symm,n2.symm]) hbip
  have hkk:=hk0.trans hk;have bad:∀e,dY m id set alg tgt rules.length kids.length obls= .bad e→(.v (.int .i64 e):AV)= .v (.int .i64 (dY m id set alg tgt rules.length kids.length obls).err)∧Keeps [idw,mid] h h2∧∀m',dY m id set alg tgt rules.length kids.length obls= .ok m'→fT h2 idw mid m' :=
   fun e he=>⟨by rw [he]; rfl,hkk,fun m' h' =>by rw [he] at h'; cases h'⟩
  cases d1:decide (alg<1)
  case true=>
   have e1:=Ui d1;simp -implicitDefEqProofs only [go_sem,d1,hip2];exact .same (.refl _) (bad 1 (by simp [dY,hm,e1]))
  cases d2:decide (6<alg)
  case true=>
   have e2:=Ui d2;simp -implicitDefEqProofs only [go_sem,d1,d2,hip2];exact .same (.refl _) (bad 1 (by simp [dY,hm,e2]))
  have e1:¬(alg<1∨alg>6):=by have:=Uj d1; have:=Uj d2; omega
  have tail:∀(z:Unit),¬(set=true∧rules.length>0∨set=false∧(kids.length>0∨alg=4))→dY m id set alg tgt rules.length kids.length obls=need (jN tgt) (need (gv obls) (if rules.length>16∨kids.length>16 then .bad 6 else .ok m1)):=fun _ hh=>by
   simp only [dY,hm];rw [if_neg e1,if_neg hh]
  cases set
  ·cases d4:decide (0<(kids.length:Int))
   case true=>
    have f4:0<kids.length:=by have:=Ui d4; omega
    simp -implicitDefEqProofs only [go_sem,d1,d2,hip2,aW,Ug,d4];exact .same (.refl _) (bad 1 (by simp [dY,hm,e1,f4]))
   have g4:¬0<kids.length:=by have:=Uj d4; omega
   cases d5:(alg==4)
   case true=>
    have f5:alg=4:=by simpa using d5
    simp -implicitDefEqProofs only [go_sem,d1,d2,hip2,aW,Ug,d4,d5];exact .same (.refl _) (bad 1 (by simp [dY,hm,f5]))
   have g5:alg≠4:=by simpa using d5
   simp -implicitDefEqProofs only [go_sem,d1,d2,hip2,aW,Ug,d4,d5];have e3:=tail () (by simp [g4,g5])
   refine (rT tgt _).pthen ?_;cases t1:(jN tgt !=0)
   case true=>
    have f1:jN tgt≠0:=by simpa using t1
    simp -implicitDefEqProofs only [go_sem,t1];exact .same (.refl _) (bad _ (by rw [e3]; simp [need,f1]))
   have f1:jN tgt=0:=by simpa using t1
   simp -implicitDefEqProofs only [go_sem,t1,hip2];refine (yI obls _).pthen ?_;cases t2:(gv obls !=0)
   case true=>
    have f2:gv obls≠0:=by simpa using t2
    simp -implicitDefEqProofs only [go_sem,t2];exact .same (.refl _) (bad _ (by rw [e3]; simp [need,f1,f2]))
   have f2:gv obls=0:=by simpa using t2
   cases t3:decide (16<(rules.length:Int))
   case true=>
    have f3:16<rules.length:=by have:=Ui t3; omega
    simp -implicitDefEqProofs only [go_sem,t2,hip2,Ug,t3];exact .same (.refl _) (bad _ (by rw [e3]; simp [need,f1,f2,f3]))
   have f3:¬16<rules.length:=by have:=Uj t3; omega
   cases t4:decide (16<(kids.length:Int))
   case true=>
    have f4:16<kids.length:=by have:=Ui t4; omega
    simp -implicitDefEqProofs only [go_sem,t2,hip2,Ug,t3,aW,t4];exact .same (.refl _) (bad _ (by rw [e3]; simp [need,f1,f2,f4]))
   have f4:¬16<kids.length:=by have:=Uj t4; omega
   simp -implicitDefEqProofs only [go_sem,t2,hip2,Ug,t3,aW,t4];have e4:dY m id false alg tgt rules.length kids.length obls= .ok m1:=by rw [e3]; simp [need,f1,f2,f3,f4]
   exact .same (.refl _) ⟨by rw [e4]; rfl,hkk,fun m' h' =>by rw [e4] at h'; cases h'; exact hw2⟩
  ·cases d3:decide (0<(rules.length:Int))
   case true=>
    have f3:0<rules.length:=by have:=Ui d3; omega
    simp -implicitDefEqProofs only [go_sem,d1,d2,hip2,Ug,d3];exact .same (.refl _) (bad 1 (by simp [dY,hm,e1,f3]))
   have g3:¬0<rules.length:=by have:=Uj d3; omega
   simp -implicitDefEqProofs only [go_sem,d1,d2,hip2,Ug,d3];have e3:=tail () (by simp [g3])
   refine (rT tgt _).pthen ?_;cases t1:(jN tgt !=0)
   case true=>
    have f1:jN tgt≠0:=by simpa using t1
    simp -implicitDefEqProofs only [go_sem,t1];exact .same (.refl _) (bad _ (by rw [e3]; simp [need,f1]))
   have f1:jN tgt=0:=by simpa using t1
   simp -implicitDefEqProofs only [go_sem,t1,hip2];refine (yI obls _).pthen ?_;cases t2:(gv obls !=0)
   case true=>
    have f2:gv obls≠0:=by simpa using t2
    simp -implicitDefEqProofs only [go_sem,t2];exact .same (.refl _) (bad _ (by rw [e3]; simp [need,f1,f2]))
   have f2:gv obls=0:=by simpa using t2
   cases t3:decide (16<(rules.length:Int))
   case true=>
    have f3:16<rules.length:=by have:=Ui t3; omega
    simp -implicitDefEqProofs only [go_sem,t2,hip2,Ug,t3];exact .same (.refl _) (bad _ (by rw [e3]; simp [need,f1,f2,f3]))
   have f3:¬16<rules.length:=by have:=Uj t3; omega
   cases t4:decide (16<(kids.length:Int))
   case true=>
    have f4:16<kids.length:=by have:=Ui t4; omega
    simp -implicitDefEqProofs only [go_sem,t2,hip2,Ug,t3,aW,t4];exact .same (.refl _) (bad _ (by rw [e3]; simp [need,f1,f2,f4]))
   have f4:¬16<kids.length:=by have:=Uj t4; omega
   simp -implicitDefEqProofs only [go_sem,t2,hip2,Ug,t3,aW,t4];have e4:dY m id true alg tgt rules.length kids.length obls= .ok m1:=by rw [e3]; simp [need,f1,f2,f3,f4]
   exact .same (.refl _) ⟨by rw [e4]; rfl,hkk,fun m' h' =>by rw [e4] at h'; cases h'; exact hw2⟩
theorem GP (k:bB):(aJ k).cells.length=7:=by
 cases k; simp [aJ,AV.cells]
theorem oF {m:dI} {d:Nat} {p:bB} (h:4<d):jn m d p= .bad 6:=by
 cases p; simp [jn,h]
theorem rN {m:dI} {d:Nat} {id:Txt} {set:Bool} {alg:Int} {tgt:fE} {rules:List cH} {kids:List bB} {obls:List cr} {e:Int} (h:¬4<d)
  (hh:dY m id set alg tgt rules.length kids.length obls= .bad e):jn m d (.mk id set alg tgt rules kids obls)= .bad e:=by
 simp [jn,h,hh]
theorem vq {m m1:dI} {d:Nat} {id:Txt} {set:Bool} {alg:Int} {tgt:fE} {rules:List cH} {kids:List bB} {obls:List cr} {e:Int} (h:¬4<d)
  (hh:dY m id set alg tgt rules.length kids.length obls= .ok m1) (hr:dU m1 rules= .bad e):jn m d (.mk id set alg tgt rules kids obls)= .bad e:=by
 simp [jn,h,hh,hr]
theorem xC {m m1 m2:dI} {d:Nat} {id:Txt} {set:Bool} {alg:Int} {tgt:fE} {rules:List cH} {kids:List bB} {obls:List cr} (h:¬4<d)
  (hh:dY m id set alg tgt rules.length kids.length obls= .ok m1) (hr:dU m1 rules= .ok m2):jn m d (.mk id set alg tgt rules kids obls)=gu m2 (d+1) kids:=by
 simp [jn,h,hh,hr]
theorem qM:∀(n d:Nat) (m:dI) (p:bB) (e:Int),d+n=5→jn m d p= .bad e→e≠0
 |0,d,m,p,e,hd,h=>by rw [oF (by omega)] at h; cases h; decide
 |n+1,d,m, .mk id set alg tgt rules kids obls,e,hd,h=>by
  by_cases h4:4<d
  ·rw [oF h4] at h; cases h; decide
  cases hh:dY m id set alg tgt rules.length kids.length obls with
  |bad e' =>rw [rN h4 hh] at h; cases h; exact xe hh
  |ok m1=>
   cases hr:dU m1 rules with
   |bad e' =>
    rw [vq h4 hh hr] at h; cases h
    clear hh hd
    induction rules generalizing m1 with
    |nil=>cases hr
    |cons r l ih=>
     simp only [dU] at hr;cases hx:fH m1 r with
     |bad x=>rw [hx] at hr; cases hr; exact xJ hx
     |ok m2=>rw [hx] at hr; exact ih m2 hr
   |ok m2=>
    rw [xC h4 hh hr] at h;have ih:=fun m p e=>qM n (d+1) m p e (by omega)
    clear hh hr
    induction kids generalizing m2 with
    |nil=>cases h
    |cons k l ihk=>
     simp only [gu] at h;cases hx:jn m2 (d+1) k with
     |bad x=>rw [hx] at h; cases h; exact ih _ _ _ hx
     |ok m3=>rw [hx] at h; exact ihk m3 h
theorem Db {e:Int} {w:Went} {m:dI} (h:need e w= .ok m):e=0∧w= .ok m:=by
 unfold need at h;split at h
 ·exact ⟨by assumption,h⟩
 ·cases h
theorem F5 {m m1:dI} {id:Txt} {set:Bool} {alg:Int} {tgt:fE} {nr nk:Nat} {obls:List cr} (h:dY m id set alg tgt nr nk obls= .ok m1):
  gY m id=some m1∧1≤alg∧alg≤6∧(set=true→nr=0)∧(set=false→nk=0∧alg≠4)∧jN tgt=0∧gv obls=0∧nr≤16∧nk≤16:=by
 unfold dY at h;split at h
 ·cases h
 rename_i m2 hm
 split at h
 ·cases h
 split at h
 ·cases h
 rename_i h1 h2
 obtain ⟨h3,h⟩:=Db h;obtain ⟨h4,h⟩:=Db h;split at h
 ·cases h
 cases h;have h5:(set=true→nr=0)∧(set=false→nk=0∧alg≠4):=by
  cases set<;>simp at h2⊢<;>omega
 exact ⟨hm,by omega,by omega,h5.1,h5.2,h3,h4,by omega,by omega⟩
theorem Dy:∀(n d:Nat),d+n=5→∀(idw mid:Nat) (m:dI) (p:bB) (h:Heap),fT h idw mid m→
  ak Tryz.prog 140 [.ptr idw 0,aJ p, .v (.int .i64 d)] h fun x h' =>x= .v (.int .i64 (jn m d p).err)∧Keeps [idw,mid] h h'∧∀m',jn m d p= .ok m'→fT h' idw mid m'
 |n,d,hd,idw,mid,m, .mk id set alg tgt rules kids obls,h,hw=>by
  refine ak.body hU hm Tryz.func140 rfl (by kernel_rfl) 52 rfl [.tmp 6] rfl (Uf rfl) (fun hwf=> ?_)
  simp only [go_sem,aJ,aR,ax];intro ip hip;have n1:idw≠ip:=fun e=>by have:=hw.1; rw [e,hip] at this; cases this
  have n2:mid≠ip:=fun e=>by have:=hw.2.1; rw [e,hip] at this; cases this
  have hwb:=hw.keep (Sub.ai (k:=some (.obj [.s id, .v (.bool set), .v (.int .i64 alg), .sl (tgt.map cG) .no, .sl (rules.map aA) .no, .sl (eS kids) .no, .sl (obls.map bk) .no] 34)) hip);have hk0:Keeps [idw,mid] h (upd h ip (some (.obj [.s id, .v (.bool set), .v (.int .i64 alg), .sl (tgt.map cG) .no, .sl (rules.map aA) .no, .sl (eS kids) .no, .sl (obls.map bk) .no] 34))):= .of (.ai hip);obtain ⟨hb,ehb⟩:∃hb,upd h ip (some (.obj [.s id, .v (.bool set), .v (.int .i64 alg), .sl (tgt.map cG) .no, .sl (rules.map aA) .no, .sl (eS kids) .no, .sl (obls.map bk) .no] 34))=hb:=⟨_,rfl⟩;have hbip:hb ip=some (.obj [.s id, .v (.bool set), .v (.int .i64 alg), .sl (tgt.map cG) .no, .sl (rules.map aA) .no, .sl (eS kids) .no, .sl (obls.map bk) .no] 34):=by rw [←ehb]; exact ah ..
  rw [ehb] at hwb hk0⊢;cases d0:decide (4<(d:Int))
  case true=>
   have e0:4<d:=by have:=Ui d0; omega
   simp only [go_sem,d0];exact .same (.refl _) ⟨by rw [oF e0]; rfl,hk0,fun m' h' =>by rw [oF e0] at h'; cases h'⟩
  have e0:¬4<d:=by have:=Uj d0; omega
  simp only [go_sem,d0,hbip];have hhead:=HL idw mid m id set alg tgt rules kids obls hb hwb;simp only [aJ,aR,ax] at hhead;refine hhead.mono fun x h2 ⟨ex,hk,hw2⟩=> ?_
  subst ex;have hk2:=hk0.trans hk;cases hh:dY m id set alg tgt rules.length kids.length obls with
  |bad e=>
   have hne:=xe hh;have t1:(e !=0)=true:=by simpa using hne
   simp only [go_sem,Went.err,t1];exact .same (.refl _) ⟨by rw [rN e0 hh]; rfl,hk2,fun m' h' =>by rw [rN e0 hh] at h'; cases h'⟩
  |ok m1=>
   have hw2:=hw2 _ hh;have hle:=(F5 hh).2.2.2.2.2.2.2;have hip2:=hk ip _ (by simp [n1.symm,n2.symm]) hbip
   simp only [go_sem,Went.err,hip2,Ug];refine .intro (fun k ρ h' =>∃(i:Nat) (mi:dI),i≤rules.length∧k=rules.length - i∧dU m1 (rules.take i)= .ok mi∧Keeps [idw,mid] h h'∧fT h' idw mid mi∧
    h' ip=some (.obj [.s id, .v (.bool set), .v (.int .i64 alg), .sl (tgt.map cG) .no, .sl (rules.map aA) .no, .sl (eS kids) .no, .sl (obls.map bk) .no] 34)∧
    lk ρ 0=some (.ptr idw 0)∧lk ρ 2=some (.v (.int .i64 d))∧lk ρ 4=some (.ptr ip 0)∧lk ρ 23=some (.sl (rules.map aA) .no)∧lk ρ 24=some (.v (.int .i64 rules.length))∧lk ρ 25=some (.v (.int .i64 i))) rules.length ?_ ?_
   ·refine ⟨0,m1,by omega,rfl,rfl,hk2,hw2,hip2, ?_, ?_, ?_, ?_, ?_, ?_⟩<;>simp only [go_sem]
   ·rintro k ρ h' ⟨i,mi,hi,rfl,hri,hki,hwi,hipi,r0,r2,r4,r23,r24,r25⟩
    simp only [go_sem,r24,r25];refine .intro (fun e=> ?_) (fun e=> ?_)
    ·have hlt:i<rules.length:=Un e
     have w1:=Um i (by omega)
     simp only [go_sem,r23,r25];refine .at i (by simpa using hlt) (by rw [Uh]; rfl) ?_
     simp only [go_sem,Uh,aA];intro ir hir;have hrl:=HN idw mid mi rules[i] _ (hwi.keep (Sub.ai (k:=some (.obj [.s rules[i].id, .v (.bool rules[i].deny),aR rules[i].tgt,eE rules[i].cond,ax rules[i].obls] 181)) hir));simp only [aA] at hrl;simp only [go_sem,r0];refine hrl.mono fun x h3 ⟨ex,hk3,hw3⟩=> ?_
     subst ex;have hk4:=(hki.trans (.of (Sub.ai hir))).trans hk3;have hip3:=hk3 ip _ (by simp [n1.symm,n2.symm]) ((Sub.ai hir) _ _ hipi)
     cases hx:fH mi rules[i] with
     |bad x=>
      have t1:(x !=0)=true:=by simpa using xJ hx
      simp only [go_sem,Went.err,t1];have hp:=vq (d:=d) (kids:=kids) e0 hh (AS hlt hri hx);exact .same (.refl _) ⟨by rw [hp]; rfl,hk4,fun m' h' =>by rw [hp] at h'; cases h'⟩
     |ok m3=>
      simp only [go_sem,r25,Went.err,w1];refine ⟨_, ?_,i+1,m3,by omega,rfl,by rw [sV hlt hri,hx],hk4,hw3 _ hx,hip3, ?_, ?_, ?_, ?_, ?_, ?_⟩
      ·omega
      all_goals simp only [go_sem,r0,r2,r4,r23,r24]
    ·have hge:i=rules.length:=by have:=Uj e; omega
     subst hge;rw [List.take_length] at hri;have hpk:=xC (d:=d) (kids:=kids) e0 hh hri;simp only [go_sem,r4,hipi,aW,Ug];refine .intro (fun k ρ h' =>∃(i:Nat) (mj:dI),i≤kids.length∧k=kids.length - i∧gu mi (d+1) (kids.take i)= .ok mj∧Keeps [idw,mid] h h'∧fT h' idw mid mj∧
      lk ρ 0=some (.ptr idw 0)∧lk ρ 2=some (.v (.int .i64 d))∧lk ρ 37=some (.sl (kids.map aJ) .no)∧lk ρ 38=some (.v (.int .i64 kids.length))∧lk ρ 39=some (.v (.int .i64 i))) kids.length ?_ ?_
     ·refine ⟨0,mi,by omega,rfl,rfl,hki,hwi, ?_, ?_, ?_, ?_, ?_⟩<;>simp only [go_sem,r0,r2]
     ·rintro k ρ h' ⟨i,mj,hi,rfl,hkj,hki,hwi,r0,r2,r37,r38,r39⟩
      simp only [go_sem,r38,r39];refine .intro (fun e=> ?_) (fun e=> ?_)
      ·have hlt:i<kids.length:=Un e
       have w1:=Um i (by omega)
       have w2:=Um d (by omega)
       obtain ⟨n',rfl⟩:∃n',n=n' +1:=⟨n - 1,by omega⟩
       have hrec:=Dy n' (d+1) (by omega) idw mid mj kids[i]
       cases hki' :kids[i] with
       |mk kid kset kalg ktgt krules kkids kobls=>
       rw [hki'] at hrec;simp only [aJ,aR,ax] at hrec;simp only [go_sem,r37,r39];refine .at i (by simpa using hlt) (by rw [Uh]; exact GP _) ?_
       simp only [go_sem,Uh,hki',aJ,aR,ax];intro ir hir;simp only [go_sem,r0,r2,w2];refine (hrec _ (hwi.keep (Sub.ai hir))).mono fun x h3 ⟨ex,hk3,hw3⟩=> ?_
       subst ex;have hk4:=(hki.trans (.of (Sub.ai hir))).trans hk3;cases hx:jn mj (d+1) (.mk kid kset kalg ktgt krules kkids kobls) with
       |bad x=>
        have t1:(x !=0)=true:=by simpa using qM n' (d+1) _ _ _ (by omega) hx
        simp only [go_sem,Went.err,t1];have hp:=BZ hlt hkj (by rw [hki']; exact hx)
        exact .same (.refl _) ⟨by rw [hpk,hp]; rfl,hk4,fun m' h' =>by rw [hpk,hp] at h'; cases h'⟩
       |ok m3=>
        simp only [go_sem,r39,Went.err,w1];refine ⟨_, ?_,i+1,m3,by omega,rfl,by rw [uQ hlt hkj,hki',hx],hk4,hw3 _ hx, ?_, ?_, ?_, ?_, ?_⟩
        ·omega
        all_goals simp only [go_sem,r0,r2,r37,r38]
      ·have hge:i=kids.length:=by have:=Uj e; omega
       subst hge;rw [List.take_length] at hkj;simp only [go_sem];exact .same (.refl _) ⟨by rw [hpk,hkj]; rfl,hki,fun m' h' =>by rw [hpk,hkj] at h'; cases h'; exact hwi⟩
theorem B5 {h:Heap} {i j:Nat} {b:Blk} (e:upd h i (some b) j=none):j≠i:=fun hh=>by
 subst hh; rw [ah] at e; cases e
theorem qQ (p:bB) (h:Heap):ak Tryz.prog 95 [aJ p] h fun r h' =>r= .v (.int .i64 (fK p))∧h' =h:=by
 cases p with
 |mk id set alg tgt rules kids obls=>
 refine ak.body hU hm Tryz.func95 rfl (by kernel_rfl) 10 rfl [.tmp 2] rfl (Uf rfl) (fun hwf=> ?_)
 simp only [go_sem,aJ,aR,ax];intro ip hip;simp only [go_sem];intro im him;simp only [go_sem];intro iw hiw;have n1:=B5 him;have n2:=B5 hiw;have hiw1:=hiw;rw [ag _ _ n2] at hiw1;have n3:=B5 hiw1;have s1:Ab.Sub h (upd (upd (upd h ip (some (.obj [.s id, .v (.bool set), .v (.int .i64 alg), .sl (tgt.map cG) .no, .sl (rules.map aA) .no, .sl (eS kids) .no, .sl (obls.map bk) .no] 34))) im (some (.mp []))) iw (some (.obj [.mp im, .v (.int .i64 0)] 208))):=
  ((Sub.ai hip).trans (.ai him)).trans (.ai hiw)
 obtain ⟨h3,e3⟩:∃h3,upd (upd (upd h ip (some (.obj [.s id, .v (.bool set), .v (.int .i64 alg), .sl (tgt.map cG) .no, .sl (rules.map aA) .no, .sl (eS kids) .no, .sl (obls.map bk) .no] 34))) im (some (.mp []))) iw (some (.obj [.mp im, .v (.int .i64 0)] 208))=h3:=⟨_,rfl⟩;have g1:h3 ip=some (.obj [.s id, .v (.bool set), .v (.int .i64 alg), .sl (tgt.map cG) .no, .sl (rules.map aA) .no, .sl (eS kids) .no, .sl (obls.map bk) .no] 34):=by
  rw [←e3,ag _ _ n3.symm,ag _ _ n1.symm,ah]
 have g2:fT h3 iw im ⟨[],0⟩:=by
  refine ⟨by rw [←e3,ah]; rfl,by rw [←e3,ag _ _ n2.symm,ah]; rfl,fun l hl=>(by cases hl),by decide⟩
 have hi0:h im=none:=by rw [ag _ _ n1] at him; exact him
 have hw0:h iw=none:=by rw [ag _ _ n3] at hiw1; exact hiw1
 simp only [go_sem];rw [e3] at s1⊢;simp only [go_sem,g1];have hp:=Dy 4 1 rfl iw im ⟨[],0⟩ (.mk id set alg tgt rules kids obls) h3 g2;simp only [aJ,aR,ax,Int.cast_ofNat_Int] at hp;refine hp.mono fun x h4 ⟨ex,hk,_⟩=> ?_
 subst ex;simp only [go_sem];refine .mk _ (.refl _) (fun j k hj=> ?_) ⟨rfl,rfl⟩
 refine hk j k ?_ (s1 _ _ hj);simp only [List.mem_cons,List.not_mem_nil,or_false,not_or];exact ⟨fun e=>(by rw [e,hw0] at hj; cases hj),fun e=>(by rw [e,hi0] at hj; cases hj)⟩
def iQ (x:bB×Int×Int):AV:= .tup [aJ x.1, .v (.int .i64 x.2.1), .v (.int .i64 x.2.2)]
theorem iC (a b c:AV) (h:Weak a b) (d:AV):Weak (.tup [a,c,d]) (.tup [b,c,d]):= .tup _ _ rfl fun i h1 h2=>by
 rcases i with _|_|_|i
 ·exact h
 ·exact .refl _
 ·exact .refl _
 ·simp at h1; omega
set_option maxRecDepth 20000 in
theorem vl (s:Txt) (h:Heap) (he:tq h):ak Tryz.prog 53 [.s s] h fun r h' =>r=iQ (aN s)∧h' =h:=by
 refine ak.body hU hm Tryz.func53 rfl (by kernel_rfl) 61 rfl [.cell 2 34, .tmp 3, .tmp 4] rfl (Uf rfl) (fun hwf=> ?_)
 simp only [go_sem];intro i2 hi2;simp only [go_sem];refine (Bj s _ (he.sub (.ai hi2))).pthen ?_;cases el:pH s with
 |bad e a=>
  have e1:=uW el;have d1:(e !=0)=true:=by
   have:e≠0:=by rcases e1.1 with h|h<;>rw [h]<;>decide
   simpa using this
  have efin:aN s=(lV,e,a):=by simp only [aN,el]
  simp only [go_sem,IS,d1];rw [efin];exact .mk (h' :=h) (iQ (lV,e,a)) (iC _ _ _ (fD _) _) (.ai hi2) ⟨rfl,rfl⟩
 |ok ts=>
  have efin:aN s=vj s ts:=by simp only [aN,el]
  have hw:=Fc el 0 0 0;have hpol:=AE 3 1 rfl ⟨ts,0,0,0,0⟩ hw (Nat.zero_le _);have hap:=tZ 4 ⟨ts,0,0,0,0⟩ hw;obtain ⟨⟨⟨pid,pset,palg,ptgt,prules,pkids,pobls⟩,st1⟩,ep⟩:∃x,fO 4 ⟨ts,0,0,0,0⟩=x:=⟨_,rfl⟩;rw [show 3+1=4 from rfl,ep] at hpol
  rw [ep] at hap;simp only [aJ] at hpol hap;simp only [vj,ep] at efin;simp only [go_sem,IS];intro i8 hi8;have n8:=aH hi8;have m82:¬i8=i2:=n8;have m28:¬i2=i8:=fun e=>n8 e.symm
  have hh8:h i8=none:=by rw [ag _ _ n8] at hi8; exact hi8
  simp only [go_sem];refine hpol.go (ah ..) ?_;rw [mJ];simp only [go_sem];intro i9 hi9;have n9:=aH hi9;have hi9' :=hi9;rw [ag _ _ n9] at hi9';have n92:=aH hi9';have m92:¬i9=i2:=n92;have m29:¬i2=i9:=fun e=>n92 e.symm
  have m98:¬i9=i8:=n9;have m89:¬i8=i9:=fun e=>n9 e.symm
  have hh9:h i9=none:=by rw [ag _ _ n92] at hi9'; exact hi9'
  have c9:∀(f:Heap) (x y:Option Blk),upd (upd f i8 x) i9 y=upd (upd f i9 y) i8 x:=fun f x y=>cj f x y n9.symm
  simp only [go_sem,c9,aj,m98];refine (jZ st1 hap.1).run ?_;have subs:∀x y z,Sub h (upd (upd (upd h i2 x) i9 y) i8 z):=fun x y z=>((Sub.ai hi2).put hh9 _).put hh8 _
  cases d1:((aI st1).kind !=7)
  ·have k1:(aI st1).kind=7:=by simpa using d1
   have e2:(if (aI st1).kind=7 then st1 else aZ st1)=st1:=if_pos k1
   simp only [go_sem,eY,d1];cases db:((st1).bad==0)
   ·have eb:(st1).bad≠0:=by simpa using db
    simp only [go_sem,PO,db];have eend:mU s (.mk pid pset palg ptgt prules pkids pobls,st1)=st1:=by
     unfold mU; simp only [e2]; rw [if_neg (fun h=>eb h.1)]
    have hbb:(st1).bad≠0:=eb;have dn:((st1).bad !=0)=true:=by simpa using hbb
    simp only [go_sem,dn];refine .calls (hm1 i8 (PO (st1))) [0,1,2,3,4,5,6,7,8,9,10,11] (.hm1 (ah ..)) (by kernel_rfl) rfl ?_
    simp only [go_sem,aj,m28,m29,PO,fz];refine ⟨.hm1 ((ag _ _ n8).trans (ah ..)), ?_⟩;have efin2:aN s=(lV,(st1).bad,(st1).place):=by rw [efin,if_neg (by rw [eend]; exact hbb),eend]
    rw [efin2];exact .mk (h' :=h) (iQ (lV,(st1).bad,(st1).place)) (iC _ _ _ (fD _) _) (Sub.put (subs _ _ _) hi2 _) ⟨rfl,rfl⟩
   ·have eb:(st1).bad=0:=by simpa using db
    simp only [go_sem,aj,m98,PO,db];refine (qQ (.mk pid pset palg ptgt prules pkids pobls) _).pthen ?_;cases dr:(fK (.mk pid pset palg ptgt prules pkids pobls) !=0)
    ·have er:fK (.mk pid pset palg ptgt prules pkids pobls)=0:=by simpa using dr
     have dn:((st1).bad !=0)=false:=by simpa using eb
     simp only [go_sem,aj,m28,m29,m98,dr,dn];have eend:mU s (.mk pid pset palg ptgt prules pkids pobls,st1)=st1:=by
      unfold mU; simp only [e2]; rw [if_neg (fun h=>h.2 er)]
     have efin2:aN s=(.mk pid pset palg ptgt prules pkids pobls,0,0):=by rw [efin,if_pos (by rw [eend]; exact eb)]
     rw [efin2];exact .mk (h' :=h) (iQ (.mk pid pset palg ptgt prules pkids pobls,0,0)) (iC _ _ _ (fD _) _) (Sub.put (subs _ _ _) hi2 _) ⟨rfl,rfl⟩
    ·have er:fK (.mk pid pset palg ptgt prules pkids pobls)≠0:=by simpa using dr
     simp only [go_sem,dr];refine (ov (st1) 5 s.length).run ?_;have eend:mU s (.mk pid pset palg ptgt prules pkids pobls,st1)=bt (st1) 5 s.length:=by
      unfold mU; simp only [e2]; rw [if_pos ⟨eb,er⟩]
     have hwb:bt (st1) 5 s.length= {(st1) with bad:=5,place:=s.length}:=by rw [bt,if_pos eb]
     have hbb:(bt (st1) 5 s.length).bad≠0:=by rw [hwb]; show (5:Int)≠0; decide
     have dn:((bt (st1) 5 s.length).bad !=0)=true:=by simpa using hbb
     simp only [go_sem,PO,dn];refine .calls (hm1 i8 (PO (bt (st1) 5 s.length))) [0,1,2,3,4,5,6,7,8,9,10,11] (.hm1 (ah ..)) (by kernel_rfl) rfl ?_
     simp only [go_sem,aj,m28,m29,PO,fz];refine ⟨.hm1 ((ag _ _ n8).trans (ah ..)), ?_⟩;have efin2:aN s=(lV,(bt (st1) 5 s.length).bad,(bt (st1) 5 s.length).place):=by rw [efin,if_neg (by rw [eend]; exact hbb),eend]
     rw [efin2];exact .mk (h' :=h) (iQ (lV,(bt (st1) 5 s.length).bad,(bt (st1) 5 s.length).place)) (iC _ _ _ (fD _) _) (Sub.put (subs _ _ _) hi2 _) ⟨rfl,rfl⟩
  ·have k1:(aI st1).kind≠7:=by simpa using d1
   have e2:(if (aI st1).kind=7 then st1 else aZ st1)=aZ st1:=if_neg k1
   simp only [go_sem,eY,d1];refine (jM st1 hap.1).run ?_;simp only [go_sem];cases db:((aZ st1).bad==0)
   ·have eb:(aZ st1).bad≠0:=by simpa using db
    simp only [go_sem,PO,db];have eend:mU s (.mk pid pset palg ptgt prules pkids pobls,st1)=aZ st1:=by
     unfold mU; simp only [e2]; rw [if_neg (fun h=>eb h.1)]
    have hbb:(aZ st1).bad≠0:=eb;have dn:((aZ st1).bad !=0)=true:=by simpa using hbb
    simp only [go_sem,dn];refine .calls (hm1 i8 (PO (aZ st1))) [0,1,2,3,4,5,6,7,8,9,10,11] (.hm1 (ah ..)) (by kernel_rfl) rfl ?_
    simp only [go_sem,aj,m28,m29,PO,fz];refine ⟨.hm1 ((ag _ _ n8).trans (ah ..)), ?_⟩;have efin2:aN s=(lV,(aZ st1).bad,(aZ st1).place):=by rw [efin,if_neg (by rw [eend]; exact hbb),eend]
    rw [efin2];exact .mk (h' :=h) (iQ (lV,(aZ st1).bad,(aZ st1).place)) (iC _ _ _ (fD _) _) (Sub.put (subs _ _ _) hi2 _) ⟨rfl,rfl⟩
   ·have eb:(aZ st1).bad=0:=by simpa using db
    simp only [go_sem,aj,m98,PO,db];refine (qQ (.mk pid pset palg ptgt prules pkids pobls) _).pthen ?_;cases dr:(fK (.mk pid pset palg ptgt prules pkids pobls) !=0)
    ·have er:fK (.mk pid pset palg ptgt prules pkids pobls)=0:=by simpa using dr
     have dn:((aZ st1).bad !=0)=false:=by simpa using eb
     simp only [go_sem,aj,m28,m29,m98,dr,dn];have eend:mU s (.mk pid pset palg ptgt prules pkids pobls,st1)=aZ st1:=by
      unfold mU; simp only [e2]; rw [if_neg (fun h=>h.2 er)]
     have efin2:aN s=(.mk pid pset palg ptgt prules pkids pobls,0,0):=by rw [efin,if_pos (by rw [eend]; exact eb)]
     rw [efin2];exact .mk (h' :=h) (iQ (.mk pid pset palg ptgt prules pkids pobls,0,0)) (iC _ _ _ (fD _) _) (Sub.put (subs _ _ _) hi2 _) ⟨rfl,rfl⟩
    ·have er:fK (.mk pid pset palg ptgt prules pkids pobls)≠0:=by simpa using dr
     simp only [go_sem,dr];refine (ov (aZ st1) 5 s.length).run ?_;have eend:mU s (.mk pid pset palg ptgt prules pkids pobls,st1)=bt (aZ st1) 5 s.length:=by
      unfold mU; simp only [e2]; rw [if_pos ⟨eb,er⟩]
     have hwb:bt (aZ st1) 5 s.length= {(aZ st1) with bad:=5,place:=s.length}:=by rw [bt,if_pos eb]
     have hbb:(bt (aZ st1) 5 s.length).bad≠0:=by rw [hwb]; show (5:Int)≠0; decide
     have dn:((bt (aZ st1) 5 s.length).bad !=0)=true:=by simpa using hbb
     simp only [go_sem,PO,dn];refine .calls (hm1 i8 (PO (bt (aZ st1) 5 s.length))) [0,1,2,3,4,5,6,7,8,9,10,11] (.hm1 (ah ..)) (by kernel_rfl) rfl ?_
     simp only [go_sem,aj,m28,m29,PO,fz];refine ⟨.hm1 ((ag _ _ n8).trans (ah ..)), ?_⟩;have efin2:aN s=(lV,(bt (aZ st1) 5 s.length).bad,(bt (aZ st1) 5 s.length).place):=by rw [efin,if_neg (by rw [eend]; exact hbb),eend]
     rw [efin2];exact .mk (h' :=h) (iQ (lV,(bt (aZ st1) 5 s.length).bad,(bt (aZ st1) 5 s.length).place)) (iC _ _ _ (fD _) _) (Sub.put (subs _ _ _) hi2 _) ⟨rfl,rfl⟩
end Go.Proofs.YtmlhcdeamjkpjaaGreatDoor
namespace Go.Ab
open Go
theorem OwE.keepb {tb:TypeId} {h0 h h' :Heap} {sz:Nat} {y:AV} {xs:List AV} (hw:OwE tb h0 h sz y xs) (hk:∀id,h0 id=Option.none→h id≠Option.none→h' id=h id):OwE tb h0 h' sz y xs:=
 hw.keep fun id e=>hk id (hw.nid e).1 (hw.nid e).2.1
end Go.Ab
namespace Go.Proofs.YtmlhcdeamjkpjaaGreatDoor
open Go Go.Ab Go.Bf
theorem eC.keepb {h0 h h' :Heap} {ys:List AV} {x:AV} {c:aK} (hm:eC h0 h ys x c) (hk:∀id,h0 id=none→h id≠none→h' id=h id):eC h0 h' ys x c:=by
 obtain ⟨f,l,e,a,b,c,d⟩:=hm;exact ⟨f,l,e,a.keepb hk,b.keepb hk,c,d⟩
theorem jW.keepb {h0 h h' :Heap} {ys:List AV} {y:AV} {cs:List aK} {i0:Nat} (ho:jW h0 h ys y cs i0) (hk:∀id,h0 id=none→h id≠none→h' id=h id):jW h0 h' ys y cs i0:=by
 obtain ⟨xs,a,b,c,d⟩:=ho;exact ⟨xs,a.keepb hk,b,c,fun h1 h2=>(d h1 h2).keepb hk⟩
theorem pT.keepb {h0 h h' :Heap} {x:AV} {s:an} {i0:Nat} (ho:pT h0 h x s i0) (hk:∀id,h0 id=none→h id≠none→h' id=h id):pT h0 h' x s i0:=by
 obtain ⟨y1,y2,y3,y4,e,a,b,c,d,r⟩:=ho;exact ⟨y1,y2,y3,y4,e,a.keepb hk,b.keepb hk,c.keepb hk,d.keepb hk,r⟩
theorem jW.keepx {h0 h h' :Heap} {ys:List AV} {y z:AV} {cs:List aK} {i0:Nat} (ho:jW h0 h ys y cs i0) (hz:z∈ys) (hy:apart y z) (hk:∀id,h0 id=none→h id≠none→nid z≠some id→h' id=h id):jW h0 h' ys y cs i0:=by
 obtain ⟨xs,a,b,c,d⟩:=ho;refine ⟨xs,a.keep fun id e=>hk id (a.nid e).1 (a.nid e).2.1 (hy id e),b,c,fun h1 h2=> ?_⟩
 obtain ⟨f,l,e,of,ol,hap,hys⟩:=d h1 h2;exact ⟨f,l,e,of.keep fun id e=>hk id (of.nid e).1 (of.nid e).2.1 ((hys z hz).1 id e),ol.keep fun id e=>hk id (ol.nid e).1 (ol.nid e).2.1 ((hys z hz).2 id e),hap,hys⟩
theorem eC.frz {g h0 h:Heap} {ys:List AV} {x:AV} {c:aK} (hm:eC h0 h ys x c) (hg:Ab.Sub g h0):Frz g h x (bM c):=by
 obtain ⟨f,l,rfl,a,b,_⟩:=hm;refine .agg _ _ rfl fun j h1 h2=> ?_
 rcases j with _|_|_|_|_|j
 ·exact .pure rfl
 ·exact .pure rfl
 ·exact .pure rfl
 ·exact (a.less hg).frz (bg (fun _=>rfl) _)
 ·exact (b.less hg).frz (bg (fun _=>rfl) _)
 ·simp at h1; omega
theorem D7 {g h0 h:Heap} {y:AV} {xs:List AV} {cs:List aK} (hw:OwE 57 h0 h 5 y xs) (hg:Ab.Sub g h0) (hn:xs.length=cs.length) (hx:∀j (h1:j<xs.length) (h2:j<cs.length),Frz g h xs[j] (bM cs[j])):Frz g h y (je cs):=by
 rcases hw with ⟨rfl,rfl⟩|⟨id,h1,hw⟩
 ·have:cs= []:=List.length_eq_zero_iff.1 hn.symm
  subst this;exact .sl [] [] .full rfl (fun i h1=>by cases h1) (fun i h1=>by cases h1)
 ·have hsz:∀i (h1:i<xs.length),xs[i].cells.length=5:=fun i h1=>hw.rd.1 _ (Ul h1)
  refine hw.frz (hg.none h1) (by simpa using hn) (fun i h1 h2=>by rw [hsz i h1,Uh]; rfl) fun i h1 h2 j h3 h4=> ?_
  have h2' :i<cs.length:=by simpa using h2
  have hf:=hx i h1 h2';have key:∀x y:AV,Frz g h x y→bp y=true→ct y=true→∀j (h3:j<x.cells.length) (h4:j<y.cells.length),Frz g h x.cells[j] y.cells[j]:=by
   intro x y hf ha hp j h3 h4;cases hf with
   |keep x hx=>exact .pure (kY hp _ (Ul h4))
   |agg xs ys hn hr=>exact hr j h3 h4
   |_=>cases ha
  have e:(cs.map bM)[i]'h2=bM cs[i]:=Uh ..;simp only [e] at h4⊢;exact key _ _ hf rfl (by simp only [bM,ko,ct,gh,fy,oQ,Bool.and_true,Bool.true_and,Bool.and_eq_true]; exact ⟨bg (fun _=>rfl) _,bg (fun _=>rfl) _⟩) j h3 h4
theorem jW.frz {g h0 h:Heap} {ys:List AV} {y:AV} {cs:List aK} {i0:Nat} (ho:jW h0 h ys y cs i0) (hg:Ab.Sub g h0):Frz g h y (je cs):=by
 obtain ⟨xs,a,b,c,d⟩:=ho;refine D7 a hg b fun j h1 h2=> ?_
 by_cases e:j=i0
 ·subst e; exact (d h1 h2).frz hg
 ·rw [c j h1 h2 e]; exact zK _
theorem GQ {g h:Heap} (p:bB):∀x∈fl p,Frz g h x x:=fun x hx=>by
 refine .pure (kY (x:=aJ p) (AG p) x ?_);rw [I1];exact hx
theorem zL {g h:Heap} {xs:List AV} (hx:∀x∈xs,Frz g h x x):∀i (h1:i<xs.length) (h2:i<xs.length),Frz g h xs[i] xs[i]:=fun i h1 _=>hx _ (Ul h1)
theorem CY {g h:Heap} {ps bs cs ds:List AV} (n1:ps.length=bs.length) (n2:cs.length=ds.length) (h1:∀i (a:i<ps.length) (b:i<bs.length),Frz g h ps[i] bs[i]) (h2:∀i (a:i<cs.length) (b:i<ds.length),Frz g h cs[i] ds[i]):
  ∀i (a:i<(ps++cs).length) (b:i<(bs++ds).length),Frz g h (ps++cs)[i] (bs++ds)[i]:=fun i a b=>by
 by_cases e:i<ps.length
 ·rw [List.getElem_append_left e,List.getElem_append_left (by omega)]; exact h1 i e (by omega)
 ·rw [List.getElem_append_right (by omega),List.getElem_append_right (by omega)]
  simp only [Uk] at a b;have:=h2 (i - ps.length) (by omega) (by omega)
  simp only [n1] at this⊢;exact this
theorem rz {g h:Heap} {s:an} {y1 y2 y3 y4:AV} (a:Frz g h y1 (je s.cases)) (b:Frz g h y2 (qP s.reviews)) (c:Frz g h y3 (sO s.notices)) (d:Frz g h y4 (di s.roles)):
  Frz g h (.agg ([.v (.int .i64 s.tick),y1,y2,y3,y4]++fl s.policy++ [.v (.int .i64 s.version)])) (dj s):=by
 refine .agg _ _ (by simp) (CY (by simp) rfl (CY rfl rfl (fun i h1 h2=> ?_) (zL (GQ _))) (zL fun x hx=>by rw [List.mem_singleton.1 hx]; exact .pure rfl))
 rcases i with _|_|_|_|_|i
 ·exact .pure rfl
 ·exact a
 ·exact b
 ·exact c
 ·exact d
 ·simp at h1; omega
theorem jW.rd {h0 h:Heap} {ys:List AV} {y:AV} {cs:List aK} {i0:Nat} (ho:jW h0 h ys y cs i0):vV h y cs:=by
 obtain ⟨xs,a,b,c,d⟩:=ho;refine ⟨xs,a.rd,b,fun j h1 h2=> ?_⟩
 by_cases e:j=i0
 ·subst e
  obtain ⟨f,l,e,a,b,_⟩:=d h1 h2;exact ⟨f,l,e,a.rd,b.rd⟩
 ·rw [c j h1 h2 e]; exact rdC _ _
theorem pT.rd {h0 h:Heap} {x:AV} {s:an} {i0:Nat} (ho:pT h0 h x s i0):RdS h x s:=by
 obtain ⟨y1,y2,y3,y4,rfl,a,b,c,d,r⟩:=ho;exact ⟨y1,y2,y3,y4,rfl,a.rd,b.rd,c.rd,d.rd⟩
end Go.Proofs.YtmlhcdeamjkpjaaGreatDoor
namespace Go.Ab
open Go
theorem OwE.bC {tb:TypeId} {h0 h1 h:Heap} {sz:Nat} {y:AV} {xs:List AV} (hw:OwE tb h1 h sz y xs) (hs:∀i,h1 i=Option.none→h0 i=Option.none):OwE tb h0 h sz y xs:=by
 rcases hw with hw|⟨id,e,hw⟩
 ·exact .inl hw
 ·exact .inr ⟨id,hs _ e,hw⟩
end Go.Ab
namespace Go.Proofs.YtmlhcdeamjkpjaaGreatDoor
open Go Go.Ab Go.Bf
theorem eC.bC {g h0 h:Heap} {ys:List AV} {x:AV} {c:aK} (hm:eC h0 h ys x c) (hg:∀i,h0 i=none→g i=none):eC g h ys x c:=by
 obtain ⟨f,l,e,a,b,c⟩:=hm;exact ⟨f,l,e,a.bC hg,b.bC hg,c⟩
theorem jW.bC {g h0 h:Heap} {ys:List AV} {y:AV} {cs:List aK} {i0:Nat} (ho:jW h0 h ys y cs i0) (hg:∀i,h0 i=none→g i=none):jW g h ys y cs i0:=by
 obtain ⟨xs,a,b,c,d⟩:=ho;exact ⟨xs,a.bC hg,b,c,fun h1 h2=>(d h1 h2).bC hg⟩
theorem pT.bC {g h0 h:Heap} {x:AV} {s:an} {i0:Nat} (ho:pT h0 h x s i0) (hg:∀i,h0 i=none→g i=none):pT g h x s i0:=by
 obtain ⟨y1,y2,y3,y4,e,a,b,c,d,r⟩:=ho;exact ⟨y1,y2,y3,y4,e,a.bC hg,b.bC hg,c.bC hg,d.bC hg,r⟩
theorem mu {g K:Heap} {S:an} {j:Nat} {y1 y2 y3 y4:AV} {tk ver palg:Int} {pid:Txt} {pset:Bool} {ptgt:fE} {prules:List cH} {pkids:List bB} {pobls:List cr} (h1:S.tick=tk) (h2:S.policy= .mk pid pset palg ptgt prules pkids pobls) (h3:S.version=ver)
  (a:jW g K [y1,y2,y3,y4] y1 S.cases j) (b:OwE 82 g K 7 y2 (S.reviews.map fP)) (c:OwE 98 g K 3 y3 (S.notices.map kM)) (d:OwE 71 g K 2 y4 (S.roles.map dD)) (ap:apart y1 y2∧apart y1 y3∧apart y1 y4∧apart y2 y3∧apart y2 y4∧apart y3 y4):
  pT g K (.agg [.v (.int .i64 tk),y1,y2,y3,y4, .s pid, .v (.bool pset), .v (.int .i64 palg),aR ptgt, .sl (prules.map aA) .no, .sl (pkids.map aJ) .no,ax pobls, .v (.int .i64 ver)]) S j:=by
 refine ⟨y1,y2,y3,y4, ?_,a,b,c,d,ap⟩;rw [h1,h2,h3,show fl (.mk pid pset palg ptgt prules pkids pobls)= [.s pid, .v (.bool pset), .v (.int .i64 palg),aR ptgt, .sl (prules.map aA) .no, .sl (pkids.map aJ) .no,ax pobls] by simp [fl,aW]]
 rfl
theorem jW.move {h0 h h' :Heap} {ys ys' :List AV} {y z:AV} {cs:List aK} {i0:Nat} (ho:jW h0 h ys y cs i0) (hz:z∈ys) (hy:apart y z) (hk:∀id,h0 id=none→h id≠none→nid z≠some id→h' id=h id)
  (hr:∀y'∈ys',∀k,nid y' =some k→h k=none∨∃w∈ys,nid w=some k):jW h0 h' ys' y cs i0:=by
 obtain ⟨xs,a,b,c,d⟩:=ho;refine ⟨xs,a.keep fun id e=>hk id (a.nid e).1 (a.nid e).2.1 (hy id e),b,c,fun h1 h2=> ?_⟩
 obtain ⟨f,l,e,of,ol,hap,hys⟩:=d h1 h2;refine ⟨f,l,e,of.keep fun id e=>hk id (of.nid e).1 (of.nid e).2.1 ((hys z hz).1 id e),ol.keep fun id e=>hk id (ol.nid e).1 (ol.nid e).2.1 ((hys z hz).2 id e),hap,fun w hw=>⟨fun k e1 e2=> ?_,fun k e1 e2=> ?_⟩⟩
 ·rcases hr w hw k e2 with hn|⟨v,hv,e3⟩
  ·exact (of.nid e1).2.1 hn
  ·exact (hys v hv).1 k e1 e3
 ·rcases hr w hw k e2 with hn|⟨v,hv,e3⟩
  ·exact (ol.nid e1).2.1 hn
  ·exact (hys v hv).2 k e1 e3
theorem I0 {g K:Heap} {r X:AV} {A B:List aK} {C:aK} {ys:List AV} {j:Nat} (hj:A.length=j) (hw:OwE 57 g K 5 r (A.map bM++([X]++B.map bM))) (hX:eC g K ys X C):jW g K ys r (A++ [C]++B) j:=by
 subst hj;refine ⟨_,hw,by simp,fun k h1 h2 hk=> ?_,fun h1 h2=> ?_⟩
 ·by_cases hlt:k<A.length
  ·rw [List.getElem_append_left (by simpa using hlt),Uh]
   congr 1
   rw [List.getElem_append_left (by simp; omega),List.getElem_append_left hlt]
  ·have e1:(A.map bM++([X]++B.map bM))[k]? =(B[k - A.length - 1]?).map bM:=by
    rw [List.getElem?_append_right (by simp; omega),List.getElem?_append_right (by simp; omega)]
    simp
   have e2:(A++ [C]++B)[k]? =B[k - A.length - 1]? :=by
    rw [List.append_assoc,List.getElem?_append_right (by omega),List.getElem?_append_right (by simp; omega)]
    simp
   rw [←e2,List.getElem?_eq_getElem h2,List.getElem?_eq_getElem h1] at e1;exact Option.some.inj e1
 ·have e1:(A.map bM++([X]++B.map bM))[A.length]'h1=X:=by
   rw [List.getElem_append_right (by simp)]; simp
  have e2:(A++ [C]++B)[A.length]'h2=C:=by
   rw [List.getElem_append_left (by simp),List.getElem_append_right (by simp)]; simp
  rw [e1,e2];exact hX
theorem yK {g K:Heap} {z:AV} {xs:List AV} {cs:List aK} {j:Nat} {X:AV} {F:aK→aK} {ys:List AV} (hw:OwE 57 g K 5 z (xs.set j X)) (hn:xs.length=cs.length) (hlo:∀k (h1:k<xs.length) (h2:k<cs.length),k≠j→xs[k]=bM cs[k]) (hX:∀h:j<cs.length,eC g K ys X (F cs[j])):jW g K ys z (cs.modify j F) j:=by
 refine ⟨_,hw,by simpa using hn,fun k h1 h2 e=> ?_,fun h1 h2=> ?_⟩
 ·rw [List.getElem_set_ne (Ne.symm e),List.getElem_modify,if_neg (Ne.symm e),hlo k (by simpa using h1) (by simpa using h2) e]
 ·rw [List.getElem_set_self,List.getElem_modify_eq]
  exact hX _
theorem qn {xs:List AV} {j:Nat} (hj:j<xs.length) (x:AV):aq (xs.set j x)=aq (xs.take j)++(x.cells++aq (xs.drop (j+1))):=by
 rw [List.set_eq_take_append_cons_drop,if_pos hj,j3];simp [aq]
theorem yw {xs:List AV} {j:Nat} (hj:j<xs.length):aq xs=aq (xs.take j)++(xs[j].cells++aq (xs.drop (j+1))):=by
 rw [←qn hj xs[j],List.set_getElem_self]
theorem vw {s:an} {o:OpD} (h:bD s o=0) (hk:o.kind=3∨o.kind=4):bG s.cases o.case=true:=by
 cases e:bG s.cases o.case
 ·exfalso
  unfold bD bP at h;have:2≤o.kind∧o.kind≤4:=by omega
  have:o.kind≠1:=by omega
  split at h
  ·cases h
  ·simp only [*] at h
   cases h
 ·rfl
set_option maxRecDepth 100000 in
theorem FR {g:Heap} {x:AV} {s:an} (hb:RdS g x s) (o:OpD) (hf:Few s) (hp:kE 1 s.policy) (hr:i64 o.review) (ht:i64 s.tick) (hver:0≤s.version∧s.version≤1000000) (he:tq g):
  ak Tryz.prog 33 [x,opA o] g fun r h' =>Ab.Sub g h'∧∃j,pT g h' r (dw aN s o) j∧(bD s o=0→j=findD s.cases o.case):=by
 obtain ⟨i0,ei0⟩:∃i0,(if o.kind=1 then s.cases.length else findD s.cases o.case)=i0:=⟨_,rfl⟩
 have hown:=fun (G:Heap) (hG:Ab.Sub g G)=>Ln (hb.sub hG) i0 hf hp
 have hrdy:=fun (G:Heap) (hG:Ab.Sub g G)=>AP (hb.sub hG) o hf hr ht
 obtain ⟨y1,y2,y3,y4,rfl,hb'⟩:=hb;cases hpp:s.policy with
 |mk pid pset palg ptgt prules pkids pobls=>
 have hcC:fl (.mk pid pset palg ptgt prules pkids pobls)= [.s pid, .v (.bool pset), .v (.int .i64 palg),aR ptgt, .sl (prules.map aA) .no, .sl (pkids.map aJ) .no,ax pobls]:=by simp [fl,aW]
 rw [hpp,hcC] at hown hrdy;simp only [opA,opC,List.cons_append,List.nil_append] at hown hrdy;refine ak.body hU hm Tryz.func33 rfl (by kernel_rfl) 138 rfl [.cell 4 36] rfl (Uf rfl) (fun hwf=> ?_)
 simp only [go_sem,hcC,opA,opC,List.cons_append,List.nil_append];intro i2 h2;simp only [go_sem];intro i3 h3;have n32:=aH h3;have h3' :=aE h3;simp only [go_sem];intro i4 h4;have n43:=aH h4;have h4a:=aE h4;have n42:=aH h4a;have h4' :=aE h4a;simp only [go_sem,aj,n32.symm,n42.symm];obtain ⟨H,eH⟩:∃H,upd (upd (upd g i2 (some (.obj [.v (.int .i64 s.tick),y1,y2,y3,y4, .s pid, .v (.bool pset), .v (.int .i64 palg),aR ptgt, .sl (prules.map aA) .no, .sl (pkids.map aJ) .no,ax pobls, .v (.int .i64 s.version)] 36))) i3 (some (.obj (opC o) 44))) i4 (some (.obj [.v (.int .i64 0), .sl [] .full, .sl [] .full, .sl [] .full, .sl [] .full, .s [], .v (.bool false), .v (.int .i64 0), .sl [] .full, .sl [] .full, .sl [] .full, .sl [] .full, .v (.int .i64 0)] 36))=H:=⟨_,rfl⟩;have hH:Ab.Sub g H:=by rw [←eH]; exact (((Sub.refl g).put h2 _).put h3' _).put h4' _
 have g2:H i2=some (.obj [.v (.int .i64 s.tick),y1,y2,y3,y4, .s pid, .v (.bool pset), .v (.int .i64 palg),aR ptgt, .sl (prules.map aA) .no, .sl (pkids.map aJ) .no,ax pobls, .v (.int .i64 s.version)] 36):=by rw [←eH,ag _ _ n42.symm,ag _ _ n32.symm,ah]
 have g3:H i3=some (.obj (opC o) 44):=by rw [←eH,ag _ _ n43.symm,ah]
 have g4:H i4=some (.obj [.v (.int .i64 0), .sl [] .full, .sl [] .full, .sl [] .full, .sl [] .full, .s [], .v (.bool false), .v (.int .i64 0), .sl [] .full, .sl [] .full, .sl [] .full, .sl [] .full, .v (.int .i64 0)] 36):=by rw [←eH,ah]
 simp only [opC] at eH g3;rw [eH];clear eH;refine (hown H hH).mono fun r H1 ⟨hS,s1⟩=> ?_
 obtain ⟨z1,z2,z3,z4,er,hS1⟩:=id hS;subst er;rw [hpp,hcC] at hS⊢;obtain ⟨hC,w2,w3,w4,a12,a13,a14,a23,a24,a34⟩:=hS1;obtain ⟨xs,w1,hnx,hlo,hmy⟩:=id hC;simp only [go_sem,List.cons_append,List.nil_append];intro i5 h5;simp only [go_sem];have q2:=s1 _ _ g2;have q3:=s1 _ _ g3;have q4:=s1 _ _ g4;have n52:i2≠i5:=fun e=>by rw [←e,q2] at h5; cases h5
 have n53:i3≠i5:=fun e=>by rw [←e,q3] at h5; cases h5
 have n54:i4≠i5:=fun e=>by rw [←e,q4] at h5; cases h5
 obtain ⟨K,eK⟩:∃K,upd H1 i5 (some (.obj [.v (.int .i64 s.tick),z1,z2,z3,z4, .s pid, .v (.bool pset), .v (.int .i64 palg),aR ptgt, .sl (prules.map aA) .no, .sl (pkids.map aJ) .no,ax pobls, .v (.int .i64 s.version)] 36))=K:=⟨_,rfl⟩;have sK:Ab.Sub H1 K:=by rw [←eK]; exact .ai h5
 have k5:K i5=some (.obj [.v (.int .i64 s.tick),z1,z2,z3,z4, .s pid, .v (.bool pset), .v (.int .i64 palg),aR ptgt, .sl (prules.map aA) .no, .sl (pkids.map aJ) .no,ax pobls, .v (.int .i64 s.version)] 36):=by rw [←eK,ah]
 rw [eK];have hz5:∀k,H k=none→H1 k≠none→k≠i5:=fun k _ hk e=>hk (by rw [e]; exact h5)
 have k2:=sK _ _ q2;have k3:=sK _ _ q3;have k4:=sK _ _ q4;clear eK;have sg:Ab.Sub g K:=hH.trans (s1.trans sK);simp only [go_sem,k2,k3];refine (hrdy K sg).pthen ?_;have g5:g i5=none:=(hH.trans s1).none h5;have kK:∀k,H1 k≠none→K k=H1 k:=fun k hk=>by
  cases e:H1 k with
  |none=>exact (hk e).elim
  |some b=>exact sK _ _ e
 have hz4:∀k,H k=none→k≠i4:=fun k hk e=>by rw [e,g4] at hk; cases hk
 by_cases p0:bD s o=0
 ·have d0:(bD s o !=0)=false:=by simp [p0]
  simp only [go_sem,d0];simp only [go_sem,k5,k3];have hSK:pT H K (.agg ([.v (.int .i64 s.tick),z1,z2,z3,z4]++fl s.policy++ [.v (.int .i64 s.version)])) s i0:=by
   rw [hpp,hcC];exact hS.keepb fun k _ hk=>kK k hk
  have hfi:=yu hSK.rd o.case hf.cases;rw [hpp,hcC] at hfi;simp only [List.cons_append,List.nil_append] at hfi;refine hfi.pthen ?_;simp only [go_sem,k3];have hform:fq o=true:=by
   cases e:fq o
   ·simp [bD,e] at p0
   ·rfl
  have hdone:dw aN s o=doD aN s o:=by simp [dw,p0]
  rw [hdone]
  by_cases p1:o.kind=1
  ·have k1:(o.kind==1)=true:=by simp [p1]
   simp only [go_sem,k1];simp only [go_sem,k3];intro i8 h8;have n82:i2≠i8:=fun e=>by rw [←e,k2] at h8; cases h8
   have n83:i3≠i8:=fun e=>by rw [←e,k3] at h8; cases h8
   have n84:i4≠i8:=fun e=>by rw [←e,k4] at h8; cases h8
   have n85:i5≠i8:=fun e=>by rw [←e,k5] at h8; cases h8
   simp only [go_sem];obtain ⟨K2,eK2⟩:∃K2,upd K i8 (some (.obj [.s o.case, .s o.subj, .s [111,112,101,110], .sl [] .full, .sl [] .full] 57))=K2:=⟨_,rfl⟩;have sK2:Ab.Sub K K2:=by rw [←eK2]; exact .ai h8
   have e8:K2 i8=some (.obj [.s o.case, .s o.subj, .s [111,112,101,110], .sl [] .full, .sl [] .full] 57):=by rw [←eK2,ah]
   rw [eK2];clear eK2;have m3:=sK2 _ _ k3;have m4:=sK2 _ _ k4;have m5:=sK2 _ _ k5;simp only [go_sem,m3,m5];have hha:=pF (h0:=H) (s:=s) z1 z2 z3 z4 (k:=i8) (o:=0) (A:= []) (B:= []) (t:=57) (c:=⟨o.case,o.subj,gw,[],[]⟩) (f:= .sl [] .full) (l:= .sl [] .full) rfl e8 (by decide) (.inl ⟨rfl,rfl⟩) (s1.trans (sK.trans sK2)) (Nat.zero_le _) o.subj [110,101,119]
   rw [hpp,hcC] at hha;simp only [List.cons_append,List.nil_append] at hha;refine hha.mono fun r K3 ⟨l',ol,e8',fr3,ap3⟩=> ?_
   have kK3:∀k,K2 k≠none→k≠i8→K3 k=K2 k:=fun k hk hk8=>fr3 k hk hk8 (by simp [nid])
   have m3' :K3 i3=_:=(kK3 i3 (by rw [m3]; simp) n83).trans m3
   have m4' :K3 i4=_:=(kK3 i4 (by rw [m4]; simp) n84).trans m4
   have m5' :K3 i5=_:=(kK3 i5 (by rw [m5]; simp) n85).trans m5
   simp only [bT,List.append_nil] at e8';simp only [go_sem];simp only [go_sem,m5',e8'];have kk2:∀k,H1 k≠none→K2 k=H1 k:=fun k hk=>by
    have:=kK k hk;cases e:K k with
    |none=>rw [e] at this; exact (hk this.symm).elim
    |some b=>rw [sK2 _ _ e,←e,this]
   have k8:∀k,H1 k≠none→k≠i8:=fun k hk e=>hk (by have:=kK k hk; rw [e,h8] at this; rw [e]; exact this.symm)
   have kk3:∀k,H1 k≠none→K3 k=H1 k:=fun k hk=>(kK3 k (by rw [kk2 k hk]; exact hk) (k8 k hk)).trans (kk2 k hk)
   have sH3:Ab.Sub H1 K3:=fun k b hk=>by rw [kk3 k (by rw [hk]; simp)]; exact hk
   have hfl:findD s.cases o.case≤s.cases.length:=List.findIdx_le_length;have hfc:=hf.cases;refine (BU z1 xs (.agg [.s o.case, .s o.subj, .s gw, .sl [] .full,l']) (findD s.cases o.case) H K3 (w1.keepb fun k _ hk=>kk3 k hk) (s1.trans sH3) (by omega) (by omega) rfl (by simp [Ab.fit])).mono fun r K4 ⟨ow5,fr4,ap4⟩=> ?_
   have m4'' :K4 i4=_:=(fr4 i4 (by rw [m4']; simp) (fun e=>by have:=(w1.nid e).1; rw [g4] at this; cases this)).trans m4'
   have m5'' :K4 i5=_:=(fr4 i5 (by rw [m5']; simp) (fun e=>(w1.nid e).2.1 h5)).trans m5'
   simp only [go_sem,m5'',ow5.rd.fit,ow5.rd.cells];simp only [go_sem,aj,n54,m4''];have hi0:i0=s.cases.length:=by rw [←ei0,if_pos p1]
   have hxs:xs=s.cases.map bM:=List.ext_getElem (by simpa using hnx) fun j a b=>by rw [hlo j a (by omega) (by omega),Uh]
   have kk4:∀k,H1 k≠none→nid z1≠some k→K4 k=H1 k:=fun k hk hz=>(fr4 k (by rw [kk3 k hk]; exact hk) hz).trans (kk3 k hk)
   obtain ⟨K5,eK5⟩:∃K5,upd (upd K4 i5 (some (.obj [.v (.int .i64 s.tick),r,z2,z3,z4, .s pid, .v (.bool pset), .v (.int .i64 palg),aR ptgt, .sl (prules.map aA) .no, .sl (pkids.map aJ) .no,ax pobls, .v (.int .i64 s.version)] 36))) i4 (some (.obj [.v (.int .i64 s.tick),r,z2,z3,z4, .s pid, .v (.bool pset), .v (.int .i64 palg),aR ptgt, .sl (prules.map aA) .no, .sl (pkids.map aJ) .no,ax pobls, .v (.int .i64 s.version)] 36))=K5:=⟨_,rfl⟩;rw [eK5];have o5:∀k,k≠i4→k≠i5→K5 k=K4 k:=fun k a b=>by rw [←eK5,ag _ _ a,ag _ _ b]
   have kk5:∀k,H k=none→H1 k≠none→nid z1≠some k→K5 k=H1 k:=fun k a b c=>(o5 k (hz4 k a) (hz5 k a b)).trans (kk4 k b c)
   have ow:OwE 57 H K5 5 r (List.take (findD s.cases o.case) xs++([.agg [.s o.case, .s o.subj, .s gw, .sl [] .full,l']]++List.drop (findD s.cases o.case) xs)):=ow5.keep fun id e=>o5 id (hz4 id (ow5.nid e).1) fun e5=>by
    subst e5;rcases ap4 _ e with h|h
    ·rw [m5'] at h; cases h
    ·exact (w1.nid h).2.1 h5
   have ol5:OwE 96 H K5 3 l' _:=ol.keep fun id e=>by
    have h2n:K2 id=none:=(ap3 id e).resolve_right (by simp [nid])
    have hz:nid z1≠some id:=fun e1=>by
     have:=kk2 id (w1.nid e1).2.1;rw [h2n] at this;exact (w1.nid e1).2.1 this.symm
    rw [o5 id (hz4 id (ol.nid e).1) (fun e5=>by rw [e5,m5] at h2n; cases h2n),fr4 id (ol.nid e).2.1 hz]
   have hmc:eC H K5 [] (.agg [.s o.case, .s o.subj, .s gw, .sl [] .full,l']) (hY s ⟨o.case,o.subj,gw,[],[]⟩ o.subj [110,101,119]):=⟨.sl [] .full,l',rfl, .inl ⟨rfl,rfl⟩,ol5,(fun i e=>by cases e),fun y hy=>by cases hy⟩
   have sg4:Ab.Sub g K4:=fun k b hk=>by
    have h1:=hH _ _ hk;have h2:=s1 _ _ h1;rw [kk4 k (by rw [h2]; simp) (fun e=>by have:=(w1.nid e).1; rw [h1] at this; cases this)]
    exact h2
   have sg5:Ab.Sub g K5:=by rw [←eK5]; exact (sg4.put g5 _).put h4' _
   have hdo:doD aN s o= {s with cases:=s.cases.take (findD s.cases o.case)++ [hY s ⟨o.case,o.subj,gw,[],[]⟩ o.subj [110,101,119]]++s.cases.drop (findD s.cases o.case)}:=by simp [doD,p1]
   refine .mk _ (.refl _) (.refl _) ⟨sg5,_, ?_,fun _=>rfl⟩
   rw [hdo];have apr:∀k,nid r=some k→H1 k=none∨nid z1=some k:=fun k e=>(ap4 k e).imp (fun h=>sH3.none h) id
   have hro:∀ {w:AV},apart z1 w→(∀k,nid w=some k→H1 k≠none)→apart r w:=fun ha hw k e1 e2=>(apr k e1).elim (fun h=>hw k e2 h) (fun h=>ha k h e2)
   have hl0:∀k,nid l' =some k→H1 k=none:=fun k e=>(sK.trans sK2).none ((ap3 k e).resolve_right (by simp [nid]))
   have hlr:apart l' r:=fun k e1 e2=>(ap4 k e2).elim (fun h=>(ol.nid e1).2.1 h) (fun h=>(w1.nid h).2.1 (hl0 k e1))
   rw [hxs,←List.map_take,←List.map_drop] at ow;refine mu rfl hpp rfl (I0 (by rw [List.length_take]; omega) (ow.bC (fun _ e=>hH.none e)) ⟨.sl [] .full,l',rfl, .inl ⟨rfl,rfl⟩,ol5.bC (fun _ e=>hH.none e),(fun i e=>by cases e),fun y hy=>⟨(fun i e=>by cases e), ?_⟩⟩) ((w2.keep fun id e=>kk5 id (w2.nid e).1 (w2.nid e).2.1 fun e1=>a12 id e1 e).bC fun _ e=>hH.none e) ((w3.keep fun id e=>kk5 id (w3.nid e).1 (w3.nid e).2.1 fun e1=>a13 id e1 e).bC fun _ e=>hH.none e) ((w4.keep fun id e=>kk5 id (w4.nid e).1 (w4.nid e).2.1 fun e1=>a14 id e1 e).bC fun _ e=>hH.none e) ⟨hro a12 fun k e=>(w2.nid e).2.1,hro a13 fun k e=>(w3.nid e).2.1,hro a14 fun k e=>(w4.nid e).2.1,a23,a24,a34⟩
   simp only [List.mem_cons,List.not_mem_nil,or_false] at hy;rcases hy with rfl|rfl|rfl|rfl
   ·exact hlr
   ·exact fun k e1 e2=>(w2.nid e2).2.1 (hl0 k e1)
   ·exact fun k e1 e2=>(w3.nid e2).2.1 (hl0 k e1)
   ·exact fun k e1 e2=>(w4.nid e2).2.1 (hl0 k e1)
  have k1:(o.kind==1)=false:=by simp [p1]
  have hi0:i0=findD s.cases o.case:=by rw [←ei0,if_neg p1]
  simp only [go_sem,k1]
  by_cases p3:o.kind=3
  ·have k3' :(o.kind==3)=true:=by simp [p3]
   simp only [go_sem,k3'];have hth:=vw p0 (.inl p3);have hlt:=gL hth;obtain ⟨j,ej⟩:∃j,findD s.cases o.case=j:=⟨_,rfl⟩;have hj:j<s.cases.length:=by rw [←ej]; exact hlt
   have hjx:j<xs.length:=by omega
   rw [ej] at hi0;subst hi0;obtain ⟨f,l,ex,of,ol,hap,hys⟩:=hmy hjx hj;obtain ⟨id1,hg1,o1⟩:=w1.ow (by intro e; rw [e] at hjx; cases hjx)
   have o1' :=o1;obtain ⟨cap,rest,ey,hid,hrl,hcap,hsz⟩:=o1';have lA:i0*5=(aq (xs.take i0)).length:=by rw [aU fun z hz=>hsz z (List.mem_of_mem_take hz),List.length_take]; omega
   have hidK:K id1=some (.obj (aq (xs.take i0)++(bT s.cases[i0] f l++(aq (xs.drop (i0+1))++rest))) 57):=by
    rw [sK _ _ hid,yw hjx,ex];simp [bT,AV.cells]
   have n14:id1≠i4:=hz4 id1 hg1;have n13:id1≠i3:=fun e=>by rw [e,g3] at hg1; cases hg1
   have n15:id1≠i5:=fun e=>o1.none (by rw [e]; exact h5)
   have nf4:∀k,nid f=some k→k≠i3∧k≠i4∧k≠i5∧k≠id1:=fun k e=>⟨(fun e' =>by have:=(of.nid e).1; rw [e',g3] at this; cases this),hz4 k (of.nid e).1,hz5 k (of.nid e).1 (of.nid e).2.1,fun e' =>(hys z1 (by simp)).1 k e (by rw [e']; exact o1.nid)⟩
   have nl4:∀k,nid l=some k→k≠i3∧k≠i4∧k≠i5∧k≠id1:=fun k e=>⟨(fun e' =>by have:=(ol.nid e).1; rw [e',g3] at this; cases this),hz4 k (ol.nid e).1,hz5 k (ol.nid e).1 (ol.nid e).2.1,fun e' =>(hys z1 (by simp)).2 k e (by rw [e']; exact o1.nid)⟩
   have hff:=hf.fields _ (Ul hj);have hfl:=hf.log _ (Ul hj);rw [ej];refine .calls (pick K [i3,i5]) [0,1,2,3,4,5,6,7,8] bJ (by kernel_rfl) rfl ?_
   simp only [go_sem,bu (show i5∈ [i3,i5] by simp),k5]
   refine (o1.sub sK).idx (U:=U) (e:=57) i0 rfl hjx lp (by decide) ?_
   simp only [go_sem,bu (show i3∈ [i3,i5] by simp),k3]
   refine (show ak Tryz.prog 83 [.ptr id1 (i0*5), .s o.field, .agg [.v (.int .i64 o.val.kind), .v (.int .i64 o.val.n), .s o.val.s]] K _ from HM lA hidK (by decide) (of.sub sK) (s1.trans sK) hff o.field o.val).mono fun r K3 ⟨f',of',e1',fr3,ap3⟩=> ?_
   have kk3:∀k,H1 k≠none→k≠id1→nid f≠some k→K3 k=H1 k:=fun k a b c=>(fr3 k (by rw [kK k a]; exact a) b c).trans (kK k a)
   have m3:K3 i3=_:=(fr3 i3 (by rw [k3]; simp) n13.symm fun e=>(nf4 _ e).1 rfl).trans k3
   have m4:K3 i4=_:=(fr3 i4 (by rw [k4]; simp) n14.symm fun e=>(nf4 _ e).2.1 rfl).trans k4
   have m5:K3 i5=_:=(fr3 i5 (by rw [k5]; simp) n15.symm fun e=>(nf4 _ e).2.2.1 rfl).trans k5
   refine ⟨gJ fun k hk=> ?_, ?_⟩
   ·simp only [List.mem_cons,List.not_mem_nil,or_false] at hk
    rcases hk with rfl|rfl
    ·rw [m3,k3]
    ·rw [m5,k5]
   simp only [go_sem];have sH3:Ab.Sub H K3:=fun k b hk=>by rw [kk3 k (by rw [s1 _ _ hk]; simp) (fun e=>by rw [e,hg1] at hk; cases hk) (fun e=>by have:=(of.nid e).1; rw [hk] at this; cases this)]; exact s1 _ _ hk
   have ol3:OwE 96 H K3 3 l (s.cases[i0].log.map gG):=ol.keep fun k e=>kk3 k (ol.nid e).2.1 (nl4 k e).2.2.2 (fun e1=>hap k e1 e)
   have hX5:∀y1 y2:AV,Sized 5 (xs.set i0 (.agg (bT s.cases[i0] y1 y2))):=fun y1 y2 z hz=>by
    rcases List.mem_or_eq_of_mem_set hz with hz|rfl
    ·exact hsz z hz
    ·rfl
   have mkO:∀ {G:Heap} {y1 y2:AV},G id1=some (.obj (aq (xs.take i0)++(bT s.cases[i0] y1 y2++(aq (xs.drop (i0+1))++rest))) 57)→Ow 57 G 5 id1 z1 (xs.set i0 (.agg (bT s.cases[i0] y1 y2))):=fun {G y1 y2} hG=>⟨cap,rest,by rw [List.length_set]; exact ey,by rw [hG,qn hjx]; simp [AV.cells],by rw [List.length_set]; exact hrl,by rw [List.length_set]; exact hcap,hX5 _ _⟩
   have hjs:∀x:AV,i0<(xs.set i0 x).length:=fun x=>by rw [List.length_set]; exact hjx
   refine .calls (pick K3 [i3,i5]) [0,1,2,3,4,5,6,7] bJ (by kernel_rfl) rfl ?_
   simp only [go_sem,bu (show i5∈ [i3,i5] by simp),m5]
   refine (mkO e1').idx (U:=U) (e:=57) i0 rfl (hjs _) lp (by decide) ?_
   simp only [go_sem,bu (show i3∈ [i3,i5] by simp),m3]
   have hha:=pF (h0:=H) (h:=K3) (s:=s) z1 z2 z3 z4 (k:=id1) (c:=s.cases[i0]) (f:=f') (l:=l) lA e1' (by decide) ol3 sH3 hfl o.subj [119,114,105,116,101]
   rw [hpp,hcC] at hha;simp only [List.cons_append,List.nil_append] at hha;refine hha.mono fun r K4 ⟨l',ol',e1'',fr4,ap4⟩=> ?_
   have m3' :K4 i3=_:=(fr4 i3 (by rw [m3]; simp) n13.symm fun e=>(nl4 _ e).1 rfl).trans m3
   have m4' :K4 i4=_:=(fr4 i4 (by rw [m4]; simp) n14.symm fun e=>(nl4 _ e).2.1 rfl).trans m4
   have m5' :K4 i5=_:=(fr4 i5 (by rw [m5]; simp) n15.symm fun e=>(nl4 _ e).2.2.1 rfl).trans m5
   refine ⟨gJ fun k hk=> ?_, ?_⟩
   ·simp only [List.mem_cons,List.not_mem_nil,or_false] at hk
    rcases hk with rfl|rfl
    ·rw [m3',m3]
    ·rw [m5',m5]
   simp only [go_sem];simp only [go_sem,m5',m4'];obtain ⟨K5,eK5⟩:∃K5,upd K4 i4 (some (.obj [.v (.int .i64 s.tick),z1,z2,z3,z4, .s pid, .v (.bool pset), .v (.int .i64 palg),aR ptgt, .sl (prules.map aA) .no, .sl (pkids.map aJ) .no,ax pobls, .v (.int .i64 s.version)] 36))=K5:=⟨_,rfl⟩;rw [eK5];have o5:∀k,k≠i4→K5 k=K4 k:=fun k a=>by rw [←eK5,ag _ _ a]
   have kk5:∀k,H k=none→H1 k≠none→k≠id1→nid f≠some k→nid l≠some k→K5 k=H1 k:=fun k a b c d e=>by
    have h3:=kk3 k b c d;rw [o5 k (hz4 k a),fr4 k (by rw [h3]; exact b) c e,h3]
   have of5:OwE 131 H K5 4 f' _:=of'.keep fun id e=>by
    have h3:=(of'.nid e).2.1;have n1:id≠id1:=fun e' =>by
     rcases ap3 id e with h|h
     ·rw [e',hidK] at h; cases h
     ·exact (nf4 id h).2.2.2 e'
    have n2:nid l≠some id:=fun e' =>by
     rcases ap3 id e with h|h
     ·have:=kK id (ol.nid e').2.1; rw [h] at this; exact (ol.nid e').2.1 this.symm
     ·exact hap id h e'
    rw [o5 id (hz4 id (of'.nid e).1),fr4 id h3 n1 n2]
   have ol5:OwE 96 H K5 3 l' _:=ol'.keep fun id e=>o5 id (hz4 id (ol'.nid e).1)
   have sg4:Ab.Sub g K4:=fun k b hk=>by
    have h1:=hH _ _ hk;rw [fr4 k (by rw [sH3 _ _ h1]; simp) (fun e=>by rw [e,hg1] at h1; cases h1) (fun e=>by have:=(ol.nid e).1; rw [h1] at this; cases this)]
    exact sH3 _ _ h1
   have sg5:Ab.Sub g K5:=by rw [←eK5]; exact sg4.put h4' _
   have n1' :nid z1=some id1:=o1.nid;have hdo:doD aN s o= {s with cases:=s.cases.modify i0 fun c=>hY s {c with fields:=dW c.fields o.field o.val} o.subj [119,114,105,116,101]}:=by simp [doD,p3,ej]
   refine .mk _ (.refl _) (.refl _) ⟨sg5,_, ?_,fun _=>rfl⟩
   rw [hdo];have thr:∀w∈ [z1,z2,z3,z4],∀k,nid w=some k→H1 k≠none:=fun w hw k e=>by
    simp only [List.mem_cons,List.not_mem_nil,or_false] at hw;rcases hw with rfl|rfl|rfl|rfl
    ·exact (w1.nid e).2.1
    ·exact (w2.nid e).2.1
    ·exact (w3.nid e).2.1
    ·exact (w4.nid e).2.1
   refine mu rfl hpp rfl ?_ ((w2.keep fun id e=>kk5 id (w2.nid e).1 (w2.nid e).2.1 (fun e1=>a12 id1 n1' (by rw [←e1]; exact e)) (fun e1=>(hys z2 (by simp)).1 id e1 e) (fun e1=>(hys z2 (by simp)).2 id e1 e)).bC fun _ e=>hH.none e) ((w3.keep fun id e=>kk5 id (w3.nid e).1 (w3.nid e).2.1 (fun e1=>a13 id1 n1' (by rw [←e1]; exact e)) (fun e1=>(hys z3 (by simp)).1 id e1 e) (fun e1=>(hys z3 (by simp)).2 id e1 e)).bC fun _ e=>hH.none e) ((w4.keep fun id e=>kk5 id (w4.nid e).1 (w4.nid e).2.1 (fun e1=>a14 id1 n1' (by rw [←e1]; exact e)) (fun e1=>(hys z4 (by simp)).1 id e1 e) (fun e1=>(hys z4 (by simp)).2 id e1 e)).bC fun _ e=>hH.none e) ⟨a12,a13,a14,a23,a24,a34⟩
   refine yK (X:= .agg (bT s.cases[i0] f' l')) ((show OwE 57 H K5 5 z1 _ from .inr ⟨id1,hg1,mkO ((o5 id1 n14).trans e1'')⟩).bC (fun _ e=>hH.none e)) hnx (fun k h1 h2 hk=>hlo k h1 h2 hk) fun hh=>⟨f',l',rfl,of5.bC (fun _ e=>hH.none e),ol5.bC (fun _ e=>hH.none e),fun k e1 e2=> ?_,fun w hw=>⟨fun k e1 e2=> ?_,fun k e1 e2=> ?_⟩⟩
   ·rcases ap4 k e2 with h|h
    ·exact (of'.nid e1).2.1 h
    ·rcases ap3 k e1 with h' |h'
     ·exact (ol.nid h).2.1 (sK.none h')
     ·exact hap k h' h
   ·rcases ap3 k e1 with h|h
    ·exact thr w hw k e2 (sK.none h)
    ·exact (hys w hw).1 k h e2
   ·rcases ap4 k e1 with h|h
    ·by_cases h1:k=id1
     ·subst h1; rw [e1'] at h; cases h
     ·have:=kk3 k (thr w hw k e2) h1 (fun e=>(hys w hw).1 k e e2)
      rw [h] at this;exact thr w hw k e2 this.symm
    ·exact (hys w hw).2 k h e2
  have k3' :(o.kind==3)=false:=by simp [p3]
  simp only [go_sem,k3']
  by_cases p4:o.kind=4
  ·have k4' :(o.kind==4)=true:=by simp [p4]
   simp only [go_sem,k4'];have hth:=vw p0 (.inr p4);have hlt:=gL hth;obtain ⟨j,ej⟩:∃j,findD s.cases o.case=j:=⟨_,rfl⟩;have hj:j<s.cases.length:=by rw [←ej]; exact hlt
   have hjx:j<xs.length:=by omega
   rw [ej] at hi0;subst hi0;obtain ⟨f,l,ex,of,ol,hap,hys⟩:=hmy hjx hj;obtain ⟨id1,hg1,o1⟩:=w1.ow (by intro e; rw [e] at hjx; cases hjx)
   have o1' :=o1;obtain ⟨cap,rest,ey,hid,hrl,hcap,hsz⟩:=o1';have lA:i0*5=(aq (xs.take i0)).length:=by rw [aU fun z hz=>hsz z (List.mem_of_mem_take hz),List.length_take]; omega
   have hidK:K id1=some (.obj (aq (xs.take i0)++(bT s.cases[i0] f l++(aq (xs.drop (i0+1))++rest))) 57):=by
    rw [sK _ _ hid,yw hjx,ex];simp [bT,AV.cells]
   have n14:id1≠i4:=hz4 id1 hg1;have n13:id1≠i3:=fun e=>by rw [e,g3] at hg1; cases hg1
   have n15:id1≠i5:=fun e=>o1.none (by rw [e]; exact h5)
   have nf4:∀k,nid f=some k→k≠i3∧k≠i4∧k≠i5∧k≠id1:=fun k e=>⟨(fun e' =>by have:=(of.nid e).1; rw [e',g3] at this; cases this),hz4 k (of.nid e).1,hz5 k (of.nid e).1 (of.nid e).2.1,fun e' =>(hys z1 (by simp)).1 k e (by rw [e']; exact o1.nid)⟩
   have nl4:∀k,nid l=some k→k≠i3∧k≠i4∧k≠i5∧k≠id1:=fun k e=>⟨(fun e' =>by have:=(ol.nid e).1; rw [e',g3] at this; cases this),hz4 k (ol.nid e).1,hz5 k (ol.nid e).1 (ol.nid e).2.1,fun e' =>(hys z1 (by simp)).2 k e (by rw [e']; exact o1.nid)⟩
   have hff:=hf.fields _ (Ul hj);have hfl:=hf.log _ (Ul hj);rw [ej];simp only [go_sem,k5,k3];refine (o1.sub sK).idx (U:=U) (e:=57) i0 rfl hjx lp (by decide) ?_
   simp only [go_sem,hidK];have e2:List.take (i0*5+2) (aq (xs.take i0)++(bT s.cases[i0] f l++(aq (xs.drop (i0+1))++rest)))++ [.s o.to]++List.drop (i0*5+2+1) (aq (xs.take i0)++(bT s.cases[i0] f l++(aq (xs.drop (i0+1))++rest)))=aq (xs.take i0)++(bT {s.cases[i0] with state:=o.to} f l++(aq (xs.drop (i0+1))++rest)):=by
    have:=mc (A:=aq (xs.take i0)++ [.s s.cases[i0].id, .s s.cases[i0].owner]) (B:= [.s s.cases[i0].state]) (C:=f::l::(aq (xs.drop (i0+1))++rest)) (X:= [.s o.to]) (k:=i0*5+2) (m:=1) (by rw [lA]; simp) rfl rfl
    simp only [bT,List.append_assoc,List.cons_append,List.nil_append] at this⊢;exact this
   rw [e2];obtain ⟨K3,eK3⟩:∃K3,upd K id1 (some (.obj (aq (xs.take i0)++(bT {s.cases[i0] with state:=o.to} f l++(aq (xs.drop (i0+1))++rest))) 57))=K3:=⟨_,rfl⟩
   rw [eK3];refine ⟨by simp only [Uk,←lA,bT,List.length_cons,List.length_nil]; omega, ?_⟩
   have e1' :K3 id1=some (.obj (aq (xs.take i0)++(bT {s.cases[i0] with state:=o.to} f l++(aq (xs.drop (i0+1))++rest))) 57):=by rw [←eK3,ah]
   have fr3:∀k,K k≠none→k≠id1→nid f≠some k→K3 k=K k:=fun k _ hk _=>by rw [←eK3,ag _ _ hk]
   have ap3:∀k,nid f=some k→K k=none∨nid f=some k:=fun k hk=> .inr hk
   have kk3:∀k,H1 k≠none→k≠id1→nid f≠some k→K3 k=H1 k:=fun k a b c=>(fr3 k (by rw [kK k a]; exact a) b c).trans (kK k a)
   have m3:K3 i3=_:=(fr3 i3 (by rw [k3]; simp) n13.symm fun e=>(nf4 _ e).1 rfl).trans k3
   have m4:K3 i4=_:=(fr3 i4 (by rw [k4]; simp) n14.symm fun e=>(nf4 _ e).2.1 rfl).trans k4
   have m5:K3 i5=_:=(fr3 i5 (by rw [k5]; simp) n15.symm fun e=>(nf4 _ e).2.2.1 rfl).trans k5
   obtain ⟨f',of',ef'⟩:∃f',OwE 131 H K3 4 f' (s.cases[i0].fields.map bE)∧f=f' :=⟨f,of.keep fun k e=>by rw [←eK3,ag _ _ (nf4 k e).2.2.2,kK k (of.nid e).2.1],rfl⟩
   rw [ef'] at e1';replace ap3:∀k,nid f' =some k→K k=none∨nid f=some k:=by rw [←ef']; exact ap3
   have sH3:Ab.Sub H K3:=fun k b hk=>by rw [kk3 k (by rw [s1 _ _ hk]; simp) (fun e=>by rw [e,hg1] at hk; cases hk) (fun e=>by have:=(of.nid e).1; rw [hk] at this; cases this)]; exact s1 _ _ hk
   have ol3:OwE 96 H K3 3 l (s.cases[i0].log.map gG):=ol.keep fun k e=>kk3 k (ol.nid e).2.1 (nl4 k e).2.2.2 (fun e1=>hap k e1 e)
   have hX5:∀y1 y2:AV,Sized 5 (xs.set i0 (.agg (bT ({s.cases[i0] with state:=o.to}:aK) y1 y2))):=fun y1 y2 z hz=>by
    rcases List.mem_or_eq_of_mem_set hz with hz|rfl
    ·exact hsz z hz
    ·rfl
   have mkO:∀ {G:Heap} {y1 y2:AV},G id1=some (.obj (aq (xs.take i0)++(bT ({s.cases[i0] with state:=o.to}:aK) y1 y2++(aq (xs.drop (i0+1))++rest))) 57)→Ow 57 G 5 id1 z1 (xs.set i0 (.agg (bT ({s.cases[i0] with state:=o.to}:aK) y1 y2))):=fun {G y1 y2} hG=>⟨cap,rest,by rw [List.length_set]; exact ey,by rw [hG,qn hjx]; simp [AV.cells],by rw [List.length_set]; exact hrl,by rw [List.length_set]; exact hcap,hX5 _ _⟩
   have hjs:∀x:AV,i0<(xs.set i0 x).length:=fun x=>by rw [List.length_set]; exact hjx
   refine .calls (pick K3 [i3,i5]) [0,1,2,3,4,5,6,7,8,9] bJ (by kernel_rfl) rfl ?_
   simp only [go_sem,bu (show i5∈ [i3,i5] by simp),m5]
   refine (mkO e1').idx (U:=U) (e:=57) i0 rfl (hjs _) lp (by decide) ?_
   simp only [go_sem,bu (show i3∈ [i3,i5] by simp),m3]
   have hha:=pF (h0:=H) (h:=K3) (s:=s) z1 z2 z3 z4 (k:=id1) (c:=({s.cases[i0] with state:=o.to}:aK)) (f:=f') (l:=l) lA e1' (by decide) ol3 sH3 hfl o.subj o.to
   rw [hpp,hcC] at hha;simp only [List.cons_append,List.nil_append] at hha;refine hha.mono fun r K4 ⟨l',ol',e1'',fr4,ap4⟩=> ?_
   have m3' :K4 i3=_:=(fr4 i3 (by rw [m3]; simp) n13.symm fun e=>(nl4 _ e).1 rfl).trans m3
   have m4' :K4 i4=_:=(fr4 i4 (by rw [m4]; simp) n14.symm fun e=>(nl4 _ e).2.1 rfl).trans m4
   have m5' :K4 i5=_:=(fr4 i5 (by rw [m5]; simp) n15.symm fun e=>(nl4 _ e).2.2.1 rfl).trans m5
   refine ⟨gJ fun k hk=> ?_, ?_⟩
   ·simp only [List.mem_cons,List.not_mem_nil,or_false] at hk
    rcases hk with rfl|rfl
    ·rw [m3',m3]
    ·rw [m5',m5]
   simp only [go_sem];simp only [go_sem,m5',m4'];obtain ⟨K5,eK5⟩:∃K5,upd K4 i4 (some (.obj [.v (.int .i64 s.tick),z1,z2,z3,z4, .s pid, .v (.bool pset), .v (.int .i64 palg),aR ptgt, .sl (prules.map aA) .no, .sl (pkids.map aJ) .no,ax pobls, .v (.int .i64 s.version)] 36))=K5:=⟨_,rfl⟩;rw [eK5];have o5:∀k,k≠i4→K5 k=K4 k:=fun k a=>by rw [←eK5,ag _ _ a]
   have kk5:∀k,H k=none→H1 k≠none→k≠id1→nid f≠some k→nid l≠some k→K5 k=H1 k:=fun k a b c d e=>by
    have h3:=kk3 k b c d;rw [o5 k (hz4 k a),fr4 k (by rw [h3]; exact b) c e,h3]
   have of5:OwE 131 H K5 4 f' _:=of'.keep fun id e=>by
    have h3:=(of'.nid e).2.1;have n1:id≠id1:=fun e' =>by
     rcases ap3 id e with h|h
     ·rw [e',hidK] at h; cases h
     ·exact (nf4 id h).2.2.2 e'
    have n2:nid l≠some id:=fun e' =>by
     rcases ap3 id e with h|h
     ·have:=kK id (ol.nid e').2.1; rw [h] at this; exact (ol.nid e').2.1 this.symm
     ·exact hap id h e'
    rw [o5 id (hz4 id (of'.nid e).1),fr4 id h3 n1 n2]
   have ol5:OwE 96 H K5 3 l' _:=ol'.keep fun id e=>o5 id (hz4 id (ol'.nid e).1)
   have sg4:Ab.Sub g K4:=fun k b hk=>by
    have h1:=hH _ _ hk;rw [fr4 k (by rw [sH3 _ _ h1]; simp) (fun e=>by rw [e,hg1] at h1; cases h1) (fun e=>by have:=(ol.nid e).1; rw [h1] at this; cases this)]
    exact sH3 _ _ h1
   have sg5:Ab.Sub g K5:=by rw [←eK5]; exact sg4.put h4' _
   have n1' :nid z1=some id1:=o1.nid;have hdo:doD aN s o= {s with cases:=s.cases.modify i0 fun c=>hY s {c with state:=o.to} o.subj o.to}:=by simp [doD,p4,ej]
   refine .mk _ (.refl _) (.refl _) ⟨sg5,_, ?_,fun _=>rfl⟩
   rw [hdo];have thr:∀w∈ [z1,z2,z3,z4],∀k,nid w=some k→H1 k≠none:=fun w hw k e=>by
    simp only [List.mem_cons,List.not_mem_nil,or_false] at hw;rcases hw with rfl|rfl|rfl|rfl
    ·exact (w1.nid e).2.1
    ·exact (w2.nid e).2.1
    ·exact (w3.nid e).2.1
    ·exact (w4.nid e).2.1
   refine mu rfl hpp rfl ?_ ((w2.keep fun id e=>kk5 id (w2.nid e).1 (w2.nid e).2.1 (fun e1=>a12 id1 n1' (by rw [←e1]; exact e)) (fun e1=>(hys z2 (by simp)).1 id e1 e) (fun e1=>(hys z2 (by simp)).2 id e1 e)).bC fun _ e=>hH.none e) ((w3.keep fun id e=>kk5 id (w3.nid e).1 (w3.nid e).2.1 (fun e1=>a13 id1 n1' (by rw [←e1]; exact e)) (fun e1=>(hys z3 (by simp)).1 id e1 e) (fun e1=>(hys z3 (by simp)).2 id e1 e)).bC fun _ e=>hH.none e) ((w4.keep fun id e=>kk5 id (w4.nid e).1 (w4.nid e).2.1 (fun e1=>a14 id1 n1' (by rw [←e1]; exact e)) (fun e1=>(hys z4 (by simp)).1 id e1 e) (fun e1=>(hys z4 (by simp)).2 id e1 e)).bC fun _ e=>hH.none e) ⟨a12,a13,a14,a23,a24,a34⟩
   refine yK (X:= .agg (bT ({s.cases[i0] with state:=o.to}:aK) f' l')) ((show OwE 57 H K5 5 z1 _ from .inr ⟨id1,hg1,mkO ((o5 id1 n14).trans e1'')⟩).bC (fun _ e=>hH.none e)) hnx (fun k h1 h2 hk=>hlo k h1 h2 hk) fun hh=>⟨f',l',rfl,of5.bC (fun _ e=>hH.none e),ol5.bC (fun _ e=>hH.none e),fun k e1 e2=> ?_,fun w hw=>⟨fun k e1 e2=> ?_,fun k e1 e2=> ?_⟩⟩
   ·rcases ap4 k e2 with h|h
    ·exact (of'.nid e1).2.1 h
    ·rcases ap3 k e1 with h' |h'
     ·exact (ol.nid h).2.1 (sK.none h')
     ·exact hap k h' h
   ·rcases ap3 k e1 with h|h
    ·exact thr w hw k e2 (sK.none h)
    ·exact (hys w hw).1 k h e2
   ·rcases ap4 k e1 with h|h
    ·by_cases h1:k=id1
     ·subst h1; rw [e1'] at h; cases h
     ·have:=kk3 k (thr w hw k e2) h1 (fun e=>(hys w hw).1 k e e2)
      rw [h] at this;exact thr w hw k e2 this.symm
    ·exact (hys w hw).2 k h e2
  have k4' :(o.kind==4)=false:=by simp [p4]
  simp only [go_sem,k4'];have kkK:∀k,H k=none→H1 k≠none→K k=H1 k:=fun k _ b=>kK k b
  by_cases p5:o.kind=5
  ·have k5' :(o.kind==5)=true:=by simp [p5]
   simp only [go_sem,k5'];have hrv:0<o.review:=by
    simp only [fq,cX,Bool.and_eq_true] at hform;simpa [okD,p5] using hform.2.1.2
   obtain ⟨n,en⟩:∃n:Nat,o.review=((n:Nat):Int)+1:=⟨(o.review - 1).toNat,by omega⟩
   have w5:IntKind.i64.wrap (o.review - 1)=((n:Nat):Int):=by rw [bz _ (by have:=hr.2; omega)]; omega
   have hn5:n<s.reviews.length:=by
    have:fj s o=0:=by simpa [bD,hform,p5] using p0
    unfold fj at this;have e1:sU s.reviews o.review=s.reviews[n]? :=by unfold sU; rw [if_pos (by omega),show (o.review - 1).toNat=n by omega]
    rw [e1] at this
    by_cases hlt:n<s.reviews.length
    ·exact hlt
    ·rw [List.getElem?_eq_none (by omega)] at this; cases this
   have hnm:n<(s.reviews.map fP).length:=by simpa using hn5
   obtain ⟨id2,hg2,o2⟩:=w2.ow (by intro e; rw [e] at hnm; cases hnm)
   have o2' :=o2;obtain ⟨cap,rest,ey,hid,hrl,hcap,hsz⟩:=o2';have n24:id2≠i4:=hz4 id2 hg2;have n25:id2≠i5:=hz5 id2 hg2 o2.none;have hidK:=sK _ _ hid;simp only [go_sem,k5,k3,w5];refine (o2.sub sK).idx (U:=U) (e:=82) n rfl hnm (by simp only [go_sem]) (by decide) ?_
   simp only [go_sem,hidK];have e2:List.take (n*7+6) (aq (s.reviews.map fP)++rest)++ [.v (.bool false)]++List.drop (n*7+6+1) (aq (s.reviews.map fP)++rest)=aq ((s.reviews.modify n fun r=> {r with isOpen:=false}).map fP)++rest:=by
    refine (jJ hsz n hnm 6 [.v (.bool false)] (Uf rfl)).trans ?_
    congr 2
    refine List.ext_getElem (by simp) fun j h1 h2=> ?_
    by_cases e:j=n
    ·subst e; simp [fP,AV.cells,Ab.over]
    ·rw [List.getElem_set_ne (Ne.symm e)]; simp [Ne.symm e]
   rw [e2];refine ⟨by rw [Uk,aU hsz]; omega, ?_⟩
   have k5b:∀b,upd K id2 b i5=_:=fun b=>(ag _ _ n25.symm).trans k5
   have k4b:∀b,upd K id2 b i4=_:=fun b=>(ag _ _ n24.symm).trans k4
   simp only [go_sem,k5b,k4b];have hdo:doD aN s o= {s with reviews:=s.reviews.modify n fun r=> {r with isOpen:=false}}:=by simp [doD,p5,en]
   have kz:∀a b k,H k=none→H1 k≠none→nid z2≠some k→upd (upd K id2 a) i4 b k=H1 k:=fun a b k c d e=>by rw [ag _ _ (hz4 k c),ag _ _ (fun e' =>e (by rw [e']; exact o2.nid)),kK k d]
   refine .mk _ (.refl _) (.refl _) ⟨(Sub.put (i:=id2) sg (hH.none hg2) _).put h4' _,_, ?_,fun _=>hi0⟩
   rw [hdo];exact mu rfl hpp rfl ((hC.keepx (z:=z2) (by simp) a12 (kz _ _)).bC (fun _ e=>hH.none e)) (.inr ⟨id2,hH.none hg2,cap,rest,by rw [ey]; simp,by rw [ag _ _ n24,ah],by rw [hrl]; simp,by simpa using hcap,bh (f:=fP) (n:=7) (fun _=>rfl) _⟩) ((w3.keep fun id e=>kz _ _ id (w3.nid e).1 (w3.nid e).2.1 fun e1=>a23 id e1 e).bC fun _ e=>hH.none e) ((w4.keep fun id e=>kz _ _ id (w4.nid e).1 (w4.nid e).2.1 fun e1=>a24 id e1 e).bC fun _ e=>hH.none e) ⟨a12,a13,a14,a23,a24,a34⟩
  have k5' :(o.kind==5)=false:=by simp [p5]
  simp only [go_sem,k5']
  by_cases p6:o.kind=6
  ·have k6' :(o.kind==6)=true:=by simp [p6]
   simp only [go_sem,k6'];simp only [go_sem,k5,k3];have hha6:=BT hSK.rd o.case o.field (Nat.le_trans hf.roles (by decide))
   rw [hpp,hcC] at hha6;simp only [List.cons_append,List.nil_append] at hha6;refine hha6.pthen ?_;cases dha:uG s.roles ⟨o.case,o.field⟩
   ·simp only [go_sem]
    simp only [go_sem,k5,k3];have hap1:Rd K 2 (.sl [dD ⟨o.case,o.field⟩] .full) [dD ⟨o.case,o.field⟩]:= .sl (by intro z hz; rw [List.mem_singleton.1 hz]; rfl) .full
    have hfr:=hf.roles;refine OwE.app (U:=U) (tb:=71) (w4.sub sK) (s1.trans sK) hap1 (by simp only [go_sem]) (by decide) (by simp only [go_sem,ne_eq,not_false_eq_true]) (by simp only [go_sem]) (by simp) (by simp only [go_sem,List.length_cons,List.length_nil,Ug]; omega) fun id4 y' K3 g4' hor hw ho2=> ?_
    have hor' :K id4=none∨nid z4=some id4:=by
     rcases hor with hor|⟨l,c,ey⟩
     ·exact .inl hor
     ·exact .inr (by rw [ey]; rfl)
    have n44:i4≠id4:=fun e=>by rw [←e,g4] at g4'; cases g4'
    have n45:i5≠id4:=fun e=>by
     rcases hor' with hor|hor
     ·rw [←e,k5] at hor; cases hor
     ·exact (w4.nid hor).2.1 (by rw [←e]; exact h5)
    have m4:K3 i4=_:=(ho2 i4 n44).trans k4;have m5:K3 i5=_:=(ho2 i5 n45).trans k5;simp only [go_sem,m5,hw.rd.fit,hw.rd.cells];simp only [go_sem,aj,n54,m4];have hdo:doD aN s o= {s with roles:=s.roles++ [⟨o.case,o.field⟩]}:=by simp [doD,p6,dha]
    have gid4:g id4=none:=hH.none g4';have kz:∀a b k,H k=none→H1 k≠none→nid z4≠some k→upd (upd K3 i5 a) i4 b k=H1 k:=fun a b k c d e=>by
     have:k≠id4:=fun e' =>by
      rcases hor' with hor|hor
      ·have:=kK k d; rw [e',hor] at this; exact d (by rw [e']; exact this.symm)
      ·exact e (by rw [e']; exact hor)
     rw [ag _ _ (hz4 k c),ag _ _ (hz5 k c d),ho2 k this,kK k d]
    have sg3:Ab.Sub g K3:=fun k b hk=>by rw [ho2 k (fun e=>by rw [e,gid4] at hk; cases hk)]; exact sg _ _ hk
    refine .mk _ (.refl _) (.refl _) ⟨(sg3.put g5 _).put h4' _,_, ?_,fun _=>hi0⟩
    rw [hdo];have hw' :OwE 71 g K3 2 y' ((s.roles++ [(⟨o.case,o.field⟩:gj)]).map dD):=by rw [List.map_append]; exact .inr ⟨id4,gid4,hw⟩
    have hry:∀k,nid y' =some k→H1 k=none∨nid z4=some k:=fun k e=>by
     have:id4=k:=by have:=hw.nid; rw [e] at this; exact (Option.some.inj this).symm
     subst this;exact hor'.imp (fun h=>sK.none h) id
    have har:∀ {w:AV},apart w z4→(∀k,nid w=some k→H1 k≠none)→apart w y' :=fun ha hh k e1 e2=>(hry k e2).elim (fun h=>hh k e1 h) (fun h=>ha k e1 h)
    refine mu rfl hpp rfl ((hC.move (z:=z4) (by simp) a14 (kz _ _) fun w hw k e=> ?_).bC (fun _ e=>hH.none e)) ((w2.keep fun id e=>kz _ _ id (w2.nid e).1 (w2.nid e).2.1 fun e1=>a24 id e e1).bC fun _ e=>hH.none e) ((w3.keep fun id e=>kz _ _ id (w3.nid e).1 (w3.nid e).2.1 fun e1=>a34 id e e1).bC fun _ e=>hH.none e) (hw'.keep fun id e=> ?_) ⟨a12,a13,har a14 fun k e=>(w1.nid e).2.1,a23,har a24 fun k e=>(w2.nid e).2.1,har a34 fun k e=>(w3.nid e).2.1⟩
    ·simp only [List.mem_cons,List.not_mem_nil,or_false] at hw
     rcases hw with rfl|rfl|rfl|rfl
     ·exact .inr ⟨w,by simp,e⟩
     ·exact .inr ⟨w,by simp,e⟩
     ·exact .inr ⟨w,by simp,e⟩
     ·exact (hry k e).imp id fun h=>⟨z4,by simp,h⟩
    ·have:id=id4:=by have:=hw.nid; rw [e] at this; exact Option.some.inj this
     rw [this,ag _ _ n44.symm,ag _ _ n45.symm]
   ·simp only [go_sem]
    simp only [go_sem,k5,k4];have hdo:doD aN s o=s:=by simp [doD,p6,dha]
    rw [hdo];refine .mk _ (.refl _) (.refl _) ⟨sg.put h4' _,_,(hS.keepb fun k hk hk1=> ?_).bC fun _ e=>hH.none e,fun _=>hi0⟩
    rw [ag _ _ (hz4 k hk),kK k hk1]
  have k6' :(o.kind==6)=false:=by simp [p6]
  simp only [go_sem,k6']
  by_cases p7:o.kind=7
  ·have k7' :(o.kind==7)=true:=by simp [p7]
   simp only [go_sem,k7'];simp only [go_sem,k3];refine (vl o.text _ (he.sub sg)).pthen ?_;obtain ⟨⟨pp,e,a⟩,epp⟩:∃x,aN o.text=x:=⟨_,rfl⟩;obtain ⟨qid,qset,qalg,qtgt,qrules,qkids,qobls⟩:=pp;rw [epp];simp only [go_sem,iQ,aJ,aW];intro i9 h9;have n95:i5≠i9:=fun e=>by rw [←e,k5] at h9; cases h9
   have n94:i4≠i9:=fun e=>by rw [←e,k4] at h9; cases h9
   simp only [go_sem];have g9:g i9=none:=sg.none h9;have sg9:∀b,Ab.Sub g (upd K i9 b):=fun b=>sg.put g9 b
   have hz9:∀k,H1 k≠none→k≠i9:=fun k hk e=>hk (by have:=kK k hk; rw [e,h9] at this; rw [e]; exact this.symm)
   by_cases pe:e=0
   ·have de:(e==0)=true:=by simp [pe]
    have wv:IntKind.i64.wrap (s.version+1)=s.version+1:=bz _ (by omega)
    simp only [go_sem,de];simp only [go_sem,aj,n95,n94,n54,k5,k4,wv];have hdo:doD aN s o= {s with policy:= .mk qid qset qalg qtgt qrules qkids qobls,version:=s.version+1}:=by simp [doD,p7,epp,pe]
    have kz:∀a b c k,H k=none→H1 k≠none→upd (upd (upd K i9 a) i5 b) i4 c k=H1 k:=fun a b c k d e=>by rw [ag _ _ (hz4 k d),ag _ _ (hz5 k d e),ag _ _ (hz9 k e),kK k e]
    refine .mk _ (.refl _) (.refl _) ⟨((sg9 _).put g5 _).put h4' _,_, ?_,fun _=>hi0⟩
    rw [hdo];exact mu rfl rfl rfl ((hC.keepb (kz _ _ _)).bC (fun _ e=>hH.none e)) ((w2.keepb (kz _ _ _)).bC (fun _ e=>hH.none e)) ((w3.keepb (kz _ _ _)).bC (fun _ e=>hH.none e)) ((w4.keepb (kz _ _ _)).bC (fun _ e=>hH.none e)) ⟨a12,a13,a14,a23,a24,a34⟩
   ·have de:(e==0)=false:=by simp [pe]
    simp only [go_sem,de];simp only [go_sem,aj,n95,n94,k5,k4];have hdo:doD aN s o=s:=by simp [doD,p7,epp,pe]
    rw [hdo];refine .mk _ (.refl _) (.refl _) ⟨(sg9 _).put h4' _,_,(hS.keepb fun k hk hk1=> ?_).bC fun _ e=>hH.none e,fun _=>hi0⟩
    rw [ag _ _ (hz4 k hk),ag _ _ (hz9 k hk1),kK k hk1]
  have k7' :(o.kind==7)=false:=by simp [p7]
  simp only [go_sem,k7']
  by_cases p8:o.kind=8
  ·have k8' :(o.kind==8)=true:=by simp [p8]
   simp only [go_sem,k8'];have hrv:0<o.review∧o.review≤1099511627776:=by
    simp only [fq,cX,Bool.and_eq_true] at hform;simpa [okD,p8] using hform.2.1.2
   have htk:¬s.tick>1099511627776 - o.review:=by
    intro hgt;simp [bD,hform,p8,hgt] at p0
   have w8:IntKind.i64.wrap (s.tick+o.review)=s.tick+o.review:=bz _ (by have:=ht.1; omega)
   simp only [go_sem,k5,k3,w8];simp only [go_sem,aj,n54,k4];have hdo:doD aN s o= {s with tick:=s.tick+o.review}:=by simp [doD,p8]
   have kz:∀a b k,H k=none→H1 k≠none→upd (upd K i5 a) i4 b k=H1 k:=fun a b k c d=>by rw [ag _ _ (hz4 k c),ag _ _ (hz5 k c d),kK k d]
   refine .mk _ (.refl _) (.refl _) ⟨(sg.put g5 _).put h4' _,_, ?_,fun _=>hi0⟩
   rw [hdo];exact mu rfl hpp rfl ((hC.keepb (kz _ _)).bC (fun _ e=>hH.none e)) ((w2.keepb (kz _ _)).bC (fun _ e=>hH.none e)) ((w3.keepb (kz _ _)).bC (fun _ e=>hH.none e)) ((w4.keepb (kz _ _)).bC (fun _ e=>hH.none e)) ⟨a12,a13,a14,a23,a24,a34⟩
  have k8' :(o.kind==8)=false:=by simp [p8]
  simp only [go_sem,k8'];simp only [go_sem,k5,k4];have hdo:doD aN s o=s:=by simp [doD,p1,p3,p4,p5,p6,p7,p8]
  rw [hdo];refine .mk _ (.refl _) (.refl _) ⟨sg.put h4' _,_,(hS.keepb fun k hk hk1=> ?_).bC fun _ e=>hH.none e,fun _=>hi0⟩
  rw [ag _ _ (hz4 k hk),kK k hk1]
 ·have d0:(bD s o !=0)=true:=by simp [p0]
  simp only [go_sem,d0];simp only [go_sem,k5,k4];have hdone:dw aN s o=s:=by simp [dw,p0]
  rw [hdone];refine .mk _ (.refl _) (.refl _) ⟨sg.put h4' _,_,(hS.keepb fun k hk hk1=> ?_).bC fun _ e=>hH.none e,fun h=>(p0 h).elim⟩
  rw [ag _ _ (hz4 k hk),kK k hk1]
end Go.Proofs.YtmlhcdeamjkpjaaGreatDoor
