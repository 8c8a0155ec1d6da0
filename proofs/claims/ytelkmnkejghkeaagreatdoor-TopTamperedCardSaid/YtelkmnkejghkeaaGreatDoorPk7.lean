/- The law TopLog,TopTampered: pack 7 of its texts. -/
import Derived.Test.YtelkmnkejghkeaaGreatDoorPk1
import Derived.Test.YtelkmnkejghkeaaGreatDoorPk2
import Derived.Test.YtelkmnkejghkeaaGreatDoorPk3
import Derived.Test.YtelkmnkejghkeaaGreatDoorPk4
import Derived.Test.YtelkmnkejghkeaaGreatDoorPk5
import Derived.Test.YtelkmnkejghkeaaGreatDoorPk6
set_option linter.unusedSimpArgs false
set_option linter.unusedVariables false
set_option maxRecDepth 100000
namespace Go.Proofs.YtelkmnkejghkeaaGreatDoor
open Go Go.Ab Go.Bf Tryz
variable {h0 h:Heap}{x jid did k:Nat}{e:cr}{d:D}{spl spj:List Nat}
structure qB (h0 h:Heap) (x jid did:Nat) (e:cr) (d:D) (spl spj:List Nat):Prop where
 eng:jr h x jid did e spl spj
 disk:bR h did d
 ok:d.ok
 sub:Ab.Sub h0 h
 new:∀i∈x::did::jid::(spl++spj),h0 i=none
theorem qB.up{h':Heap}(w:qB h0 h x jid did e d spl spj)(hs:Ab.Sub h h'):qB h0 h' x jid did e d spl spj:=
 ⟨w.eng.sub hs,w.disk.keep hs.fX,w.ok,w.sub.trans hs,w.new⟩
theorem qB.doS(w:qB h0 h x jid did e d spl spj)(o:OpD)(hps:e.ps.length≤1000000)(hlg:e.log.length≤1000000)(hG:gG k e.s)(hk:k≤1000)(h64:oC o)(her:iB h0)(hok:(doE e d o).2.1.ok):
  ai prog 33 [.ptr x 0,opA o] h fun r h' =>r= .agg (mB (doE e d o).2.2)∧∃spl' spj',qB h0 h' x jid did (doE e d o).1 (doE e d o).2.1 spl' spj'∧Touch (x::did::jid::(spl++spj)) h h'∧(∀i∈x::did::jid::(spl' ++spj'),i∈x::did::jid::(spl++spj)∨h i=none):=
 (VM x jid did e d spl spj o h w.eng w.disk w.ok hps hlg hG hk h64 (her.sub w.sub)).mono fun r h' ⟨e1,spl',spj',a,b,c,f,g⟩=>by
  have hin:∀i∈x::did::jid::(spl' ++spj'),i∈x::did::jid::(spl++spj)∨h i=none:=fun i hi=>by
   simp only[List.mem_cons,List.mem_append]at hi⊢;rcases hi with hi|hi|hi|hi|hi
   ·exact .inl (.inl hi)
   ·exact .inl (.inr (.inl hi))
   ·exact .inl (.inr (.inr (.inl hi)))
   ·rcases f i hi with h1|h1|h1
    ·exact .inl (.inr (.inr (.inr (.inl h1))))
    ·exact .inl (.inr (.inr (.inr (.inr h1))))
    ·exact .inr h1
   ·rcases g i hi with h1|h1
    ·exact .inl (.inr (.inr (.inr (.inr h1))))
    ·exact .inr h1
  exact⟨e1,spl',spj',⟨a,b,hok,vV w.sub c w.new,fun i hi=>(hin i hi).elim (w.new i) w.sub.none⟩,c,hin⟩
theorem qB.fresh(w:qB h0 h x jid did e d spl spj){i:Nat}(hi:h i=none):i∉x::did::jid::(spl++spj):=fun hh=>SW w.eng w.disk i hh hi
end Go.Proofs.YtelkmnkejghkeaaGreatDoor
namespace Go.Bf
open Go Go.Ab Go.Proofs.YtelkmnkejghkeaaGreatDoor
def qw(e:cr)(d:D)(s:Txt):cr×D×Txt:=match fP s with
 |none=>(e,d,[119,104,97,116])
 |some o=>((doE e d o).1,(doE e d o).2.1,gH (doE e d o).2.2)
end Go.Bf
namespace Go.Proofs.YtelkmnkejghkeaaGreatDoor
open Go Go.Ab Go.Bf Tryz
theorem qB.line{h0 h:Heap}{x jid did:Nat}{e:cr}{d:D}{spl spj:List Nat}(w:qB h0 h x jid did e d spl spj)(s:Txt)(hl:s.length≤900000)(hps:e.ps.length≤1000000)(hlg:e.log.length≤1000000){k:Nat}(hG:gG k e.s)(hk:k≤1000)(her:iB h0)(ht:xF h0)(h64:∀o,fP s=some o→oC o)(hok:(qw e d s).2.1.ok)(hr:∀o,fP s=some o→FK (doE e d o).2.2):
  ai prog 12 [.ptr x 0,.s s] h fun r h' =>r= .s (qw e d s).2.2∧∃spl' spj',qB h0 h' x jid did (qw e d s).1 (qw e d s).2.1 spl' spj'∧Touch (x::did::jid::(spl++spj)) h h'∧(∀i∈x::did::jid::(spl' ++spj'),i∈x::did::jid::(spl++spj)∨h i=none):=by
 refine aeB func12 18 [.tmp 4] fun hwf=>?_
 simp only[go_sem];refine(zp s hl _ (her.sub w.sub)).pthen ?_;unfold Bt;cases eo:fP s with
 |none=>
  simp only[go_sem];intro i hi;simp only[go_sem,Option.isSome_none,Option.getD_none,opA,opC,rB,ah,ew];refine .mk _ (.refl _) (.aj hi) ⟨by unfold qw;rw[eo];rfl,spl,spj,by grind [qw],.refl _ _,fun j hj=> .inl hj⟩
 |some o=>
  have ee:qw e d s=((doE e d o).1,(doE e d o).2.1,gH (doE e d o).2.2):=by grind [qw]
  rw[ee]at hok;have hr:=hr o eo;have h64:=h64 o eo;simp only[go_sem];intro i hi;simp only[go_sem,Option.isSome_some,Option.getD_some,opA,opC,aS,ah,ew];generalize hH:upd h i _=H;have hsH:Ab.Sub h H:=by rw[←hH];exact .aj hi
  refine(show ai prog _ [.ptr x 0,opA o] _ _ from((w.up hsH).doS o hps hlg hG hk h64 her hok).mono fun r H2 ⟨er,spl',spj',w2,hT,hin⟩=>?_)
  subst er;simp only[go_sem];refine(Jr _ hr _ (ht.sub w2.sub)).pthen ?_;simp only[go_sem];exact .same (.refl _) ⟨by rw[ee];rfl,spl',spj',aeD,(Touch.of (S:=[]) hsH).trans hT,fun i hi=>(hin i hi).imp id hsH.none⟩
end Go.Proofs.YtelkmnkejghkeaaGreatDoor
namespace Go.Bf
open Go Go.Ab
def eqT(a b:gv):Bool:=eqL (eqL (eqL Pz)) a b
def eqR(r s:cQ):Bool:=r.id==s.id && (r.deny==s.deny && (eqT r.tgt s.tgt && (eqL SX r.cond s.cond && eqL ua r.obls s.obls)))
mutual
def eqP:bD→bD→Bool
 |.mk i1 s1 a1 t1 r1 k1 o1,.mk i2 s2 a2 t2 r2 k2 o2=>i1==i2 && (s1==s2 && (a1==a2 && (eqT t1 t2 && (eqL ua o1 o2 && (eqL eqR r1 r2 && eqK k1 k2)))))
def eqK:List bD→List bD→Bool
 | [],[]=>true
 |x::a,y::b=>eqP x y && eqK a b
 |_,_=>false
end
end Go.Bf
namespace Go.Bf
open Go Go.Ab Go.Proofs.YtelkmnkejghkeaaGreatDoor
theorem Pu{k n:Nat}{e:cr}{b:Txt}{sy:Nat}(o:OpD)(hd:e.down=false)(hG:gG k e.s)(hok:D.ok ⟨n,b,sy,0,false⟩):
  ∃e' b' sy' RR,doE e ⟨n,b,sy,0,false⟩ o=(e',⟨n,b',sy',0,false⟩,RR)∧D.ok ⟨n,b',sy',0,false⟩∧e'.down=false∧e'.ps.length≤e.ps.length+1∧e'.log.length≤e.log.length+1∧gG (k+1) e'.s∧
   (((aE e.s o).2.2.2≠0∧RR=(aE e.s o).2.1∧e' =e)∨((aE e.s o).2.2.2=0∧n<b.length+16+(hY o).length∧RR=DM 8∧e' =e)∨((aE e.s o).2.2.2=0∧b.length+16+(hY o).length≤n∧RR=(aE e.s o).2.1∧e' =uu e o)):=by
 have up:gG (k+1) e.s:={hG.tojB.up with ticks:=hG.ticks}
 have hl:(frame (dF e.ch o)).length=16+(hY o).length:=by grind [mK,dF,gT]
 by_cases hg:(aE e.s o).2.2.2=0
 case neg=>exact⟨e,b,sy,_,Rr _ hd hg,hok,hd,aeC,aeC,up,.inl ⟨hg,rfl,rfl⟩⟩
 by_cases hr:b.length+16+(hY o).length≤n
 ·refine⟨_,_,_,_,Ig (d:=⟨n,b,sy,0,false⟩) hd hg rfl rfl aeD,⟨?_,hok.2.1,Nat.le_refl _,hok.2.2.2⟩,rfl,aeJ,by simp[nv],rj o hG,.inr (.inr ⟨hg,hr,rfl,rfl⟩)⟩
  grind
 ·exact⟨e,b,sy,_,Ie (d:=⟨n,b,sy,0,false⟩) hd hg rfl aeD,hok,hd,aeC,aeC,up,.inr (.inl ⟨hg,aeC,rfl,rfl⟩)⟩
end Go.Bf
namespace Go.Proofs.YtelkmnkejghkeaaGreatDoor
open Go Go.Ab Go.Bf Tryz
theorem D7{k:Nat}{s:an}(h:jB k s)(o:OpD):M9 (aE s o).2.1.mark∧M9 (aE s o).2.2.1.mark:=by
 have hm:M9 (fR s o).1:=(xT _ _).m9;unfold aE;split
 ·exact⟨M9.na,M9.na⟩
 ·split
  ·exact⟨M9.na,M9.na⟩
  ·exact⟨hm,hm⟩
theorem qB.upd{h0 h:Heap}{x jid did:Nat}{e:cr}{d:D}{spl spj:List Nat}(w:qB h0 h x jid did e d spl spj){i:Nat}{cs:List AV}{t:TypeId}(b:Option Blk)(hi:h i=some (.obj cs t))(hn:i∉x::did::jid::(spl++spj))(h0i:h0 i=none)(t1:t≠92)(t2:t≠5):qB h0 (Ab.upd h i b) x jid did e d spl spj:=by obtain⟨yl,a,bb,c⟩:=w.eng;exact⟨⟨yl,by simp_all [ag,Ne.symm],bb.touch .upd aeD,c.touch .upd aeD aeD⟩,w.disk.upd hi t1 t2,w.ok,fun j k hj=>(by rw[ag _ _ aeD];exact w.sub _ _ hj),w.new⟩
end Go.Proofs.YtelkmnkejghkeaaGreatDoor
namespace Go.Bf
open Go Go.Ab Go.Proofs.YtelkmnkejghkeaaGreatDoor
variable {n sy sy' T:Nat}{e e':cr}{o:OpD}
def chL(c:BitVec 64)(l:List Txt):BitVec 64:=l.foldl kU c
def fk:BitVec 64→List Txt→List (BitVec 64)
 |_,[]=>[]
 |c,p::r=>kU c p::fk (kU c p) r
theorem gS:∀(l:List Txt) (c:BitVec 64),(fk c l).length=l.length
 | [],_=>rfl
 |_::l,c=>by simp[fk,gS l]
theorem uW:∀(l:List Txt) (c:BitVec 64) (i:Nat) (h:i<(fk c l).length),(fk c l)[i]=chL c (l.take (i+1))
 | [],_,i,h=>afs
 |p::l,c,0,h=>rfl
 |p::l,c,i+1,h=>uW l (kU c p) i (by grind [fk])
structure Jn (e:cr) (b:Txt):Prop where
 ok:C8 e
 b:b=frames e.ps
 len:∀p∈e.ps,9≤p.length∧p.length≤5008
 log:e.log.length=e.ps.length
theorem DJ:Jn (jj []) []:=⟨rfl,rfl,fun p hp=>(by cases hp),rfl⟩
theorem Mv{b:Txt}(hd:e.down=false)(h64:oC o)(hw:Jn e b){b' :Txt}{R:jk}(he:doE e ⟨n,b,sy,0,false⟩ o=(e',⟨n,b',sy',0,false⟩,R)):
  Jn e' b'∧(e'.ps=e.ps∨cN o=true∧e'.ps=e.ps++ [dF e.ch o])∧(sy=b.length→sy' =b'.length):=by
 have stay:e' =e→b' =b→sy' =sy→Jn e' b'∧(e'.ps=e.ps∨cN o=true∧e'.ps=e.ps++ [dF e.ch o])∧(sy=b.length→sy' =b'.length):=fun h1 h2 h3=>by
  subst h1 h2 h3;exact⟨hw,.inl rfl,fun h=>h⟩
 have hl:(frame (dF e.ch o)).length=16+(hY o).length:=by grind [mK,dF,gT]
 by_cases hg:(aE e.s o).2.2.2=0
 case neg=>
  rw[Rr _ hd hg]at he;injection he with h1 h2
  injection h2 with h2 _
  injection h2 with _ h3 h4
  exact stay h1.symm h3.symm h4.symm
 by_cases hr:b.length+16+(hY o).length≤n
 ·rw[Ig (d:=⟨n,b,sy,0,false⟩) hd hg rfl rfl aeD]at he
  injection he with h1 h2
  injection h2 with h2 _
  injection h2 with _ h3 h4
  subst h1 h3 h4;have hrl:=so (h:=e.ch) (mw (iK hg));refine⟨⟨SV hw.ok hg h64,?_,?_,?_⟩,.inr ⟨iK hg,rfl⟩,fun _=>rfl⟩
  ·show b++frame _=frames (e.ps++ [_])
   rw[wO,hw.b]
  ·intro p hp
   rcases List.mem_append.1 hp with hp|hp
   ·exact hw.len p hp
   grind
  ·simp[nv,hw.log]
 ·rw[Ie (d:=⟨n,b,sy,0,false⟩) hd hg rfl aeD]at he
  injection he with h1 h2
  injection h2 with h2 _
  injection h2 with _ h3 h4
  exact stay h1.symm h3.symm h4.symm
theorem NV(hf:OpF o)(ht:o.text.length≤T):(hY o).length≤T+400:=by unfold hY;simp only[aew];have h1:=iZ o.kind;have h2:=cZ o.subj;have h3:=cZ o.case;have h4:=cZ o.field;have h5:=cZ o.to;have h6:=yf hf.val;have h7:=iZ o.review;have h8:=cZ o.text;have h9:=cZ o.reason;have h10:=yf (v:=dM o.glass) (.inr (Ag _));have:=hf.subj;have:=hf.case;have:=hf.field;have:=hf.to;have:=hf.reason;omega
end Go.Bf
namespace Go.Proofs.YtelkmnkejghkeaaGreatDoor
open Go Go.Ab Go.Bf Tryz
theorem Aj:(U 76).sz=1:=aeR
theorem Hi(jid did:Nat)(ps:List (List UInt8))(down:Bool)(sp:List Nat)(h:Heap)(hj:JAt h 207 jid did ps down sp)(hl:ps.length≤1000000)(hp:∀p∈ps,p.length≤1000000):
  ai prog 55 [.ptr jid 0] h fun r h' =>OwE 76 h h' 1 r (ps.map dZ)∧Ab.Sub h h' :=by
 obtain⟨y,xs,a,b,c⟩:=hj;refine aeB func55 22 [.tmp 2] fun hwf=>?_
 obtain⟨qy,rfl⟩:=b.row;have hlen:=(c h).1;simp only[go_sem,a];refine .intro (fun m ρ g=>∃(i:Nat) (z:AV),OwE 76 h g 1 z ((ps.take i).map dZ)∧Ab.Sub h g∧i≤ps.length∧m=ps.length - i∧lk ρ 3=some z∧lk ρ 9=some (.sl xs qy)∧lk ρ 10=some (.i xs.length)∧lk ρ 11=some (.i i)) (ps.length - 0) ?_ ?_
 ·refine⟨0,_,.inl ⟨rfl,rfl⟩,.refl h,aeC,rfl,?_,?_,?_,?_⟩<;>simp only[go_sem]
 rintro m ρ g ⟨i,z,ha,hs,hi,rfl,r3,r9,r10,r11⟩
 by_cases hc:i<ps.length
 ·have d1:decide ((i:Int)<(xs.length:Int))=true:=decide_eq_true aeC
  have w1:IntKind.i64.wrap ((i:Int)+1)=((i+1:Nat):Int):=aeN;have hx:=(c g).2 i aeC hc;simp only[go_sem,r3,r9,r10,r11,d1];refine .at i aeC (by rw[hx.cells];rfl) ?_
  simp only[go_sem,r3,r9,r10,r11,hx.cells,hx.IN,and_self];refine(oW xs[i] ps[i] g hx aeD).pthen' ?_;simp only[go_sem,r3,r9,r10,r11];refine ha.app (U:=U) (tb:=76) hs (.sl (by intro v hv;rw[List.mem_singleton.1 hv];rfl) .full:Rd g 1 (.sl [dZ ps[i]] .full) [dZ ps[i]]) Aj aeG aeG aeR aeJ (by grind [OA]) fun id z' g2 h0i hid hw ho=>?_
  simp only[go_sem,r3,r9,r10,r11,w1];refine⟨_,?_,i+1,z',.inr ⟨id,h0i,agS⟩,fun j b hj=>?_,aeC,rfl,?_,?_,?_,?_⟩
  ·omega
  ·grind [Ab.Sub]
  all_goals simp only[go_sem,r3,r9,r10,r11,w1]
 ·obtain rfl:i=ps.length:=by omega
  have d1:decide ((ps.length:Int)<(xs.length:Int))=false:=decide_eq_false aeC;simp only[go_sem,r3,r9,r10,r11,d1];rw[List.take_length]at ha;exact .same (.refl _) ⟨ha,hs⟩
theorem DL(x jid did:Nat)(e:cr)(spl spj:List Nat)(h:Heap)(he:jr h x jid did e spl spj)(hl:e.ps.length≤1000000)(hp:∀p∈e.ps,p.length≤1000000):ai prog 21 [.ptr x 0] h fun r h' =>OwE 76 h h' 1 r (e.ps.map dZ)∧Ab.Sub h h' :=by
 obtain⟨yl,hx,hg,hj⟩:=he;have g:=hx;unfold lI at g;refine aeB func21 8 [.tmp 2] fun hwf=>?_
 simp only[go_sem,g];refine(Hi jid did e.ps e.down spj h hj hl hp).mono fun r h' ⟨w,hs⟩=>?_
 simp only[go_sem];exact .same (.refl _) ⟨w,hs⟩
def kJ(c:BitVec 64):AV:=.v (.int .u64 (c.toNat:Int))
theorem Ny(l:List cB):eqL ua l l=true:=yP rfl fun j _ _=>by simp[ua]
theorem Ky(l:List oA)(h9:∀d∈l,M9 d.mark)(hl:l.length≤1000000)(q1 q2:Perm)(h:Heap):ai prog 23 [.sl (l.map ldA) q1,.sl (l.map ldA) q2] h fun r h' =>r= .b true∧h' =h:=by
 refine aeB func23 81 [.tmp 4] fun hwf=>?_
 simp only[go_sem,aes,bne_self_eq_false];refine .intro (fun m ρ H=>∃(i:Nat),H=h∧i≤l.length∧m=l.length - i∧lk ρ 0=some (.sl (l.map ldA) q1)∧lk ρ 1=some (.sl (l.map ldA) q2)∧lk ρ 12=some (.i l.length)∧lk ρ 13=some (.i i)) l.length ?_ ?_
 ·refine⟨0,rfl,aeC,rfl,?_,?_,?_,?_⟩<;>simp only[go_sem]
  all_goals rfl
 rintro m ρ H ⟨i,rfl,hi,rfl,r0,r1,r12,r13⟩
 by_cases hlt:i<l.length
 ·have t1:decide ((i:Int)<(l.length:Int))=true:=decide_eq_true aeC
  have w1:IntKind.i64.wrap ((i:Int)+1)=((i+1:Nat):Int):=aeN;have m9:=h9 _ (aex hlt);obtain⟨d,ed⟩:∃d,l[i]=d:=⟨_,rfl⟩;rw[ed]at m9;have ix:=fun(K:AV→Prop)=>dR.eq (xs:=l.map ldA) (sz:=16) i aeD aeQ K
  rw[aet,ed]at ix;simp only[ldA,sS,opC,aN,ay,List.cons_append,List.nil_append]at ix;have qn:∀K,gu .neq (.complex .f64 (hbit d.mark.1) (hbit d.mark.2)) (.complex .f64 (hbit d.mark.1) (hbit d.mark.2)) K=K (.b false):=fun K=>by simp_all [BB,beq_self_eq_true]
  simp only[go_sem,r12,r13,t1,Bool.and_self,Bool.not_true];refine .quiet aeF ?_;simp only[go_sem,r0,r1,ix,bne_self_eq_false,beq_self_eq_true,Bool.and_self,Bool.not_true,and_self,reduceIte,qn];refine⟨_,show ai prog _ [ay d.obls,ay d.obls] _ _ from Hq _ _ _,?_⟩
  rw[Ny];simp only[go_sem,r13,w1];refine⟨_,?_,i+1,rfl,aeC,rfl,?_,?_,?_,?_⟩
  ·omega
  all_goals simp only[go_sem,r0,r1,r12]
 ·have t1:decide ((i:Int)<(l.length:Int))=false:=decide_eq_false aeC
  simp only[go_sem,r12,r13,t1];exact afp
theorem SE{k:Nat}{s:an}(hG:gG k s)(o:OpD):(aE s o).2.2.1.obls.length≤10000000∧M9 (aE s o).2.2.1.mark:=by
 refine⟨?_,(D7 hG.tojB o).2⟩;unfold aE;split
 ·exact agH
 ·split
  ·exact agH
  ·exact DR _ hG.mM
theorem DW:∀(l:List Txt) {e e' :cr} {k:Nat},lN e l=some e'→gG k e.s→(∀d∈e.log,d.obls.length≤10000000∧M9 d.mark)→(∀d∈e'.log,d.obls.length≤10000000∧M9 d.mark)
 | [],e,e',k,h,_,hl=>by cases h;omega
 |p::l,e,e',k,h,hG,hl=>by
  simp only[lN]at h;cases hs:kE e p with
  |none=>grind
  |some e1=>
   rw[hs]at h;refine DW l h (TL hs hG) fun d hd=>?_
   unfold kE at hs;cases hr:ji e p with
   |none=>grind
   |some o=>
    rw[hr]at hs;simp only at hs;split at hs
    ·cases hs
     rcases List.mem_append.1 hd with hd|hd
     ·grind
     grind [List.mem_singleton,SE]
    grind
theorem Th{e:cr}(he:C8 e):∀d∈e.log,d.obls.length≤10000000∧M9 d.mark:=
 DW e.ps (e' :={e with down:=false}) he sW (fun d hd=>by cases hd)
theorem Oh(y:cr){n:Nat}{B:Txt}(hW:Jn y B)(hdn:y.down=false)(hps:y.ps.length≤900)(d:D)(hdo:d.ok)(hop:d.bX=(⟨n,B,B.length,0,false⟩,0))(hsc:(scan d.b).1=y.ps)(did:Nat)(g H:Heap)(hdk:bR H did d)(hs:Ab.Sub g H)(hn:g did=none)(her:iB g):
  ai prog 17 [.ptr did 0] H fun r H' =>∃x jid spl spj,r= .tup [.ptr x 0,.i 0]∧qB g H' x jid did y ⟨n,B,B.length,0,false⟩ spl spj∧Keep did H H'∧(∀i∈x::jid::(spl++spj),H i=none):=
 (Oi d hdo did H hdk (her.sub hs) aeD).mono fun r H' ⟨h1,h2,h3⟩=>by
  have hok:=D.NF hdo;rw[hop]at h1 h3 hok;unfold vh at h3;have hy:vT y.ps=some y:=by
   have:=hW.ok;rw[this];obtain⟨_,_,_,_,_⟩:=y;cases hdn;rfl
  rw[hsc,hy]at h3;obtain⟨x,jid,spl,spj,a,b,c⟩:=h3;exact⟨x,jid,spl,spj,a,⟨b,h1,hok,Fs hs h2 hn,fun i hi=>by
   simp only[List.mem_cons]at hi c;rcases hi with rfl|rfl|hi
   ·exact hs.none (c _ (.inl rfl))
   ·omega
   ·exact hs.none (c _ (.inr hi))⟩,h2,c⟩
theorem oR.join{P:Program}{U:TypeId→TI}{n:Nat}{c:Code}{K:Exit→Env→Heap→Prop}{ρ:Env}{h:Heap}(ex:Exit)(I:Env→Heap→Prop)(hK:∀ρ' H',I ρ' H'→K ex ρ' H')(hc:∀K' :Exit→Env→Heap→Prop,(∀ρ' H',I ρ' H'→K' ex ρ' H')→oR P U n c ρ h K'):oR P U n c ρ h K:=hc K hK
theorem Gr{s:an}{o:OpD}(h:(aE s o).2.2.2≠0):(aE s o).1=s:=by
 unfold aE at h⊢
 grind
theorem DD{x:AV}(h:Dat U 22 x):∃l:List Txt,x= .sl (l.map .s) .no∧l.length≤maxLen∧∀s∈l,s.length≤maxLen:=h.list (e:=9) aeM fun y hy=>hy.QL aeM
theorem HA(q:Nat)(hq:q≤1048576)(did:Nat)(h0 h:Heap)(hdk:bR h did ⟨q,[],0,0,false⟩)(hs:Ab.Sub h0 h)(hn:h0 did=none)(her:iB h0):
  ai prog 17 [.ptr did 0] h fun r h' =>∃x jid spl spj,r= .tup [.ptr x 0,.i 0]∧qB h0 h' x jid did (jj []) ⟨q,[],0,0,false⟩ spl spj∧Keep did h h'∧(∀i∈x::jid::(spl++spj),h i=none):=
 Oh (jj []) DJ rfl aeG ⟨q,[],0,0,false⟩ ⟨Nat.zero_le _,hq,Nat.zero_le _,(by decide:(0:Nat)<9223372036854775808)⟩ aeR (by rw[Oe];rfl) did h0 h hdk hs hn her
end Go.Proofs.YtelkmnkejghkeaaGreatDoor
namespace Go.Bf
open Go Go.Ab Go.Proofs.YtelkmnkejghkeaaGreatDoor
variable {s:an}{o:OpD}{l:List cM}
theorem jT:i64 0:=⟨aeG,aeG⟩
theorem MR:i64 1:=⟨aeG,aeG⟩
theorem Wv(neg:Bool)(s:Txt):i64 (fc neg s).1:=by
 unfold fc;simp only;split
 ·exact aiK
 ·generalize (if neg=true then -(mI (s.takeWhile dgt):Int)else(mI (s.takeWhile dgt):Int))=v
  split
  ·assumption
  ·exact aiK
theorem L8(s:Txt):i64 (bM s).1.n:=by grind [bM,Wv,jT]
theorem GL:∀(f:Nat) (s:Txt) (a:Nat) (out l:List qC),qF f s a out= .ok l→(∀t∈out,i64 t.n)→∀t∈l,i64 t.n
 |0,_,_,_,_,h,_=>by grind [qF]
 |f+1,[],a,out,l,h,ho=>by
  grind [qF,Lexed.ok.injEq,List.mem_singleton,jT]
 |f+1,c::r,a,out,l,h,ho=>by
  simp only[qF]at h;split at h
  ·exact GL f r _ _ l h ho
  ·split at h
   ·cases h
   ·refine GL f _ _ _ l h fun t ht=>?_
    grind [List.mem_singleton,L8]
theorem Wn(s:Txt):i64 (fY s).1.kind∧i64 (fY s).1.n:=by
 have hk:∀k:Nat,k≤5→i64 (k:Int):=fun k h=>⟨aeC,aeC⟩
 unfold fY;cases h:pR s with
 |bad e a=>exact⟨jT,jT⟩
 |ok ts=>
  have ht:∀t∈ts,i64 t.n:=by
   grind [pR,GL]
  simp only;split
  ·have hd:i64 (ts.headD ⟨0,0,0,[]⟩).n:=by
    cases ts with
    |nil=>grind
    |cons a b=>grind
   unfold AR
   (repeat' split)<;>first|exact⟨hk 2 aeG,hd⟩|exact⟨hk 4 aeG,hd⟩|exact⟨hk 5 aeG,hd⟩|exact⟨hk 3 aeG,hd⟩|exact⟨MR,MR⟩|exact⟨MR,jT⟩|exact⟨jT,jT⟩
  ·exact⟨jT,jT⟩
theorem To(s:Txt):i64 (Go.Bf.CL s):=by
 unfold Go.Bf.CL;split
 ·exact aiK
 ·rename_i h
  have h1:∀c∈s,dgt c=true:=aeD;have h2:=Ib s h1;have h3:10 ^ s.length≤10 ^ 9:=Nat.pow_le_pow_right aeG aeC;constructor<;>omega
theorem WB(k:Int)(hk:0≤k∧k≤8)(a b:Txt)(g:Bool)(s:Txt):oC (opL k a b g s).1:=by
 have hk:i64 k:=by constructor<;>omega
 have z:i64 aq.kind∧i64 aq.n:=⟨jT,jT⟩;have h1:=Wn (di (di s).2).2;have h2:=To s;unfold opL
 (repeat' split)<;>first|exact⟨hk,z.1,z.2,jT⟩|exact⟨hk,h1.1,h1.2,jT⟩|exact⟨hk,z.1,z.2,h2⟩
theorem GO{s:Txt}(h:fP s=some o):oC o:=by
 unfold fP at h;split at h
 ·cases h
  exact WB _ (wZ _) _ _ _ _
 grind
theorem NC(k:Int)(a b:Txt)(g:Bool)(s:Txt):(opL k a b g s).1.text.length≤s.length:=by
 unfold opL
 grind
theorem Gp(s:Txt):(oI s).2.2.length≤s.length:=by
 unfold oI;split
 ·grind [lg,List.length_drop]
 simp
theorem Kw{s:Txt}(h:fP s=some o):cN o=true∧o.text.length≤s.length:=by
 unfold fP at h;split at h
 ·rename_i h1
  grind [KT,NC,uq,di,oI,lg,Gp]
 grind
def kT(s:an):Prop:=∀c∈s.cases,∀f∈c.fields,inV f.val
theorem OG:kT th:=fun c hc=>by cases hc
theorem HK(h:∀f∈l,inV f.val)(n:Txt):inV (dU l n):=by
 unfold dU;split
 ·grind
 ·exact aiK
theorem Lw(h:kT s)(id n:Txt):inV (dU (bw s.cases id).fields n):=by
 refine HK (fun f hf=>?_) n
 unfold bw at hf;split at hf
 ·rw[List.getD_eq_getElem?_getD]at hf
  cases hg:s.cases[findD s.cases id]? with
  |none=>rw[hg]at hf;cases hf
  |some c=>rw[hg]at hf;exact h c (List.mem_of_getElem? hg) f hf
 ·cases hf
theorem HM(h:∀f∈l,inV f.val)(n:Txt){v:bu}(hv:inV v):∀f∈eO l n v,inV f.val:=by
 intro f hf;unfold eO at hf
 grind
theorem Q0(h:kT s)(ho:inV o.val):kT (cR aQ s o):=by
 unfold cR;split
 ·unfold doD
  simp only;intro c hc;split at hc
  ·simp only[List.mem_append,List.mem_singleton]at hc
   rcases hc with(hc|rfl)|hc
   ·exact h c (List.mem_of_mem_take hc)
   ·intro f hf;cases hf
   ·exact h c (List.mem_of_mem_drop hc)
  ·split at hc
   ·rcases mem_modify hc with hc|⟨hi,rfl⟩
    ·exact h c hc
    ·exact HM (h _ (aex hi)) _ ho
   ·split at hc
    ·exact akl
    ·(repeat' split at hc)<;>exact h c hc
 omega
theorem Lx{d:Bool}(x:cB)(h:kT s):kT (fy o d s x):=by
 unfold fy;split
 ·unfold iL
  split
  ·intro c hc
   exact akl
  omega
 ·(repeat' split)<;>exact h
theorem xB{o:OpD}{d:Bool}:∀(l:List cB) {s:an},kT s→kT (dj s o l d)
 | [],_,h=>h
 |x::l,_,h=>xB l (Lx x h)
theorem HL(h:kT s)(ho:inV o.val):kT (aE s o).1:=by grind [aE,cL,kT,dY,bX,xB,Q0]
theorem Qz{k:Nat}(hG:jB k s)(hv:kT s)(o:OpD):FK (aE s o).2.1:=by
 refine⟨(D7 hG o).1,?_,?_,?_⟩
 ·grind [aE,jL,rF,bI,bT,fB,nJ]
 ·have hp:cN o=true→0≤(aQ o.text).2.2∧(aQ o.text).2.2≤4096:=fun hf=>by
   have:=(mw hf).text;rcases rF o.text with h|h<;>omega
  have h0:(0:Int)≤0∧(0:Int)≤4096:=aeG;have:0≤(aE s o).2.1.at_∧(aE s o).2.1.at_≤4096:=by
   unfold aE;split
   ·grind [jL,bI]
   ·split<;>exact h0
  omega
 ·unfold aE
  split
  ·exact aiK
  ·split
   ·exact aiK
   ·unfold nJ
    simp only;split
    ·grind [Lw]
    ·exact aiK
def Xb:Txt:=[119,104,97,116]
def LY(s:an)(q:Txt):Txt:=match fP q with
 |none=>Xb
 |some o=>gH (aE s o).2.1
def fJ(e:cr)(q:Txt):cr:=match fP q with
 |none=>e
 |some o=>if(aE e.s o).2.2.2=0 then uu e o else e
def EB(s:an)(q:Txt):an:=match fP q with
 |none=>s
 |some o=>(aE s o).1
def iu(l:List Txt):cr:=l.foldl fJ (jj [])
theorem KY(l:List Txt)(q:Txt):iu (l++ [q])=fJ (iu l) q:=by simp[iu]
theorem sr(l:List Txt)(i:Nat)(h:i<l.length):iu (l.take (i+1))=fJ (iu (l.take i)) l[i]:=by rw[List.take_succ_eq_append_getElem h,KY]
theorem tj(e:cr)(q:Txt):(fJ e q).s=EB e.s q:=by
 unfold fJ EB;cases fP q with
 |none=>rfl
 |some o=>
  simp only;split
  ·rfl
  grind [Gr]
theorem EC(e:cr)(q:Txt)(B:Nat)(h:∀o,fP q=some o→(hY o).length≤B):(frames (fJ e q).ps).length≤(frames e.ps).length+(16+B):=by
 unfold fJ;cases eo:fP q with
 |none=>simp
 |some o=>
  simp only;split
  ·have hl:(frame (dF e.ch o)).length=16+(hY o).length:=by grind [mK,dF,gT]
   show(frames (e.ps++ [dF e.ch o])).length≤_
   grind [wO,aew]
  omega
theorem Er{q:Txt}(hq:q.length≤600):∀o,fP q=some o→(hY o).length≤1000:=fun o ho=>by
 have h:=Kw ho;exact NV (mw h.1) aeC
theorem QB(l:List Txt)(h:∀q∈l,q.length≤600):(frames (iu l).ps).length≤1016*l.length:=by
 have go:∀(l:List Txt) (e:cr),(∀q∈l,q.length≤600)→(frames (l.foldl fJ e).ps).length≤(frames e.ps).length+1016*l.length:=by
  intro l
  induction l with
  |nil=>simp
  |cons q l ih=>
   intro e hq;have h1:=ih (fJ e q) fun r hr=>hq r aeD
   have h2:=EC e q 1000 (Er (hq q aeJ));simp only[List.foldl_cons,List.length_cons];omega
 have:=go l (jj []) h;simpa[iu,jj,frames]using this
end Go.Bf
namespace Go.Proofs.YtelkmnkejghkeaaGreatDoor
open Go Go.Ab Go.Bf Tryz
variable {n k x jid did:Nat}{g h:Heap}{e:cr}{spl spj:List Nat}
structure mq (n k:Nat) (g h:Heap) (x jid did:Nat) (e:cr) (spl spj:List Nat):Prop where
 w:qB g h x jid did e ⟨n,frames e.ps,(frames e.ps).length,0,false⟩ spl spj
 hW:Jn e (frames e.ps)
 hG:gG k e.s
 hV:kT e.s
 hdn:e.down=false
 hps:e.ps.length≤k
theorem mq.up{h':Heap}(w:mq n k g h x jid did e spl spj)(hs:Ab.Sub h h'):mq n k g h' x jid did e spl spj:=
 ⟨w.w.up hs,w.hW,w.hG,w.hV,w.hdn,w.hps⟩
theorem mq.line(w:mq n k g h x jid did e spl spj)(q:Txt)(hq:q.length≤600)(hk:k≤900)(her:iB g)(ht:xF g)(hr:∀o,fP q=some o→(frames e.ps).length+16+(hY o).length≤n):
  ai prog 12 [.ptr x 0,.s q] h fun r h' =>r= .s (LY e.s q)∧∃spl' spj',mq n (k+1) g h' x jid did (fJ e q) spl' spj'∧Touch (x::did::jid::(spl++spj)) h h'∧(∀i∈x::did::jid::(spl' ++spj'),i∈x::did::jid::(spl++spj)∨h i=none):=by
 obtain⟨w,hW,hG,hV,hdn,hps⟩:=w;have hlg:=hW.log;cases eo:fP q with
 |none=>
  have el:qw e ⟨n,frames e.ps,(frames e.ps).length,0,false⟩ q=(e,⟨n,frames e.ps,(frames e.ps).length,0,false⟩,[119,104,97,116]):=by grind [qw]
  refine(w.line q aeC aeC aeC hG aeC her ht (fun o e=>aeD) (by rw[el];exact w.ok) (fun o e=>aeD)).mono fun r h' ⟨er,spl',spj',w',hT,hin⟩=>?_
  rw[el]at w' er;have en:fJ e q=e:=by grind [fJ]
  rw[en];refine⟨by rw[er];unfold LY;rw[eo];rfl,spl',spj',⟨w',hW,{hG.tojB.up with ticks:=hG.ticks},hV,hdn,aeC⟩,hT,hin⟩
 |some o=>
  have h64:=GO eo;have hrt:=Qz hG.tojB hV o;have hr:=hr o eo;obtain⟨e',b',sy',RR,ed,hok,hdn',hps',hlg',hG',hways⟩:=Pu o hdn hG w.ok;obtain⟨hW',hp',hy'⟩:=Mv hdn h64 hW ed;have el:qw e ⟨n,frames e.ps,(frames e.ps).length,0,false⟩ q=(e',⟨n,b',sy',0,false⟩,gH RR):=by grind [qw]
  have hR:RR=(aE e.s o).2.1∧e' =fJ e q:=by
   unfold fJ
   grind
  obtain⟨rfl,rfl⟩:=hR;have hb:=hW'.b;have hy:=hy' rfl;subst hb;subst hy;refine(w.line q aeC aeC aeC hG aeC her ht (fun o' e=>aeD) aeD (fun o' e2=>?_)).mono fun r h' ⟨er,spl',spj',w',hT,hin⟩=>?_
  ·grind
  rw[el]at w' er;refine⟨by grind [LY],spl',spj',⟨w',hW',hG',?_,hdn',aeC⟩,hT,hin⟩
  rw[tj];unfold EB;rw[eo];exact HL hV h64.2.2.1
theorem mq.new(w:qB g h x jid did (jj []) ⟨n,[],0,0,false⟩ spl spj):mq n 0 g h x jid did (iu []) spl spj:=
 ⟨w,DJ,sW,OG,rfl,Nat.le_refl _⟩
theorem vY(n:Nat)(hn:n≤1048576)(h0 h:Heap)(hs:Ab.Sub h0 h)(her:iB h0):ai prog 6 [.i n] h fun r h' =>∃x jid did spl spj,r= .tup [.ptr x 0,.ptr did 0]∧mq n 0 h0 h' x jid did (iu []) spl spj∧Ab.Sub h h' :=by
 refine aeB func6 32 [.tmp 2,.tmp 3] fun hwf=>?_
 simp only[go_sem];refine(Mt n hn h).mono fun r h1 ⟨did,hd,er,hdk,s1⟩=>?_
 subst er;simp only[go_sem];refine(HA n hn did h0 h1 hdk (hs.trans s1) (hs.none hd) her).mono fun r h2 ⟨x,jid,spl,spj,er,w,hK,hnew⟩=>?_
 subst er;simp only[go_sem];exact .same (.refl _) ⟨x,jid,did,spl,spj,rfl,.new w,Fs s1 hK hd⟩
end Go.Proofs.YtelkmnkejghkeaaGreatDoor
namespace Go.Bf
open Go Go.Ab Go.Proofs.YtelkmnkejghkeaaGreatDoor
def awP:Txt:=[112,111,108,105,99,121,32,112,32,102,105,114,115,116,32,123,32,100,101,110,121,32,100,32,119,104,101,110,32,40,97,99,116,105,111,110,46,110,97,109,101,32,61,32,35,119,114,105,116,101,41,59,32,112,101,114,109,105,116,32,114,59,32,125]
def awL:List Txt:=[[97,110,110,32,110,101,119,32,99],[97,110,110,32,119,114,105,116,101,32,99,32,102,32,55],[97,110,110,32,112,111,108,105,99,121,32]++awP,[97,110,110,32,119,114,105,116,101,32,99,32,102,32,56],[98,111,98,32,114,101,97,100,32,99,32,102]]
def awW:List Txt:=[[111,107],[111,107],[111,107],[100,101,110,105,101,100,32,68,101,110,121],[111,107,32,55]]
def awO:Nat→Option OpD
 |0=>some ⟨1,[97,110,110],[99],[],[],aq,0,[],[],false⟩
 |1=>some ⟨3,[97,110,110],[99],[102],[],⟨2,7,[]⟩,0,[],[],false⟩
 |2=>some ⟨7,[97,110,110],[],[],[],aq,0,awP,[],false⟩
 |3=>some ⟨3,[97,110,110],[99],[102],[],⟨2,8,[]⟩,0,[],[],false⟩
 |4=>some ⟨2,[98,111,98],[99],[102],[],aq,0,[],[],false⟩
 |_=>none
def awS:Nat→an
 |0=>th
 |i+1=>match awO i with|none=>awS i|some o=>(aE (awS i) o).1
def Yx(i:Nat):Prop:=fP (awL.getD i [])=awO i∧match awO i with
 |none=>False
 |some o=>gH (aE (awS i) o).2.1=awW.getD i []∧(hY o).length≤200
theorem Rj:∀i,i<5→Yx i
 |0,_=>⟨aeR,aeR,aer aeR⟩
 |1,_=>⟨aeR,aeR,aer aeR⟩
 |2,_=>⟨aeR,aeR,aer aeR⟩
 |3,_=>⟨aeR,aeR,aer aeR⟩
 |4,_=>⟨aeR,aeF,aer aeR⟩
 |n+5,h=>aeC
theorem St:∀i,i<5→(awL.getD i []).length≤600:=aeG
theorem L5:∀i,i≤5→(iu (awL.take i)).s=awS i∧(frames (iu (awL.take i)).ps).length≤216*i
 |0,_=>⟨rfl,aeG⟩
 |i+1,h=>by
  obtain⟨h1,h2⟩:=L5 i aeC;obtain⟨h3,h4⟩:=Rj i aeC;have hl:awL.length=5:=rfl;have eg:awL.getD i []=awL[i]'aeC:=aeD;rw[sr awL i aeC,←eg];have h5:=EC (iu (awL.take i)) (awL.getD i []) 200 fun o ho=>by
   grind
  grind [tj,EB,awS,awO]
end Go.Bf
namespace Go.Proofs.YtelkmnkejghkeaaGreatDoor
open Go Go.Ab Go.Bf Tryz
def AwP(g:Heap)(x i:Nat)(h:Heap):Prop:=∃jid did spl spj,mq 4000 i g h x jid did (iu (awL.take i)) spl spj
theorem tT(g h:Heap)(her:iB g)(ht:xF g)(x i:Nat)(hi:i<5)(hp:AwP g x i h):ai prog 12 [.ptr x 0,.s (awL.getD i [])] h fun r h' =>r= .s (awW.getD i [])∧AwP g x (i+1) h'∧Ab.Sub g h' :=by
 obtain⟨jid,did,spl,spj,w⟩:=hp;obtain⟨h1,h2⟩:=L5 i aeC;obtain⟨h3,h4⟩:=Rj i hi;refine(w.line (awL.getD i []) (St i hi) aeC her ht fun o ho=>?_).mono fun r h' ⟨er,spl',spj',w',_,_⟩=>?_
 ·grind
 refine⟨?_,⟨jid,did,spl',spj',?_⟩,w'.w.sub⟩
 ·rw[er,h1]
  unfold LY
  grind
 grind [sr,awL]
theorem Dq(h:Heap)(he:iB h)(ht:xF h):ai prog 19 [] h fun r h' =>r= .b true∧h' =h:=
 ai.freeze fun g hgs _=>by
 have he:=he.sub hgs;have ht:=ht.sub hgs;refine aeB func19 40 [.tmp 0] fun hwf=>?_
 simp only[go_sem];refine(show ai prog _ [.i 4000] _ _ from(vY 4000 aeG g g (.refl _) he).mono fun r h1 ⟨x,jid,did,spl,spj,er,w,s1⟩=>?_)
 subst er;have hc:∀ρ:Env,ev ρ (.const (.string ⟨#[97,110,110,32,112,111,108,105,99,121,32,112,111,108,105,99,121,32,112,32,102,105,114,115,116,32,123,32,100,101,110,121,32,100,32,119,104,101,110,32,40,97,99,116,105,111,110,46,110,97,109,101,32,61,32,35,119,114,105,116,101,41,59,32,112,101,114,109,105,116,32,114,59,32,125]⟩))=some (.s ([97,110,110,32,112,111,108,105,99,121,32]++awP)):=fun ρ=>JP aeG
 simp only[go_sem,hc];refine(show ai prog _ [.ptr x 0,.s [97,110,110,32,110,101,119,32,99]] _ _ from(tT g h1 he ht x 0 aeC ⟨jid,did,spl,spj,w⟩).mono fun r h2 ⟨er,w,_⟩=>?_)
 replace er:r= .s [111,107]:=er;subst er;simp only[go_sem,hc];refine(show ai prog _ [.ptr x 0,.s [97,110,110,32,119,114,105,116,101,32,99,32,102,32,55]] _ _ from(tT g h2 he ht x 1 aeC w).mono fun r h3 ⟨er,w,_⟩=>?_)
 replace er:r= .s [111,107]:=er;subst er;simp only[go_sem,hc];refine(show ai prog _ [.ptr x 0,.s ([97,110,110,32,112,111,108,105,99,121,32]++awP)] _ _ from(tT g h3 he ht x 2 aeC w).mono fun r h4 ⟨er,w,_⟩=>?_)
 replace er:r= .s [111,107]:=er;subst er;simp only[go_sem];refine(show ai prog _ [.ptr x 0,.s [97,110,110,32,119,114,105,116,101,32,99,32,102,32,56]] _ _ from(tT g h4 he ht x 3 aeC w).mono fun r h5 ⟨er,w,_⟩=>?_)
 replace er:r= .s [100,101,110,105,101,100,32,68,101,110,121]:=er;subst er;simp only[go_sem];refine(show ai prog _ [.ptr x 0,.s [98,111,98,32,114,101,97,100,32,99,32,102]] _ _ from(tT g h5 he ht x 4 aeC w).mono fun r h6 ⟨er,_,s6⟩=>?_)
 replace er:r= .s [111,107,32,55]:=er;subst er;simp only[go_sem];exact .same (.refl _) ⟨s6,_,.pure rfl,rfl⟩
end Go.Proofs.YtelkmnkejghkeaaGreatDoor
namespace Go.Bf
open Go Go.Ab Go.Proofs.YtelkmnkejghkeaaGreatDoor
variable {l:List Txt}{n:Nat}
def jH(l:List Txt)(n:Nat):List Txt:=(l.take n).map fun q=>q.take 600
theorem Es:∀q∈jH l n,q.length≤600:=fun q hq=>by
 obtain⟨r,_,rfl⟩:=List.mem_map.1 hq
 grind
theorem Bu(l:List Txt)(n:Nat):(jH l n).length≤n:=by grind [jH,aes,List.length_take]
theorem GP{i:Nat}(h:i<l.length)(hn:i<n):jH (l.take (i+1)) n=jH (l.take i) n++ [l[i].take 600]:=by grind [jH,Nat.min_eq_right,List.take_succ_eq_append_getElem]
theorem Od{i:Nat}(hl:l.length≤40)(hq:∀q∈l,q.length≤600)(hi:i<l.length):∀o,fP l[i]=some o→(frames (iu (l.take i)).ps).length+16+(hY o).length≤200000:=fun o ho=>by
 have h1:=QB (l.take i) fun q h=>hq q (List.mem_of_mem_take h)
 rw[List.length_take]at h1;have h2:=Er (hq _ (aex hi)) o ho;omega
end Go.Bf
namespace Go.Proofs.YtelkmnkejghkeaaGreatDoor
open Go Go.Ab Go.Bf Tryz
theorem Et(l:List Txt)(n:Nat)(hn:n≤1000)(h:Heap):ai prog 7 [.sl (l.map .s) .no,.i n] h fun r h' =>r= .sl ((jH l n).map .s) .no∧h' =h:=by
 refine aeB func7 33 [.tmp 4] fun hwf=>?_
 simp only[go_sem];have hsz:(U 9).sz=1:=aeR;refine oR.wf fun hw=>?_
 refine .intro (fun m ρ H=>∃(i:Nat) (y:AV),Acc U 9 h H y ((jH (l.take i) n).map .s)∧i≤l.length∧i≤n∧m=l.length - i∧lk ρ 0=some (.sl (l.map .s) .no)∧lk ρ 1=some (.i n)∧lk ρ 5=some y∧lk ρ 6=some (.i i)) l.length ?_ ?_
 ·refine⟨0,.sl [] .full,by simpa[jH]using Acc.full (.refl _),aeC,aeC,rfl,?_,?_,?_,?_⟩<;>simp only[go_sem]
  all_goals rfl
 rintro m ρ H ⟨i,y,hy,hi,hin,rfl,r0,r1,r5,r6⟩
 obtain⟨q,eq⟩:=hy.row;subst eq
 by_cases hgo:i<l.length∧i<n
 ·have d1:decide ((i:Int)<(l.length:Int))=true:=decide_eq_true aeC
  have d2:decide ((i:Int)<(n:Int))=true:=decide_eq_true aeC;have w1:IntKind.i64.wrap ((i:Int)+1)=((i+1:Nat):Int):=aeN;have ix:=fun k=>dR.eq (xs:=l.map AV.s) (sz:=1) i aeD aeQ k
  rw[aet]at ix;have e:(if(600:Int)<(l[i].length:Int)then(600:Int)else(l[i].length:Int))=((min 600 l[i].length:Nat):Int):=aeC
  have et:l[i].take (min 600 l[i].length)=l[i].take 600:=aeJ;simp only[go_sem,r0,r1,r5,r6,aes,d1,d2];refine .calls cS [0,1,2,3,4,5,6,7,8,9,10,11,12,13,14] (fun _ _ e=>ae2) aeF rfl ?_
  simp only[go_sem,r0,r1,r5,r6,ix,e];refine⟨aeC,aeC,aeC,?_⟩;simp only[go_sem,Option.isSome_none,Option.isSome_some,tV,Int.toNat_natCast,et];refine hy.app (zs:=[.s (l[i].take 600)]) aeG aeG (fun k hk=>hk) (by intro z hz;obtain⟨a,_,rfl⟩:=List.mem_map.1 hz;rfl) afi (by simp only[go_sem,jH,aes,List.length_take,List.length_cons,List.length_nil]<;>omega) fun y' H' hy' kp=>?_
  refine⟨fun _ _ e=>ae2,?_⟩
  simp only[go_sem,r6,w1];refine⟨_,?_,i+1,y',by grind [GP],aeC,aeC,rfl,?_,?_,?_,?_⟩
  ·omega
  all_goals simp only[go_sem,r0,r1]
 ·have hall:jH (l.take i) n=jH l n:=by
   grind [jH,Nat.min_eq_left,List.take_of_length_le]
  rw[hall]at hy;cases d1:decide ((i:Int)<(l.length:Int))
  ·simp only[go_sem,r0,r5,r6,aes,d1]
   exact .mk _ (by rw[hall];exact .sl _ _) hy.1 ⟨rfl,rfl⟩
  ·have d2:decide ((i:Int)<(n:Int))=false:=decide_eq_false fun h3=>hgo ⟨aeD,aeC⟩
   simp only[go_sem,r0,r1,r5,r6,aes,d1,d2];exact .mk _ (by rw[hall];exact .sl _ _) hy.1 ⟨rfl,rfl⟩
theorem mq.step{g h:Heap}{x jid did:Nat}{l:List Txt}{i:Nat}{spl spj:List Nat}(hl:l.length≤40)(hq:∀q∈l,q.length≤600)(hi:i<l.length)(w:mq 200000 i g h x jid did (iu (l.take i)) spl spj)(her:iB g)(ht:xF g):
  ai prog 12 [.ptr x 0,.s l[i]] h fun r h' =>r= .s (LY (iu (l.take i)).s l[i])∧∃spl' spj',mq 200000 (i+1) g h' x jid did (iu (l.take (i+1))) spl' spj'∧Touch (x::did::jid::(spl++spj)) h h'∧(∀j∈x::did::jid::(spl' ++spj'),j∈x::did::jid::(spl++spj)∨h j=none):=by
 rw[sr l i hi];exact w.line l[i] aeD aeC her ht (Od hl hq hi)
end Go.Proofs.YtelkmnkejghkeaaGreatDoor
namespace Go.Bf
open Go Go.Ab Go.Proofs.YtelkmnkejghkeaaGreatDoor
theorem Nt(e:cr)(q:Txt):e.ps<+:(fJ e q).ps∧(fJ e q).ps.length≤e.ps.length+1:=by
 unfold fJ;cases fP q with
 |none=>simp
 |some o=>
  simp only;split
  ·grind [List.prefix_append,uu]
  simp
theorem DX:∀(l:List Txt) (e:cr),e.ps<+:(l.foldl fJ e).ps∧(l.foldl fJ e).ps.length≤e.ps.length+l.length
 | [],e=>aeJ
 |q::l,e=>by
  have h1:=Nt e q;have h2:=DX l (fJ e q);exact⟨h1.1.trans h2.1,aeD⟩
theorem K6(l:List Txt):(iu l).ps.length≤l.length:=by have:=(DX l (jj [])).2;simpa[iu,jj]using this
def Q1(d:oA):Bool:=d.op.kind==7 && d.mark==aY
theorem Gq{o:OpD}(hf:cN o=true)(h7:o.kind=7):o.glass=false:=by grind [cN,lE,tq]
theorem Lz{s:an}{o:OpD}(h:(aE s o).2.2.2=0):(aE s o).2.2.1.version=s.version∧(aE s o).2.2.1.op=o∧(aE s o).1.version=if Q1 (aE s o).2.2.1 then s.version+1 else s.version:=by
 unfold aE at h⊢;split at h
 ·rename_i h1;exact(h1 h).elim
 ·rename_i h1
  have hp:=rH (by omega:(jL s o).1=0)
  split at h
  ·cases h
  ·rename_i h2
   rw[if_neg h1,if_neg h2];refine⟨rfl,rfl,?_⟩;unfold cL;rw[(yJ _ _ _ _).2.2.2];have hv:(if dY s o=true then bX s o o.reason else s).version=s.version:=by split<;>rfl
   by_cases h7:o.kind=7
   ·have hg:dY s o=false:=by
     grind [dY,rW,Gq]
    unfold sU Q1;rw[hg]
    by_cases hm:(fR s o).1=aY
    ·simp[hm,h7]
     unfold cR;rw[if_pos hp.1];unfold doD;simp[h7,hp.2.2 h7]
    ·simp[hm,h7]
   ·have:Q1 ⟨o,s.version,(fR s o).1,dY s o,(fR s o).2⟩=false:=by grind [Q1]
    rw[this];simp only[Bool.false_eq_true,if_false];split
    ·rw[(Mw aQ _ o h7).2,hv]
    ·exact hv
structure ym (e:cr):Prop where
 len:e.ps.length=e.log.length
 ch:e.ch=chL 0#64 e.ps
 recs:∀i (h:i<e.ps.length) (h2:i<e.log.length),e.ps[i]=dF (chL 0#64 (e.ps.take i)) e.log[i].op
 ops:∀d∈e.log,oC d.op∧cN d.op=true
theorem Mi(c:BitVec 64)(l:List Txt)(p:Txt):chL c (l++ [p])=kU (chL c l) p:=by simp only[chL,List.foldl_append,List.foldl_cons,List.foldl_nil]
theorem KW{e:cr}(q:Txt)(h:ym e):ym (fJ e q):=by
 unfold fJ;cases eo:fP q with
 |none=>exact h
 |some o=>
  simp only;split
  ·rename_i h0
   have ho:=(Lz h0).2.1;have hl:=h.len;have hc:=h.ch;have e1:(uu e o).ps=e.ps++ [dF e.ch o]:=rfl;have e2:(uu e o).log=e.log++ [(aE e.s o).2.2.1]:=rfl;have e3:(uu e o).ch=kU e.ch (dF e.ch o):=by simp only[uu,nv]
   generalize uu e o=e' at e1 e2 e3;obtain⟨s',log',ch',ps',dn'⟩:=e';simp only at e1 e2 e3;subst e1 e2 e3;refine⟨by simp[hl],by rw[Mi,←hc],fun i h1 h2=>?_,fun d hd=>?_⟩
   rotate_left
   ·rcases List.mem_append.1 hd with hd|hd
    ·exact h.ops d hd
    ·rw[List.mem_singleton.1 hd,ho];exact⟨GO eo,iK h0⟩
   by_cases hi:i<e.ps.length
   ·simp only
    rw[List.getElem_append_left hi,List.getElem_append_left aeC,List.take_append_of_le_length aeC];exact h.recs i hi aeC
   ·simp only[aew,List.length_singleton]at h1
    have:i=e.ps.length:=aeC;subst this;have e4:(e.log++ [(aE e.s o).2.2.1])[e.ps.length]'h2=(aE e.s o).2.2.1:=by
     rw[List.getElem_append_right aeC];simp[hl]
    simp only[List.take_left,e4,ho,←hc];rw[List.getElem_append_right aeC];simp
  ·exact h
theorem N3(l:List Txt):ym (iu l):=by
 have go:∀(l:List Txt) (e:cr),ym e→ym (l.foldl fJ e):=by
  intro l
  induction l with
  |nil=>intro e h;exact h
  |cons q l ih=>intro e h;exact ih _ (KW q h)
 exact go l _ ⟨rfl,rfl,fun i h=>afs,fun d hd=>(by cases hd)⟩
def pI(s:List (BitVec 64))(i:Nat):BitVec 64:=if i=0 then 0#64 else s.getD (i - 1) 0#64
def oE(a b:List Txt)(i:Nat):Bool:=(fk 0#64 a).getD i 0#64==(fk 0#64 b).getD i 0#64 && (pI (fk 0#64 a) i !=pI (fk 0#64 b) i||a.getD i [] !=b.getD i [])
theorem tampered{a b:List Txt}(hl:a.length=b.length)(hs:fk 0#64 a=fk 0#64 b)(hc:∀i,i<a.length→oE a b i=false):a=b:=by
 refine List.ext_getElem hl fun i h1 h2=>?_
 have:=hc i h1;unfold oE at this;rw[hs,beq_self_eq_true,Bool.true_and,bne_self_eq_false,Bool.false_or]at this;have h3:(a.getD i []==b.getD i [])=true:=by simpa using this
 have h4:=eq_of_beq h3;rw[List.getD_eq_getElem?_getD,List.getD_eq_getElem?_getD,List.getElem?_eq_getElem h1,List.getElem?_eq_getElem h2]at h4;exact h4
theorem FZ(a:List Txt)(i:Nat):oE a a i=false:=by simp[oE]
end Go.Bf
namespace Go.Proofs.YtelkmnkejghkeaaGreatDoor
open Go Go.Ab Go.Bf Tryz
variable {n k x jid did:Nat}{g h:Heap}{e:cr}{spl spj S sp:List Nat}
def qK(ps:List Txt)(xs:List AV):Prop:=xs.length=ps.length∧∀i (h1:i<xs.length) (h2:i<ps.length),∃q,xs[i]= .sl (ps[i].map aJ) q
theorem mW(ps:List Txt):qK ps (ps.map dZ):=⟨aes ..,fun i h1 h2=>⟨.no,aet ..⟩⟩
theorem uX(ps:List Txt)(vs:List AV)(hv:qK ps vs)(y:AV)(h:Heap)(hr:Rd h 1 y vs)(hl:ps.length≤1000000)(hp:∀p∈ps,p.length≤1000000):ai prog 22 [y] h fun r h' =>r= .sl ((fk 0#64 ps).map kJ) .no∧h' =h:=by
 have st:∀i (hi:i<ps.length),fk 0#64 (ps.take (i+1))=fk 0#64 (ps.take i)++ [chL 0#64 (ps.take (i+1))]:=fun i hi=>by
  refine List.ext_getElem (by grind [gS]) fun j h1 h2=>?_
  rw[gS,List.length_take]at h1
  by_cases hj:j<i
  ·grind [List.getElem_append_left,gS,List.length_take,uW]
  grind [List.getElem_append_right,gS,List.length_take,uW]
 have hvl:=hv.1;refine aeB func22 22 [.tmp 2] fun hwf=>?_
 simp only[go_sem,hr.len,hvl];refine .intro (fun m ρ g=>∃(i:Nat) (z:AV),Acc U 74 h g z ((fk 0#64 (ps.take i)).map kJ)∧i≤ps.length∧m=ps.length - i∧lk ρ 3=some z∧lk ρ 4=some (kJ (chL 0#64 (ps.take i)))∧lk ρ 7=some y∧lk ρ 8=some (.i ps.length)∧lk ρ 9=some (.i i)) (ps.length - 0) ?_ ?_
 ·refine⟨0,_,.full (.refl h),aeC,rfl,?_,?_,?_,?_,?_⟩<;>simp only[go_sem]
  all_goals rfl
 rintro m ρ g ⟨i,z,ha,hi,rfl,r3,r4,r7,r8,r9⟩
 by_cases hc:i<ps.length
 ·have d1:decide ((i:Int)<(ps.length:Int))=true:=decide_eq_true aeC
  have w1:IntKind.i64.wrap ((i:Int)+1)=((i+1:Nat):Int):=aeN;obtain⟨qi,hxi⟩:=hv.2 i aeC hc;have hpl:=hp _ (aex hc);have ec:kU (chL 0#64 (ps.take i)) ps[i]=chL 0#64 (ps.take (i+1)):=by
   grind [List.take_succ_eq_append_getElem,chL]
  unfold kJ at r4;simp only[go_sem,r3,r4,r7,r8,r9,d1];refine(hr.sub ha.1).idx (U:=U) (e:=76) i rfl aeC Aj aeG fun p hp1=>?_
  have hld:=hp1.all (U:=U) (ty:=76) (by rw[Aj];decide) (by rw[Aj,hxi];rfl) (by rw[hxi];rfl)
  rw[hxi]at hld;simp only[go_sem,hld,r4];refine(Du _ _ ps[i] _ (.sl _ _) hpl).pthen ?_;rw[ec];simp only[go_sem,r3,r4,r7,r8,r9];refine ha.app (v:=.sl [kJ (chL 0#64 (ps.take (i+1)))] .full) (zs:=[kJ (chL 0#64 (ps.take (i+1)))]) aeG aeG (fun k hk=>hk) (by simp only[go_sem];intro v hv;obtain⟨c,_,rfl⟩:=List.mem_map.1 hv;rfl) (by simp only[go_sem];rfl) (by simp[gS];simp only[go_sem];omega) fun z' g2 ha' hk' =>?_
  simp only[go_sem,r3,r7,r8,r9,w1];refine⟨_,?_,i+1,z',aeD,aeC,rfl,?_,?_,?_,?_,?_⟩
  ·omega
  all_goals simp only[go_sem,r3,r7,r8]
  rfl
 ·obtain rfl:i=ps.length:=by omega
  have d1:decide ((ps.length:Int)<(ps.length:Int))=false:=decide_eq_false aeC;simp only[go_sem,r3,r7,r8,r9,d1];rw[List.take_length]at ha;obtain⟨q',rfl⟩:=ha.row;exact .mk _ (.sl _ _) ha.1 ⟨rfl,rfl⟩
theorem Di(ss:List (BitVec 64))(i:Nat)(hi:i<ss.length)(hl:ss.length≤1000000)(h:Heap):ai prog 66 [.sl (ss.map kJ) .no,.i i] h fun r h' =>r=kJ (pI ss i)∧h' =h:=by
 refine aeB func66 12 [.tmp 4] fun hwf=>?_
 by_cases h0:i=0
 ·subst h0
  have t1:(((0:Nat):Int)==0)=true:=rfl;simp only[go_sem,t1];exact aeL
 ·have t1:((i:Int)==0)=false:=by simp;omega
  have w1:IntKind.i64.wrap ((i:Int) - 1)=((i - 1:Nat):Int):=afF;have ix:=fun k=>dR.eq (xs:=ss.map kJ) (sz:=1) (i - 1) ae0 aeQ k
  rw[aet]at ix;have e:pI ss i=ss[i - 1]'aeC:=by
   unfold pI;rw[if_neg h0,List.getD_eq_getElem?_getD,List.getElem?_eq_getElem aeC];rfl
  rw[e];simp only[kJ]at ix⊢;simp only[go_sem,t1,w1,ix];exact aeL
theorem Dv(ps:List Txt)(vs:List AV)(hv:qK ps vs)(y:AV)(ss:List (BitVec 64))(h:Heap)(hr:Rd h 1 y vs)(hl:ps.length≤1000000)(hp:∀p∈ps,p.length≤1000000)(hs:ss.length=ps.length):ai prog 24 [y,.sl (ss.map kJ) .no] h fun r h' =>(∃n:Int,r= .i n∧(n= -1↔fk 0#64 ps=ss))∧h' =h:=by
 refine aeB func24 43 [.tmp 4] fun hwf=>?_
 simp only[go_sem];refine(uX ps vs hv y h hr hl hp).pthen ?_;have ho:=gS ps 0#64;obtain⟨os,eo⟩:∃os,fk 0#64 ps=os:=⟨_,rfl⟩;rw[eo]at ho⊢;have io:=fun(j:Nat) (hj:j<os.length) k=>dR.eq (xs:=os.map kJ) (sz:=1) j (by simpa using hj) aeQ k
 have is:=fun(j:Nat) (hj:j<ss.length) k=>dR.eq (xs:=ss.map kJ) (sz:=1) j (by simpa using hj) aeQ k
 simp only[aet,kJ]at io is;simp only[go_sem];refine .intro (fun m ρ H=>∃(i:Nat),H=h∧(∀j (h1:j<os.length) (h2:j<ss.length),j<i→os[j]=ss[j])∧i≤ps.length∧m=ps.length - i∧lk ρ 1=some (.sl (ss.map kJ) .no)∧lk ρ 5=some (.sl (os.map kJ) .no)∧lk ρ 6=some (.i i)) ps.length ?_ ?_
 ·refine⟨0,rfl,fun j _ _ h=>aeC,aeC,rfl,?_,?_,?_⟩<;>simp only[go_sem]
  all_goals rfl
 rintro m ρ H ⟨i,rfl,hP,hi,rfl,r1,r5,r6⟩
 by_cases hc:i<ps.length
 ·have d1:decide ((i:Int)<(ps.length:Int))=true:=decide_eq_true aeC
  have d2:decide ((ps.length:Int)≤(i:Int))=false:=decide_eq_false aeC;have w1:IntKind.i64.wrap ((i:Int)+1)=((i+1:Nat):Int):=aeN;simp only[go_sem,r1,r5,r6,aes,ho,hs,d1];refine⟨.of aeF,?_⟩;cases q1:((os[i].toNat:Int) !=(ss[i].toNat:Int))
  ·have e1:os[i]=ss[i]:=by
    have:(os[i].toNat:Int)=(ss[i].toNat:Int):=by simpa using q1
    exact BitVec.eq_of_toNat_eq aeC
   simp only[go_sem,r1,r5,r6,aes,ho,hs,d2,io i aeC,is i aeC,q1,w1];refine⟨_,?_,i+1,rfl,fun j h1 h2 h3=>?_,aeC,rfl,?_,?_,?_⟩
   ·omega
   ·by_cases e:j=i
    ·subst e;exact e1
    ·exact hP j aeC aeC aeC
   all_goals simp only[go_sem,r1,r5]
  ·have e1:os[i]≠ss[i]:=fun e=>by rw[e]at q1;simp at q1
   simp only[go_sem,r1,r5,r6,aes,ho,hs,d2,io i aeC,is i aeC,q1];exact .same (.refl _) ⟨⟨_,rfl,fun hh=>absurd hh aeC,fun hh=>(e1 (by subst hh;rfl)).elim⟩,rfl⟩
 ·obtain rfl:i=ps.length:=by omega
  have d1:decide ((ps.length:Int)<(ps.length:Int))=false:=decide_eq_false aeC;simp only[go_sem,r1,r5,r6,aes,ho,hs,d1];exact .same (.refl _) ⟨⟨_,rfl,fun _=>List.ext_getElem aeC fun j h1 h2=>hP j aeC h2 aeC,fun _=>rfl⟩,rfl⟩
theorem Mn(A B:List Txt)(vs ws:List AV)(hv:qK A vs)(hw:qK B ws)(y z:AV)(h:Heap)(ha:Rd h 1 y vs)(hb:Rd h 1 z ws)(hl:A.length≤1000000)(hB:B.length=A.length)(hpa:∀p∈A,p.length≤1000000)(hpb:∀p∈B,p.length≤1000000):ai prog 28 [y,z] h fun r h' =>(∃n:Int,r= .i n∧(n= -1↔∀i,i<A.length→oE A B i=false))∧h' =h:=by
 refine aeB func28 52 [.tmp 4] fun hwf=>?_
 simp only[go_sem];refine(uX A vs hv y h ha hl hpa).pthen ?_;simp only[go_sem];refine(uX B ws hw z h hb aeC hpb).pthen ?_;have hx:=gS A 0#64;have hy:=gS B 0#64;have hcl:∀i (h1:i<(fk 0#64 A).length) (h2:i<(fk 0#64 B).length) (h3:i<A.length) (h4:i<B.length),oE A B i=((fk 0#64 A)[i]==(fk 0#64 B)[i] && (pI (fk 0#64 A) i !=pI (fk 0#64 B) i||A[i] !=B[i])):=fun i h1 h2 h3 h4=>by
  unfold oE;rw[List.getD_eq_getElem?_getD,List.getD_eq_getElem?_getD,List.getD_eq_getElem?_getD,List.getD_eq_getElem?_getD,List.getElem?_eq_getElem h1,List.getElem?_eq_getElem h2,List.getElem?_eq_getElem h3,List.getElem?_eq_getElem h4];rfl
 obtain⟨xs,ex⟩:∃xs,fk 0#64 A=xs:=⟨_,rfl⟩;obtain⟨ys,ey⟩:∃ys,fk 0#64 B=ys:=⟨_,rfl⟩;rw[ex]at hx⊢;rw[ey]at hy⊢;simp only[ex,ey]at hcl;have ix:=fun(j:Nat) (hj:j<xs.length) k=>dR.eq (xs:=xs.map kJ) (sz:=1) j (by simpa using hj) aeQ k
 have iy:=fun(j:Nat) (hj:j<ys.length) k=>dR.eq (xs:=ys.map kJ) (sz:=1) j (by simpa using hj) aeQ k
 simp only[aet,kJ]at ix iy;have mm:(if(A.length:Int)<(A.length:Int)then(A.length:Int)else(A.length:Int))=(A.length:Int):=by split<;>rfl
 simp only[go_sem,aes,hx,hy,hB,mm];refine .intro (fun m ρ H=>∃(i:Nat),H=h∧(∀j,j<i→oE A B j=false)∧i≤A.length∧m=A.length - i∧lk ρ 0=some y∧lk ρ 1=some z∧lk ρ 5=some (.sl (xs.map kJ) .no)∧lk ρ 6=some (.sl (ys.map kJ) .no)∧lk ρ 16=some (.i A.length)∧lk ρ 17=some (.i i)) A.length ?_ ?_
 ·refine⟨0,rfl,fun j h=>aeC,aeC,rfl,?_,?_,?_,?_,?_,?_⟩<;>simp only[go_sem]
  all_goals rfl
 rintro m ρ H ⟨i,rfl,hP,hi,rfl,r0,r1,r5,r6,r16,r17⟩
 by_cases hc:i<A.length
 ·have d1:decide ((i:Int)<(A.length:Int))=true:=decide_eq_true aeC
  have w1:IntKind.i64.wrap ((i:Int)+1)=((i+1:Nat):Int):=aeN;have hci:=hcl i aeC aeC hc aeC;simp only[go_sem,r16,r17,d1];refine .quiet aeF ?_;have ixi:=ix i aeC;have iyi:=iy i aeC;have hPn:oE A B i=false→∀j,j<i+1→oE A B j=false:=fun hh j hj=>by
   by_cases e:j=i
   ·rw[e];exact hh
   ·exact hP j aeC
  have two:∀(a b:BitVec 64),(a==b)=((a.toNat:Int)==(b.toNat:Int)):=fun a b=>by
   by_cases e:a=b
   ·rw[e,beq_self_eq_true,beq_self_eq_true]
   ·rw[beq_eq_false_iff_ne.mpr e,beq_eq_false_iff_ne.mpr fun h2=>e (BitVec.eq_of_toNat_eq aeC)]
  rw[two,bne,two]at hci;cases q1:((xs[i].toNat:Int)==(ys[i].toNat:Int))
  ·rw[q1,Bool.false_and]at hci
   simp only[go_sem,r5,r6,r17,ixi,iyi,q1,w1];exact ajM
  rw[q1,Bool.true_and]at hci;simp only[go_sem,r5,r6,r17,ixi,iyi,q1];refine⟨_,Di xs i aeC aeC H,?_⟩;simp only[go_sem,r6,r17];refine⟨_,Di ys i aeC aeC H,?_⟩;obtain⟨u1,eu1⟩:∃u1,pI xs i=u1:=⟨_,rfl⟩;obtain⟨u2,eu2⟩:∃u2,pI ys i=u2:=⟨_,rfl⟩;simp only[eu1,eu2]at hci;simp only[eu1,eu2,kJ];cases q2:((u1.toNat:Int) !=(u2.toNat:Int))
  ·have hvl:=hv.1
   have hwl:=hw.1;obtain⟨qa,hxa⟩:=hv.2 i aeC hc;obtain⟨qb,hxb⟩:=hw.2 i aeC aeC;rw[show(!((u1.toNat:Int)==(u2.toNat:Int)))=false from q2,Bool.false_or]at hci
   simp only[go_sem,q2,r0,r1,r17];refine ha.idx (U:=U) (e:=76) i rfl aeC Aj aeG fun p hp1=>?_
   have hla:=hp1.all (U:=U) (ty:=76) (by rw[Aj];decide) (by rw[Aj,hxa];rfl) (by rw[hxa];rfl)
   rw[hxa]at hla;simp only[go_sem,hla,r1,r17];refine hb.idx (U:=U) (e:=76) i rfl aeC Aj aeG fun p2 hp2=>?_
   have hlb:=hp2.all (U:=U) (ty:=76) (by rw[Aj];decide) (by rw[Aj,hxb];rfl) (by rw[hxb];rfl)
   rw[hxb]at hlb;simp only[go_sem,hlb];refine⟨_,yC A[i] (B[i]'aeC) _ _ H,?_⟩;cases q3:decide (A[i]=B[i]'aeC)
   ·have hne:=aev q3
    rw[bne_iff_ne.mpr hne]at hci;simp only[go_sem,q1,q2,q3,r17];exact aj6
   ·have heq:=aeu q3
    rw[heq,bne_self_eq_false]at hci;simp only[go_sem,q1,q2,q3,r17,w1];exact ajM
  ·rw[show(!((u1.toNat:Int)==(u2.toNat:Int)))=true from q2,Bool.true_or]at hci
   simp only[go_sem,q1,q2,r17];exact aj6
 ·obtain rfl:i=A.length:=by omega
  have d1:decide ((A.length:Int)<(A.length:Int))=false:=decide_eq_false aeC;simp only[go_sem,r16,r17,d1];exact .same (.refl _) ⟨⟨_,rfl,fun _=>hP,fun _=>rfl⟩,rfl⟩
theorem mq.upd(w:mq n k g h x jid did e spl spj){i:Nat}{cs:List AV}(b:Option Blk)(hi:h i=some (.obj cs 41))(hn:i∉x::did::jid::(spl++spj))(hg:g i=none):mq n k g (Ab.upd h i b) x jid did e spl spj:=
 ⟨w.w.upd b hi hn hg aeG aeG,w.hW,w.hG,w.hV,w.hdn,w.hps⟩
theorem mq.touch{h':Heap}(w:mq n k g h x jid did e spl spj)(ht:Touch S h h')(hn:∀i∈S,i∉x::did::jid::(spl++spj))(hb:∀i∈S,∀cs t,h i≠some (.obj cs t))(hg:∀i∈S,g i=none):mq n k g h' x jid did e spl spj:=by obtain⟨⟨⟨yl,a,bb,c⟩,⟨y,hy,hb2⟩,ok,sub,new⟩,r2,r3,r4,r5,r6⟩:=w;exact⟨⟨⟨yl,ht _ _ aeD a,bb.touch ht aeD,c.touch ht aeD aeD⟩,⟨y,ht _ _ aeD hy,hb2.fX fun j cs t e=>ht _ _ (fun hj=>hb j hj cs t e) e⟩,ok,vV sub ht hg,new⟩,r2,r3,r4,r5,r6⟩
theorem jO.none{y:AV}{ds:List oA}(hg:jO h y ds sp):∀i∈sp,∀cs t,h i≠some (.obj cs t):=fun i hi cs t e=>by
 obtain⟨n,hn⟩:=hg.has i hi;rw[hn]at e;cases e
set_option maxHeartbeats 400000 in
theorem Lr(y:AV)(dy:Dat U 22 y)(h:Heap)(he:iB h)(ht:xF h):ai prog 4 [y] h fun r h' =>r= .b true∧h' =h:=
 ai.freeze fun g hgs _=>by
 have he:=he.sub hgs;have ht:=ht.sub hgs;obtain⟨l0,rfl,hl0,hls⟩:=DD dy;have hll:=Bu l0 40;have hlq:=Es (l:=l0) (n:=40);have hlo:=fun(G:Heap)=>Et l0 40 aeG G
 obtain⟨l,el⟩:∃l,jH l0 40=l:=⟨_,rfl⟩;rw[el]at hll hlq;simp only[el]at hlo;refine aeB func4 111 [.tmp 2] fun hwf=>?_
 simp only[go_sem];refine(show ai prog _ [.i 200000] _ _ from(vY 200000 aeG g g (.refl _) he).mono fun r h1 ⟨x,jid,did,spl,spj,er,w,s1⟩=>?_)
 subst er;simp only[go_sem];refine(Nr h1 (he.sub w.w.sub)).pthen ?_;rw[show cG th= .agg (eN th)from rfl,newL]
 simp only[go_sem];intro i9 h9;have n9:=w.w.fresh h9;have g9:g i9=none:=w.w.sub.none h9;simp only[go_sem];refine inH fun H1 w1=>?_
 have f9:H1 i9=some (.obj (eN th) 41):=by rw[w1,ah,newL]
 replace w:=w.up (show Ab.Sub h1 H1 by rw[w1];exact(Sub.refl h1).new h9 _)
 clear w1;refine(hlo H1).pthen ?_;simp only[go_sem,aes];refine oR.join (.exit 0) (fun ρ H=>∃(spl spj:List Nat) (z:AV) (sp:List Nat),mq 200000 l.length g H x jid did (iu l) spl spj∧jO H z (iu l).log sp∧lk ρ 3=some (.ptr x 0)∧lk ρ 6=some z) ?_ fun K1 hK1=>?_
 rotate_left
 ·refine .intro (fun m ρ H=>∃(i:Nat) (spl spj:List Nat) (z:AV) (sp:List Nat),mq 200000 i g H x jid did (iu (l.take i)) spl spj∧H i9=some (.obj (eN (iu (l.take i)).s) 41)∧i9∉x::did::jid::(spl++spj)∧jO H z (iu (l.take i)).log sp∧(∀j∈sp,j∉x::did::jid::(spl++spj)∧g j=none)∧i≤l.length∧m=l.length - i∧lk ρ 3=some (.ptr x 0)∧lk ρ 5=some (.ptr i9 0)∧lk ρ 6=some z∧lk ρ 27=some (.sl (l.map .s) .no)∧lk ρ 28=some (.i l.length)∧lk ρ 29=some (.i i)) l.length ?_ ?_
  ·refine⟨0,spl,spj,.sl [] .full,[],w,f9,n9,.inl ⟨rfl,rfl,rfl⟩,aeJ,aeC,rfl,?_,?_,?_,?_,?_,?_⟩<;>simp only[go_sem]
   all_goals rfl
  rintro m ρ H ⟨i,spl,spj,z,sp,w,f9,n9,hz,hsp,hi,rfl,r3,r5,r6,r27,r28,r29⟩
  by_cases hlt:i<l.length
  case neg=>
   obtain rfl:i=l.length:=aeC;have t1:decide ((l.length:Int)<(l.length:Int))=false:=decide_eq_false aeC;simp only[go_sem,r27,r28,r29,t1];rw[List.take_length]at w hz;exact hK1 _ _ ⟨spl,spj,z,sp,w,hz,by simp only[go_sem,r3],ae5⟩
  have t1:decide ((i:Int)<(l.length:Int))=true:=decide_eq_true aeC;have w1:IntKind.i64.wrap ((i:Int)+1)=((i+1:Nat):Int):=aeN;have ix:=fun k=>dR.eq (xs:=l.map AV.s) (sz:=1) i aeX aeQ k
  rw[aet]at ix;have hql:=hlq _ (aex hlt);have hstep:=fun(G:Heap) (v:mq 200000 i g G x jid did (iu (l.take i)) spl spj)=>v.step hll hlq hlt he ht
  have hnx:(iu (l.take (i+1)))=fJ (iu (l.take i)) l[i]:=sr l i hlt;have hG:=w.hG;have hV:=w.hV;have hll' :=w.hW.log;have hpk:=w.hps;have hE:=he.sub w.w.sub;obtain⟨q,eq⟩:∃q,l[i]=q:=⟨_,rfl⟩;rw[eq]at ix hql hnx;simp only[eq]at hstep;obtain⟨e0,ee0⟩:∃e0,iu (l.take i)=e0:=⟨_,rfl⟩;rw[ee0]at w hG hV f9 hnx hz hll' hpk;simp only[ee0]at hstep;rw[hnx]at hstep;have hpar:=fun(G:Heap) (hG:iB G)=>zp q aeC G hG
  obtain⟨o,eo⟩:∃o,(fP q).getD rB=o:=⟨_,rfl⟩;obtain⟨b,eb⟩:∃b,(fP q).isSome=b:=⟨_,rfl⟩;simp only[Bt,eo,eb,opA,opC]at hpar;obtain⟨a1,a2,a3,a4,a5,a6,a7,es1⟩:=cm e0.s;rw[es1]at f9;simp only[go_sem,r27,r28,r29,t1,ix];refine(hpar H hE).pthen ?_;simp only[go_sem];intro i12 h12;have x12:i9≠i12:=fun e=>by rw[←e,f9]at h12;cases h12
  simp only[go_sem,ak,x12,r3];refine inH fun H2 w2=>?_
  have j9:H2 i9=some (.obj (eN e0.s) 41):=by rw[w2,es1];grind [upd]
  have j12:H2 i12=some (.obj (opC o) 50):=by rw[w2];unfold opC;grind [upd]
  have s2:Ab.Sub H H2:=by rw[w2];grind [upd,Ab.Sub]
  have n12:=w.w.fresh h12;clear w2;have hz2:=hz.touch (.of (S:=[]) s2) aeJ;refine(hstep H2 (w.up s2)).mono fun r H3 ⟨er,spl',spj',w3,hT,hin⟩=>?_
  subst er;have k9:=hT _ _ n9 j9;have k12:=hT _ _ n12 j12;have hz3:=hz2.touch hT fun j hj=>(hsp j hj).1
  have n9' :i9∉x::did::jid::(spl' ++spj'):=fun hh=>by
   rcases hin _ hh with h1|h1
   ·exact n9 h1
   ·rw[j9]at h1;cases h1
  have hsp' :∀j∈sp,j∉x::did::jid::(spl' ++spj')∧g j=none:=fun j hj=>by
   obtain⟨n,hn⟩:=hz2.has j hj;refine⟨fun hh=>?_,(hsp j hj).2⟩
   rcases hin _ hh with h1|h1
   ·exact(hsp j hj).1 h1
   ·rw[hn]at h1;cases h1
  have m12:i12∉x::did::jid::(spl' ++spj'):=fun hh=>by
   rcases hin _ hh with h1|h1
   ·exact n12 h1
   ·rw[j12]at h1;cases h1
  cases eq2:fP q with
  |none=>
   rw[eq2]at eb;subst eb;have en:fJ e0 q=e0:=by unfold fJ;rw[eq2]
   rw[en]at w3 hnx;simp only[go_sem,Option.isSome_none,r29,w1];refine⟨_,?_,i+1,spl',spj',z,sp,by rw[hnx];exact w3,by rw[hnx];exact k9,n9',by rw[hnx];exact hz3,hsp',aeC,rfl,?_,?_,?_,?_,?_,?_⟩
   ·omega
   all_goals simp only[go_sem,r3,r5,r6,r27,r28]
  |some o2=>
   rw[eq2]at eb eo;subst eb;have eo2:o2=o:=eo;subst eo2;have o64:=GO eq2;have hgd:=nu e0.s hG aeC o2 o64;have en:fJ e0 q=if(aE e0.s o2).2.2.2=0 then uu e0 o2 else e0:=by unfold fJ;rw[eq2]
   have es:(fJ e0 q).s=(aE e0.s o2).1:=by rw[tj];unfold EB;rw[eq2]
   have elg:(fJ e0 q).log=if(aE e0.s o2).2.2.2=0 then e0.log++ [(aE e0.s o2).2.2.1]else e0.log:=by rw[en];split<;>rfl
   obtain⟨⟨S,R,Dc,E⟩,eg⟩:∃t,aE e0.s o2=t:=⟨_,rfl⟩;obtain⟨b1,b2,b3,b4,b5,b6,b7,es2⟩:=cm S;rw[eg]at hgd es elg;simp only at es elg;rw[nw,show cG e0.s= .agg (eN e0.s)from rfl,es1,show cG S= .agg (eN S)from rfl,es2]at hgd
   simp only[opA,opC]at hgd;rw[es1]at k9;unfold opC at k12;simp only[go_sem,Option.isSome_some,r5,k9,k12];refine(hgd _ (he.sub w3.w.sub)).pthen ?_;simp only[go_sem];intro i16 h16;simp only[go_sem];intro i17 h17;simp only[go_sem];intro i18 h18;have q16:i9≠i16:=fun e=>by rw[←e,k9]at h16;cases h16
   have q17:=aI h17;have h17' :=aB h17;have q18:=aI h18;have h18' :=aB h18;have q168:=aI h18';have h18'' :=aB h18';have u17:i9≠i17:=fun e=>by rw[←e,k9]at h17';cases h17'
   have u18:i9≠i18:=fun e=>by rw[←e,k9]at h18'';cases h18''
   simp only[go_sem,ak,q16,q17,q17.symm,q18,q18.symm,q168,q168.symm,u17,u18];refine Mp fun H4 w4=>?_
   have k9' :H4 i9=some (.obj (eN e0.s) 41):=by rw[w4,es1];grind [upd]
   have k16:H4 i16=some (.obj (eN S) 41):=by rw[w4,es2];grind [upd]
   have k18:H4 i18=some (.obj [.i Dc.op.kind,.s Dc.op.subj,.s Dc.op.case,.s Dc.op.field,.s Dc.op.to,.i Dc.op.val.kind,.i Dc.op.val.n,.s Dc.op.val.s,.i Dc.op.review,.s Dc.op.text,.s Dc.op.reason,.b Dc.op.glass,.i Dc.version,.v (.complex .f64 (hbit Dc.mark.1) (hbit Dc.mark.2)),.b Dc.glass,.sl (Dc.obls.map bl) .no] 59):=by rw[w4];grind [upd]
   have s4:Ab.Sub H3 H4:=by rw[w4];grind [upd,Ab.Sub]
   clear w4;have w4:=w3.up s4;have hz4:=hz3.touch (.of (S:=[]) s4) aeJ;have hno:=hz4.none;rw[es2]at k16;have fin:∀(z' :AV) (sp' :List Nat) (H5:Heap),jO H5 z' (fJ e0 q).log sp'→Touch sp H4 H5→(∀j∈sp',j∈sp∨H4 j=none)→∀H6,H6=upd H5 i9 (some (.obj (eN S) 41))→mq 200000 (i+1) g H6 x jid did (iu (l.take (i+1))) spl' spj'∧H6 i9=some (.obj (eN (iu (l.take (i+1))).s) 41)∧jO H6 z' (iu (l.take (i+1))).log sp'∧(∀j∈sp',j∉x::did::jid::(spl' ++spj')∧g j=none):=fun z' sp' H5 hz5 hT5 hs5 H6 e6=>by
    have j9:=hT5 _ _ (fun hj=>hno _ hj _ _ k9') k9'
    have w5:=(w4.touch hT5 (fun j hj=>(hsp' j hj).1) hno (fun j hj=>(hsp' j hj).2)).upd (some (.obj (eN S) 41)) j9 n9' g9
    rw[hnx,es,e6];refine⟨w5,ah ..,hz5.touch .upd fun j hj hh=>?_,fun j hj=>?_⟩
    ·obtain⟨n,hn⟩:=hz5.has j hj
     rw[List.mem_singleton.1 hh,j9]at hn;cases hn
    ·rcases hs5 j hj with h1|h1
     ·exact hsp' j h1
     ·exact⟨w4.w.fresh h1,w4.w.sub.none h1⟩
   have w1' :=w1
   by_cases hE0:E=0
   ·have tE:(E==0)=true:=by rw[hE0];rfl
    rw[if_pos hE0]at elg;rw[elg]at fin;simp only[go_sem,tE,r6,k18];refine hz4.app (d:=Dc) aeC fun z' H5 sp5 hz5 hT5 hs5=>?_
    have j16:=hT5 _ _ (fun hj=>hno _ hj _ _ k16) k16
    have j9:=hT5 _ _ (fun hj=>hno _ hj _ _ k9') k9'
    have v:=fin z' sp5 H5 hz5 hT5 hs5 _ rfl;rw[es1]at j9;rw[es2]at v;simp only[go_sem,j16,r5,j9,r29,w1];refine⟨_,?_,i+1,spl',spj',z',sp5,v.1,v.2.1,n9',v.2.2.1,v.2.2.2,aeC,rfl,?_,?_,?_,?_,?_,?_⟩
    ·omega
    all_goals simp only[go_sem,r3,r5,r27,r28]
   ·have tE:(E==0)=false:=beq_eq_false_iff_ne.mpr hE0
    rw[if_neg hE0]at elg;rw[elg]at fin;have v:=fin z sp H4 hz4 (.refl _ _) (fun j hj=> .inl hj) _ rfl
    rw[es1]at k9';rw[es2]at v;simp only[go_sem,tE,k16,r5,k9',r29,w1];refine⟨_,?_,i+1,spl',spj',z,sp,v.1,v.2.1,n9',v.2.2.1,v.2.2.2,aeC,rfl,?_,?_,?_,?_,?_,?_⟩
    ·omega
    all_goals simp only[go_sem,r3,r5,r6,r27,r28]
 rintro ρ H ⟨spl,spj,z,sp,w,hz,r3,r6⟩
 have hrec:=N3 l;have hlk:=Th w.hW.ok;have hlog:=w.hW.log;have hps:=w.hps;have hlen:=w.hW.len;obtain⟨e,ee⟩:∃e,iu l=e:=⟨_,rfl⟩;rw[ee]at w hz hrec hlk hlog hps hlen;obtain⟨hll2,hch,hrs,hops⟩:=hrec;obtain⟨qz,rfl⟩:=hz.row;have hp5:∀p∈e.ps,p.length≤1000000:=fun p hp=>aeD
 simp only[go_sem,r3];refine(wJ x jid did e spl spj H w.w.eng aeC hp5).mono fun r H1 ⟨q1,er,hs1⟩=>?_
 subst er;replace w:=w.up hs1;have hsums:=uX e.ps _ (mW _) _ H1 (.sl (ld e.ps) q1) aeC hp5;have hchk:ai prog 24 [.sl (e.ps.map dZ) q1,.sl ((fk 0#64 e.ps).map kJ) .no] H1 fun r h' =>r= .i (-1)∧h' =H1:=(Dv e.ps _ (mW _) _ (fk 0#64 e.ps) H1 (.sl (ld e.ps) q1) aeC hp5 (gS ..)).mono fun r h' ⟨⟨n,er,hn⟩,eh⟩=>⟨by rw[er,hn.2 rfl],eh⟩
 have hel:=Py x jid did e spl spj H1 w.w.eng aeC (fun d hd=>(hlk d hd).1)
 have hlr:=Ky e.log (fun d hd=>(hlk d hd).2) aeC .no qz H1
 have hcr:=Mk x jid did e spl spj H1 w.w.eng;have hsl:=gS e.ps 0#64;have hsg:=uW e.ps 0#64;have haw:=Dq H1 (he.sub w.w.sub) (ht.sub w.w.sub);have hsub:=w.w.sub;clear w hz;obtain⟨ps,eps⟩:∃ps,e.ps=ps:=⟨_,rfl⟩;obtain⟨L,eL⟩:∃L,e.log=L:=⟨_,rfl⟩;obtain⟨c,ec⟩:∃c,e.ch=c:=⟨_,rfl⟩;rw[eps]at hll2 hlog hps hp5 hsums hchk hsl hsg hch;rw[eps];rw[eL]at hll2 hlog hel hlr hops r6;rw[ec]at hcr hch;simp only[eps,eL]at hrs;obtain⟨ss,ess⟩:∃ss,fk 0#64 ps=ss:=⟨_,rfl⟩;rw[ess]at hsums hchk hsl;simp only[ess]at hsg;simp only[go_sem];refine hsums.pthen ?_;simp only[go_sem,r3];refine hel.pthen ?_;simp only[go_sem,r6];refine hlr.pthen ?_;have el:((ps.length:Int) !=(L.length:Int))=false:=by rw[hll2];exact bne_self_eq_false _
 simp only[go_sem,aes,el,r6];refine hchk.pthen ?_;have em:(((-1:Int)) !=(-1:Int))=false:=rfl;simp only[go_sem,em,aes];refine .intro (fun m ρ H=>∃i:Nat,H=H1∧i≤ps.length∧m=ps.length - i∧lk ρ 3=some (.ptr x 0)∧lk ρ 6=some (.sl (L.map ldA) qz)∧lk ρ 15=some (.sl (ps.map dZ) q1)∧lk ρ 16=some (.sl (ss.map kJ) .no)∧lk ρ 17=some (.v (.int .u64 ((chL 0#64 (ps.take i)).toNat:Int)))∧lk ρ 82=some (.i ps.length)∧lk ρ 83=some (.i i)) ps.length ?_ ?_
 ·refine⟨0,rfl,aeC,rfl,?_,?_,?_,?_,?_,?_,?_⟩<;>simp only[go_sem,r3,r6]
  all_goals rfl
 rintro m ρ H ⟨i,rfl,hi,rfl,r3,r6,r15,r16,r17,r82,r83⟩
 by_cases hlt:i<ps.length
 ·have t1:decide ((i:Int)<(ps.length:Int))=true:=decide_eq_true aeC
  have w1:IntKind.i64.wrap ((i:Int)+1)=((i+1:Nat):Int):=aeN;have hrsi:=hrs i hlt aeC;obtain⟨h64,hf⟩:=hops _ (aex (show i<L.length by omega))
  have hss:=hsg i aeC;obtain⟨d,ed⟩:∃d,L[i]'aeC=d:=⟨_,rfl⟩;rw[ed]at hrsi h64 hf;have hrl:=so (h:=chL 0#64 (ps.take i)) (mw hf);have ho2:(hY d.op).length≤1000000:=by simp only[dF,aew,gT]at hrl;omega
  have ix1:=fun K=>dR.eq (xs:=ps.map dZ) (sz:=1) i aeX aeQ K
  have ix2:=fun K=>dR.eq (xs:=L.map ldA) (sz:=16) i ae0 aeQ K
  have ix3:=fun K=>dR.eq (xs:=ss.map kJ) (sz:=1) i ae0 aeQ K
  rw[aet,hrsi]at ix1;rw[aet,ed]at ix2;rw[aet,hss]at ix3;simp only[dZ]at ix1;simp only[ldA,sS,opC,aN,ay,List.cons_append,List.nil_append]at ix2;simp only[kJ]at ix3;have hro:=CY (chL 0#64 (ps.take i)) d.op h64 (f_l (mw hf)) ho2 H;simp only[opA,opC]at hro;simp only[go_sem,r82,r83,t1];refine .quiet aeF ?_;simp only[go_sem,r15,r17,r6,r83,ix1,ix2];refine⟨_,hro,?_⟩;simp only[go_sem];refine⟨_,I9 _ _ (dF (chL 0#64 (ps.take i)) d.op) (dF (chL 0#64 (ps.take i)) d.op) H (.sl _ _) (.sl _ _) aeC,?_⟩;simp only[go_sem,decide_true,Bool.not_true,r16,ix3,r83,w1];refine⟨_,?_,i+1,rfl,aeC,rfl,?_,?_,?_,?_,?_,?_,?_⟩
  ·omega
  all_goals simp only[go_sem,r3,r6,r15,r16,r82]
 ·obtain rfl:i=ps.length:=by omega
  have t1:decide ((ps.length:Int)<(ps.length:Int))=false:=decide_eq_false aeC;rw[List.take_length,←hch]at r17;simp only[go_sem,r82,r83,t1,r3];refine hcr.pthen ?_;simp only[go_sem,r17,beq_self_eq_true];refine haw.pthen ?_;simp only[go_sem];exact .same (.refl _) ⟨hsub,_,.pure rfl,rfl⟩
theorem HH(ev:Value)(hev:ev= .nilIface∨∃te pe,ev= .iface te pe)(x:AV)(dx:Dat U 22 x):ai prog 4 [x] (vW [(3,rG),(2,[ev])]) fun r _=>r= .b true:=(Lr x dx _ (BV hev) ⟨0,rfl⟩).mono fun _ _ h=>h.1
end Go.Proofs.YtelkmnkejghkeaaGreatDoor
namespace Go.Bf
open Go Go.Ab Go.Proofs.YtelkmnkejghkeaaGreatDoor
theorem J2(ps:List Txt):au (ps.map dZ)=ps.map dZ:=by
 induction ps with
 |nil=>rfl
 |cons a r ih=>rw[List.map_cons,iJ,ih];rfl
theorem Ty{l:List AV}{j:Nat}(h:j<l.length)(x:AV):l.take (j*1)++ [x]++l.drop (j*1+1)=l.set j x:=by rw[Nat.mul_one,List.set_eq_take_append_cons_drop,if_pos h];simp
theorem K7{A B:List Txt}{i:Nat}(h1:i<A.length)(h2:i<B.length):decide (A.take (i+1)=B.take (i+1))=(decide (A.take i=B.take i) && decide (A[i]=B[i])):=by
 rw[List.take_succ_eq_append_getElem h1,List.take_succ_eq_append_getElem h2,←Bool.decide_and]
 congr 1
 rw[eq_iff_iff];constructor
 ·intro h
  have:=List.append_inj h ae0;exact⟨this.1,by simpa using this.2⟩
 ·rintro⟨e1,e2⟩
  rw[e1,e2]
end Go.Bf
namespace Go.Proofs.YtelkmnkejghkeaaGreatDoor
open Go Go.Ab Go.Bf Tryz
theorem Gg:∀ {L:List Txt} {vs:List AV},qK L vs→au vs=vs
 |_,[],_=>rfl
 | [],_::_,h=>by cases h.1
 |p::L,v::vs,h=>by
  obtain⟨q,hq⟩:=h.2 0 aeJ aeJ;have hv:qK L vs:=⟨by simpa using h.1,fun i h1 h2=>h.2 (i+1) ae0 ae0⟩
  rw[iJ,Gg hv,show v=_ from hq]
  rfl
theorem Hp{L:List Txt}{vs:List AV}(h:qK L vs):Sized 1 vs:=fun z hz=>by
 obtain⟨i,hi,rfl⟩:=List.mem_iff_getElem.1 hz;obtain⟨q,hq⟩:=h.2 i hi (by have:=h.1;omega)
 rw[hq];rfl
theorem NJ{h:Heap}{id:Nat}{cap n:Nat}{rest vs:List AV}{L:List Txt}(hv:qK L vs)(hl:L.length=n)(hrest:rest.length=(cap - n)*1)(hcap:n≤cap):Ow 76 (upd h id (some (.obj (vs++rest) 76))) 1 id (.ob id 0 n cap 1) vs:=by have hvl:=hv.1;exact⟨cap,rest,by rw[hvl,hl],by rw[Gg hv];exact ah ..,by rw[hvl,hl];exact hrest,aeC,Hp hv⟩
set_option maxHeartbeats 400000 in
theorem Af(y z u v:AV)(dy:Dat U 22 y)(dz:Dat U 3 z)(du:Dat U 3 u)(dv:Dat U 76 v)(h:Heap)(he:iB h)(ht:xF h):ai prog 5 [y,z,u,v] h fun r h' =>r= .b true∧h' =h:=
 ai.freeze fun g hgs _=>by
 have he:=he.sub hgs;have ht:=ht.sub hgs;obtain⟨l0,rfl,hl0,hls⟩:=DD dy;obtain⟨i0,rfl,i64⟩:=dz.i64 aeR;obtain⟨k0,rfl,k64⟩:=du.i64 aeR;obtain⟨ed,rfl,hed⟩:=dv.bytes aeR aeR;have hll:=Bu l0 20;have hlq:=Es (l:=l0) (n:=20);have hlo:=fun(G:Heap)=>Et l0 20 aeG G
 obtain⟨l,el⟩:∃l,jH l0 20=l:=⟨_,rfl⟩;rw[el]at hll hlq;simp only[el]at hlo;refine aeB func5 131 [.tmp 8] fun hwf=>?_
 simp only[go_sem];refine(show ai prog _ [.i 200000] _ _ from(vY 200000 aeG g g (.refl _) he).mono fun r h1 ⟨x,jid,did,spl,spj,er,w,s1⟩=>?_)
 subst er;simp only[go_sem];refine(hlo h1).pthen ?_;simp only[go_sem,aes];refine oR.join (.exit 0) (fun ρ H=>∃spl spj,mq 200000 l.length g H x jid did (iu l) spl spj∧lk ρ 1=some (.i i0)∧lk ρ 2=some (.i k0)∧lk ρ 3=some (.sl (ed.map aJ) .no)∧lk ρ 9=some (.ptr x 0)) ?_ fun K1 hK1=>?_
 rotate_left
 ·refine .intro (fun m ρ H=>∃(i:Nat) (spl spj:List Nat),mq 200000 i g H x jid did (iu (l.take i)) spl spj∧i≤l.length∧m=l.length - i∧lk ρ 1=some (.i i0)∧lk ρ 2=some (.i k0)∧lk ρ 3=some (.sl (ed.map aJ) .no)∧lk ρ 9=some (.ptr x 0)∧lk ρ 28=some (.sl (l.map .s) .no)∧lk ρ 29=some (.i l.length)∧lk ρ 30=some (.i i)) l.length ?_ ?_
  ·refine⟨0,spl,spj,w,aeC,rfl,?_,?_,?_,?_,?_,?_,?_⟩<;>simp only[go_sem]
   all_goals rfl
  rintro m ρ H ⟨i,spl,spj,w,hi,rfl,r1,r2,r3,r9,r28,r29,r30⟩
  by_cases hlt:i<l.length
  ·have t1:decide ((i:Int)<(l.length:Int))=true:=decide_eq_true aeC
   have w1:IntKind.i64.wrap ((i:Int)+1)=((i+1:Nat):Int):=aeN;have ix:=fun k=>dR.eq (xs:=l.map AV.s) (sz:=1) i aeX aeQ k
   rw[aet]at ix;simp only[go_sem,r9,r28,r29,r30,t1,ix];refine(w.step aeC hlq hlt he ht).mono fun r H2 ⟨er,spl',spj',w2,_,_⟩=>?_
   subst er;simp only[go_sem,r30,w1];refine⟨_,?_,i+1,spl',spj',w2,aeC,rfl,?_,?_,?_,?_,?_,?_,?_⟩
   ·omega
   all_goals simp only[go_sem,r1,r2,r3,r9,r28,r29]
  ·obtain rfl:i=l.length:=by omega
   have t1:decide ((l.length:Int)<(l.length:Int))=false:=decide_eq_false aeC;simp only[go_sem,r28,r29,r30,t1];rw[List.take_length]at w;exact hK1 _ _ ⟨spl,spj,w,by simp only[go_sem,r1],ae4,by simp only[go_sem,r3],by simp only[go_sem,r9]⟩
 rintro ρ H ⟨spl,spj,w,r1,r2,r3,r9⟩
 have hpc:=K6 l;have hlen:=w.hW.len;obtain⟨e,ee⟩:∃e,iu l=e:=⟨_,rfl⟩;rw[ee]at w hpc hlen;have hp5:∀p∈e.ps,p.length≤1000000:=fun p hp=>aeD
 simp only[go_sem,r9];refine(wJ x jid did e spl spj H w.w.eng aeC hp5).mono fun r H1 ⟨q1,er,hs1⟩=>?_
 subst er;replace w:=w.up hs1;simp only[go_sem,r9];refine(DL x jid did e spl spj H1 w.w.eng aeC hp5).mono fun r H2 ⟨ow,hs2⟩=>?_
 have hs0:=w.w.sub;replace w:=w.up hs2;have hsG:=w.w.sub;clear w s1;obtain⟨ps,eps⟩:∃ps,e.ps=ps:=⟨_,rfl⟩;rw[eps]at hpc hlen hp5 ow⊢;have hrd:=ow.rd;have hsums:=fun G=>uX ps _ (mW ps) _ G (.sl (ld ps) q1) aeC hp5
 have hsl:=gS ps 0#64;have haw:=fun G (hs:Ab.Sub g G)=>Dq G (he.sub hs) (ht.sub hs)
 simp only[go_sem];refine(hsums H2).pthen ?_;simp only[go_sem,hrd.len,aes,hsl,bne_self_eq_false]
 by_cases h0:ps= []
 ·have t0:((ps.length:Int)==0)=true:=by rw[h0];rfl
  simp only[go_sem,aes,t0];refine(haw H2 hsG).pthen ?_;simp only[go_sem];exact .same (.refl _) ⟨hsG,_,.pure rfl,rfl⟩
 have hpos:=List.length_pos_iff.2 h0;have t0:((ps.length:Int)==0)=false:=beq_eq_false_iff_ne.mpr aeC;have v1:IntKind.i64.wrap ((ps.length:Int) - 1)=((ps.length - 1:Nat):Int):=afF;have hwi:=Am i0 (ps.length - 1);have hwk:=Am k0 (ps.length - 1);have hwm:=B5 i0 (ps.length - 1) H2 i64 aeC;have hwn:=B5 k0 (ps.length - 1) H2 k64 aeC;obtain⟨i,ei⟩:∃i,qq i0 (ps.length - 1)=i:=⟨_,rfl⟩;obtain⟨k,ek⟩:∃k,qq k0 (ps.length - 1)=k:=⟨_,rfl⟩;rw[ei]at hwi hwm;rw[ek]at hwk hwn;have hi:i<ps.length:=aeC;have hk:k<ps.length:=aeC;obtain⟨id,hid0,ow1⟩:=ow.ow (by intro e;rw[List.map_eq_nil_iff]at e;exact h0 e)
 have uS:(U 76).sz=1:=Aj;obtain⟨cap,rest,ey,hidv,hrest,hcap,hsz⟩:=ow1;subst ey;rw[J2]at hidv;simp only[go_sem,aes,t0,r1,v1];refine hwm.pthen ?_;simp only[go_sem,aes,r2,v1];refine hwn.pthen ?_;have lm:(ps.map dZ).length=ps.length:=aes ..;have gr:∀m (hm:m<ps.length),(ps.map dZ++rest)[m*1]? =some (.sl (ps[m].map aJ) .no):=fun m hm=>by
  rw[Nat.mul_one,List.getElem?_append_left aeC,List.getElem?_map,List.getElem?_eq_getElem hm];rfl
 have gi:=gr i hi;have gk:=gr k hk;have b1:(0:Int)≤(k:Int):=aeC;have b2:(k:Int)<(ps.length:Int):=aeC;have b3:(0:Int)≤(i:Int):=aeC;have b4:(i:Int)<(ps.length:Int):=aeC;simp only[go_sem];refine .late (hm1 id (.obj (ps.map dZ++rest) 76)) [0,1,4,5,8,9,6,10,7,11,12] [2,3,13,14,15] (.hm1 hidv) aeF ?_;simp only[go_sem,b1,b2,b3,b4,and_self,true_and,gi,gk,hidv];refine⟨ae0,ae0,?_⟩;have p1:=Ty (l:=ps.map dZ++rest) (j:=i) ae0 (.sl (ps[k].map aJ) .no);have p2:=Ty (l:=(ps.map dZ++rest).set i (.sl (ps[k].map aJ) .no)) (j:=k) ae0 (.sl (ps[i].map aJ) .no);rw[p1,p2];have e1:((ps.map dZ++rest).set i (.sl (ps[k].map aJ) .no)).set k (.sl (ps[i].map aJ) .no)=((ps.set i ps[k]).set k ps[i]).map dZ++rest:=by
  show((ps.map dZ++rest).set i (dZ ps[k])).set k (dZ ps[i])=_
  rw[List.set_append_left _ _ ae0,List.set_append_left _ _ ae0,List.map_set,List.map_set]
 rw[e1];have hlL:((ps.set i ps[k]).set k ps[i]).length=ps.length:=aeJ;have hLp:∀p∈(ps.set i ps[k]).set k ps[i],p.length≤1000000:=fun p hp=>by
  rcases List.mem_or_eq_of_mem_set hp with hp|rfl
  ·rcases List.mem_or_eq_of_mem_set hp with hp|rfl
   ·exact hp5 p hp
   ·exact hp5 _ (aex _)
  ·exact hp5 _ (aex _)
 generalize (ps.set i ps[k]).set k ps[i]=L at hlL hLp⊢;rw[aes]at hrest hcap;have ow2:=NJ (h:=H2) (id:=id) (mW L) hlL hrest hcap;have hsG3:Ab.Sub g (upd H2 id (some (.obj (L.map dZ++rest) 76))):=fun j b hj=>by
  rw[ag _ _ (fun e=>by rw[e,hs0.none hid0]at hj;cases hj)]
  exact hsG j b hj
 simp only[go_sem,r3,aes];refine Mp fun H3 w3=>?_
 rw[←w3]at ow2 hsG3;have hid3:H3 id=some (.obj (L.map dZ++rest) 76):=by rw[w3];exact ah ..
 clear w3;refine jZ.join (fun ρ H=>∃(B:List Txt) (vs:List AV),qK B vs∧Ow 76 H 1 id (.ob id 0 ps.length cap 1) vs∧B.length=ps.length∧(∀p∈B,p.length≤1000000)∧Ab.Sub g H∧lk ρ 13=some (.sl (ps.map dZ) q1)∧lk ρ 14=some (.ob id 0 ps.length cap 1)∧lk ρ 15=some (.sl ((fk 0#64 ps).map kJ) .no)) ?_ fun K2 hK2=>?_
 rotate_left
 ·by_cases hz:ed.length=0
  ·have t5:decide ((ed.length:Int)>0)=false:=decide_eq_false aeC
   have t6:decide (0<(ed.length:Int))=false:=decide_eq_false aeC;simp only[go_sem,r3,aes,t5,t6];refine hK2 _ _ ⟨L,_,mW L,ow2,hlL,hLp,hsG3,?_,?_,?_⟩<;>simp only[go_sem]
  ·have t5:decide ((ed.length:Int)>0)=true:=decide_eq_true aeC
   have t6:decide (0<(ed.length:Int))=true:=decide_eq_true aeC;have em:(if(200:Int)<(ed.length:Int)then(200:Int)else(ed.length:Int))=((min 200 ed.length:Nat):Int):=aeC
   simp only[go_sem,r3,aes,t5,t6,em];refine⟨aeC,aeC,?_⟩;refine⟨agb,.acc fun z' H4 ha hk4=>?_⟩
   rw[List.nil_append]at ha;obtain⟨q4,ez⟩:=ha.row;subst ez;have hid4:=ha.1 _ _ hid3;simp only[go_sem,b1,b2,and_self,true_and,hid4];refine⟨ae0,?_⟩;have p3:=Ty (l:=L.map dZ++rest) (j:=k) ae0 (.sl ((ed.take (min 200 ed.length)).map aJ) q4);rw[p3,List.set_append_left _ _ ae0];have hl3:(L.set k (ed.take (min 200 ed.length))).length=ps.length:=by simp[hlL]
   have hv3:qK (L.set k (ed.take (min 200 ed.length))) ((L.map dZ).set k (.sl ((ed.take (min 200 ed.length)).map aJ) q4)):=⟨aeJ,fun j h1 h2=>by
    rw[List.getElem_set,List.getElem_set];split
    ·exact⟨q4,rfl⟩
    ·rw[aet];exact⟨.no,rfl⟩⟩
   refine hK2 _ _ ⟨_,_,hv3,NJ hv3 hl3 hrest hcap,hl3,fun p hp=>?_,fun j b hj=>?_,?_,?_,?_⟩
   ·rcases List.mem_or_eq_of_mem_set hp with hp|rfl
    ·exact hLp p hp
    ·rw[List.length_take];omega
   ·rw[ag _ _ (fun e=>by rw[e,hs0.none hid0]at hj;cases hj)]
    exact ha.1 _ _ (hsG3 _ _ hj)
   all_goals simp only[go_sem]
 rintro ρ H ⟨B,vs,hvB,owB,hlB,hBp,hsB,r13,r14,r15⟩
 have hrB:=owB.rd;obtain⟨capB,restB,eyB,hidB,_,_,_⟩:=owB;rw[Gg hvB]at hidB;simp only[go_sem,r13,aes];refine oR.join (.exit 2) (fun ρ H' =>H' =H∧lk ρ 13=some (.sl (ps.map dZ) q1)∧lk ρ 14=some (.ob id 0 ps.length cap 1)∧lk ρ 15=some (.sl ((fk 0#64 ps).map kJ) .no)∧lk ρ 18=some (.b (decide (ps=B)))) ?_ fun K3 hK3=>?_
 rotate_left
 ·refine .intro (fun m ρ H' =>∃c:Nat,H' =H∧c≤ps.length∧m=ps.length - c∧lk ρ 13=some (.sl (ps.map dZ) q1)∧lk ρ 14=some (.ob id 0 ps.length cap 1)∧lk ρ 15=some (.sl ((fk 0#64 ps).map kJ) .no)∧lk ρ 18=some (.b (decide (ps.take c=B.take c)))∧lk ρ 98=some (.i ps.length)∧lk ρ 99=some (.i c)) ps.length ?_ ?_
  ·refine⟨0,rfl,aeC,rfl,?_,?_,?_,?_,?_,?_⟩<;>simp only[go_sem,r13,r14,r15]
   all_goals rfl
  rintro m ρ H' ⟨c,rfl,hc,rfl,r13,r14,r15,r18,r98,r99⟩
  by_cases hlt:c<ps.length
  ·have t1:decide ((c:Int)<(ps.length:Int))=true:=decide_eq_true aeC
   have w1:IntKind.i64.wrap ((c:Int)+1)=((c+1:Nat):Int):=aeN;have hsn:=K7 (A:=ps) (B:=B) hlt aeC;have ix:=fun k=>dR.eq (xs:=ps.map dZ) (sz:=1) c aeX aeQ k
   rw[aet]at ix;simp only[dZ]at ix;simp only[go_sem,r98,r99,t1];refine .quiet aeF ?_;cases hd:decide (ps.take c=B.take c)
   ·rw[hd]at hsn r18
    simp only[go_sem,r18,r99,w1];refine⟨_,?_,c+1,rfl,aeC,rfl,?_,?_,?_,?_,?_,?_⟩
    ·omega
    all_goals simp only[go_sem,r13,r14,r15,r98,hsn,Bool.false_and]
   ·rw[hd]at hsn r18
    simp only[go_sem,r18,r13,r14,r99,ix];have hvl:=hvB.1;obtain⟨qb,hxb⟩:=hvB.2 c aeC aeC;have gb:(vs++restB)[c*1]? =some (.sl ((B[c]'aeC).map aJ) qb):=by
     rw[Nat.mul_one,List.getElem?_append_left aeC,List.getElem?_eq_getElem aeC,hxb]
    simp only[go_sem,hidB,gb];refine⟨aeC,aeC,_,I9 _ _ ps[c] (B[c]'aeC) H' (.sl _ _) (.sl _ _) (by have:=hp5 _ (aex hlt);omega),?_⟩
    rw[Bool.true_and]at hsn;simp only[go_sem,r99,w1];refine⟨_,?_,c+1,rfl,aeC,rfl,?_,?_,?_,?_,?_,?_⟩
    ·omega
    all_goals simp only[go_sem,r13,r14,r15,r98,hsn]
  ·obtain rfl:c=ps.length:=by omega
   have t1:decide ((ps.length:Int)<(ps.length:Int))=false:=decide_eq_false aeC;rw[List.take_length,List.take_of_length_le aeC]at r18;simp only[go_sem,r98,r99,t1];exact hK3 _ _ ⟨rfl,by simp only[go_sem,r13],by simp only[go_sem,r14],by simp only[go_sem,r15],by simp only[go_sem,r18]⟩
 rintro ρ H' ⟨rfl,r13,r14,r15,r18⟩
 simp only[go_sem,r14,r15];refine(Dv B vs hvB _ (fk 0#64 ps) H' hrB aeC hBp (by rw[hsl];exact hlB.symm)).mono fun r h' ⟨⟨n,er,hn⟩,eh⟩=>?_
 subst er;subst eh
 by_cases hc1:n= -1
 ·subst hc1
  have hse:=hn.1 rfl;have tm:((-1:Int)==(-1:Int))=true:=rfl;simp only[go_sem,r18,r13,r14,tm];refine(Mn ps B _ vs (mW ps) hvB _ _ h' (.sl (ld ps) q1) hrB aeC hlB hp5 hBp).mono fun r h2 ⟨⟨n2,er,hn2⟩,eh⟩=>?_
  subst er;subst eh;have hb:(decide (ps=B)==(n2== -1))=true:=by
   have hx:ps=B↔n2= -1:=⟨fun e=>hn2.2 (by subst e;exact fun i _=>FZ ps i),fun e=>tampered hlB.symm hse.symm (hn2.1 e)⟩
   by_cases h1:ps=B
   ·rw[decide_eq_true h1,hx.1 h1];rfl
   ·have:¬n2= -1:=fun e=>h1 (hx.2 e)
    rw[decide_eq_false h1,beq_eq_false_iff_ne.mpr this];rfl
  simp only[go_sem,hb];refine(haw h2 hsB).pthen ?_;simp only[go_sem];exact .same (.refl _) ⟨hsB,_,.pure rfl,rfl⟩
 ·have tm:(n==(-1:Int))=false:=beq_eq_false_iff_ne.mpr hc1
  have hne:¬ps=B:=fun e=>hc1 (hn.2 (by rw[e]))
  have hb:(decide (ps=B)==false)=true:=by rw[decide_eq_false hne];rfl
  simp only[go_sem,r18,tm,hb];refine(haw h' hsB).pthen ?_;simp only[go_sem];exact .same (.refl _) ⟨hsB,_,.pure rfl,rfl⟩
theorem xQ(ev:Value)(hev:ev= .nilIface∨∃te pe,ev= .iface te pe)(x y z u:AV)(dx:Dat U 22 x)(dy:Dat U 3 y)(dz:Dat U 3 z)(du:Dat U 76 u):ai prog 5 [x,y,z,u] (vW [(3,rG),(2,[ev])]) fun r _=>r= .b true:=(Af x y z u dx dy dz du _ (BV hev) ⟨0,rfl⟩).mono fun _ _ h=>h.1
end Go.Proofs.YtelkmnkejghkeaaGreatDoor
