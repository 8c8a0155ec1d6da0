/- The law EngineBytes: pack 1 of its texts. -/
import Derived.KernelRfl
import Derived.Tactics
import Derived.Still
import Derived.Below
import Derived.Laws.IdiomCopy
import Derived.Laws.Append
import Derived.Laws.Strings
import Derived.Laws.StructEq
import Derived.ChangeKeysEq
import Derived.WalkKit
import Derived.Maps.Keyed
set_option linter.unusedSimpArgs false
set_option linter.unusedVariables false
set_option maxRecDepth 100000
namespace Go
section
variable {p:Prop}
theorem acK(h:p:=by omega):p:=h
theorem acL(h:p:=by grind):p:=h
theorem acM(h:p:=by repeat (first|exact .refl _|refine Sub.put ?_ (by assumption) _)):p:=h
theorem acN(h:p:=by decide):p:=h
theorem acO(h:p:=by kernel_rfl):p:=h
theorem acP(h:p:=by simp only[go_sem,ne_eq,not_false_eq_true]):p:=h
theorem acQ(h:p:=by repeat' first|exact .refl _|(refine Sub.put ?_ (by assumption) _)):p:=h
theorem acR(h:p:=by rw[en];exact Sub.both (by repeat (first|exact .refl _|refine Sub.put ?_ (by assumption) _)) _ _):p:=h
theorem acS(h:p:=by simp):p:=h
theorem acT(h:p:=by simp only[go_sem]):p:=h
theorem acU(h:p:=by repeat (first|exact .refl _|refine Ab.Sub.put ?_ (by assumption) _)):p:=h
theorem acV(h:p:=by assumption):p:=h
theorem acW(h:p:=by exact .same (.refl _) ⟨rfl,rfl⟩):p:=h
theorem acX(h:p:=by grind [aY]):p:=h
theorem acY(h:p:=by rfl):p:=h
theorem acZ(h:p:=by rw[acB];rfl):p:=h
theorem ac0(h:p:=by exact .mk _ (.refl _) (.aj h1) ⟨rfl,rfl⟩):p:=h
theorem ac1(h:p:=by rw[uO];exact bx (f:=bu) (fun _=>rfl) _):p:=h
theorem ac2(h:p:=by simp only[go_sem,acA,List.length_take,List.length_cons,List.length_nil];omega):p:=h
theorem ac3(h:p:=by exact .same (.refl _) ⟨.inl ⟨hx,rfl⟩,.refl _⟩):p:=h
theorem ac4(h:p:=by rw[aY _ (by omega)];omega):p:=h
theorem ac5(h:p:=by exact .pure rfl):p:=h
theorem ac6(h:p:=by rw[w2];simp only[ak,j2,j2.symm,j2e,j2e.symm,j2f,j2f.symm,ned,ned.symm,nfe,nfe.symm,nfd,nfd.symm,ah,ne_eq,not_false_eq_true]):p:=h
theorem ac7(h:p:=by exact hk.elim):p:=h
theorem ac8(h:p:=by simp only[ak,n41.symm,n31.symm,gp,not_false_eq_true]):p:=h
theorem ac9(h:p:=by simp only[go_sem,acA,List.length_cons,List.length_nil];have:=kP (l.take i) m;rw[List.length_take]at this;omega):p:=h
theorem ada(h:p:=by simpa using hlt):p:=h
theorem adb(h:p:=by cases e):p:=h
theorem ade(h:p:=by simp;omega):p:=h
theorem adf(h:p:=by repeat (first|exact .refl _|refine Sub.put ?_ (by omega) _)):p:=h
theorem adg(h:p:=by rw[jb fun j hj=>hc j (by omega) hj];rfl):p:=h
theorem adh(h:p:=by simp[dI,okD,fI,fh,ic,eqV,an,ax,k3,decide_true,dcase,dfield,Bool.and_true,Bool.true_and,Bool.not_true,Bool.not_false];first|exact fun _ _ _=>MG dval|(intro hh;obtain⟨a,b,c⟩:=MF dval;simp[a,b,c]at hh)):p:=h
theorem adi(h:p:=by simp only[go_sem,List.length_cons,List.length_nil,acA];omega):p:=h
theorem adj(h:p:=by exact .mk _ (.refl _) (.refl _) ⟨rfl,rfl⟩):p:=h
theorem adk(h:p:=by rw[←e];exact fz (hy.put hB hH _).1 (ah ..)):p:=h
theorem adl(h:p:=by exact .same (.refl _) ⟨hw,hs⟩):p:=h
theorem adm(h:p:=by grind [ag]):p:=h
theorem adn(h:p:=by rw[hsn,if_neg (by rw[a1,a3,b1,b2];decide),List.append_nil];exact hy.sub (.aj h7)):p:=h
theorem ado(h:p:=by rw[←hH];exact((Sub.refl h).put h1 _).put n2 _):p:=h
theorem adp(h:p:=by simp only[go_sem];rw[acB];rfl):p:=h
theorem adq(h:p:=by rw[kk3 k (by rw[s1 _ _ hk];simp) (fun e=>by rw[e,hg1]at hk;cases hk) (fun e=>by have:=(of.nid e).1;rw[hk]at this;cases this)];exact s1 _ _ hk):p:=h
theorem adr(h:p:=by exact this):p:=h
theorem ads(h:p:=by rw[nT hlt2 d1 fun j hj=>hc j hj (by omega)];rfl):p:=h
theorem adt(h:p:=by simp only[go_sem,hb0,List.getElem_cons_succ,List.getElem_cons_zero];rfl):p:=h
theorem adu(h:p:=by rw[hsn,if_pos (by rw[a1,a3,b1,b2];decide),List.map_append];exact hy'):p:=h
theorem adv(h:p:=by intro z hz;rw[List.mem_singleton.1 hz];rfl):p:=h
theorem adw(h:p:=by rw[efin,List.map_append];exact hy3.put (ah ..) hH3 _):p:=h
theorem adx(h:p:=by simp only[go_sem]<;>decide):p:=h
theorem ady(h:p:=by rw[en];rfl):p:=h
theorem adz(h:p:=by rw[w2];simp only[ak,j2,j2.symm,j2e,j2e.symm,j2f,j2f.symm,ned,ned.symm,nfe,nfe.symm,nfd,nfd.symm,ah,ne_eq,not_false_eq_true];rfl):p:=h
theorem adA(h:p:=by exact .mk (h' :=h) (jY (.mk pid pset palg ptgt prules pkids pobls,0,0)) (jv _ _ _ (gq _) _) (Sub.put (subs _ _ _) hi2 _) ⟨rfl,rfl⟩):p:=h
theorem adB(h:p:=by cases h):p:=h
theorem adC(h:p:=by simp only[go_sem,acA,List.length_cons,List.length_nil]<;>omega):p:=h
theorem adD(h:p:=by simp only[go_sem];exact hb.1 _ (acF hlt)):p:=h
theorem adE(h:p:=by exact .mk (rsA (naM,[])) (qQ [] naM rfl _) (hs _ _) ⟨rfl,rfl⟩):p:=h
theorem adF(h:p:=by rw[hjp,if_neg (by decide),if_neg (by decide),if_neg hne,hL]):p:=h
theorem adG(h:p:=by rw[hnd];simp only[if_neg (show¬op=3 by omega),if_neg (show¬op=4 by omega),if_neg (show¬op=5 by omega)];rw[ev]<;>rfl):p:=h
theorem adH(h:p:=by rw[←eH];exact((Sub.refl h).put h1 _).put n2 _):p:=h
theorem adI(h:p:=by simp only[go_sem,hb0,List.getElem_cons_zero];exact acz rfl):p:=h
theorem adJ(h:p:=by simp only[go_sem,List.length_cons,List.length_nil]<;>omega):p:=h
theorem adK(h:p:=by simp_all [zeroValue,typeInfo]):p:=h
theorem adL(h:p:=by rw[←e];exact hy.weak):p:=h
theorem adM(h:p:=by rw[bg fun z hz=>hsz z (List.mem_of_mem_take hz),List.length_take];omega):p:=h
theorem adN(h:p:=by rw[uO];intro z hz;rw[List.mem_singleton.1 hz];rfl):p:=h
theorem adO(h:p:=by simp[aK,hb (by simp[pX,ltr,dgt,a1,a2,a3,a4,a5]),ax]):p:=h
theorem adP(h:p:=by exact⟨c,_,h,rfl,g,.refl c,.v _,hs,hk2⟩):p:=h
theorem adQ(h:p:=by exact .mk _ (.refl _) (b5.put m1 n1).fin ⟨rfl,rfl⟩):p:=h
theorem adR(h:p:=by exact .mk _ (.refl _) (b6.put m1 n1).fin ⟨rfl,rfl⟩):p:=h
theorem adS(h:p:=by exact .mk _ (.refl _) (b7.put m1 n1).fin ⟨rfl,rfl⟩):p:=h
theorem adT(h:p:=by simp only[go_sem,hb0,List.getElem_cons_zero];rfl):p:=h
theorem adU(h:p:=by subst e;exact .refl _):p:=h
theorem adW(h:p:=by rw[hL];exact tM (fun x hx=>hpb x (List.mem_of_mem_take hx)) (by rw[List.length_take];omega)):p:=h
theorem adX(h:p:=by rw[List.take_succ_eq_append_getElem hlt,List.map_append];rfl):p:=h
theorem adY(h:p:=by simp only[go_sem,acA,List.length_cons,List.length_nil];omega):p:=h
theorem adZ(h:p:=by rw[fx,eA];clear fx fin hv;simp_all):p:=h
theorem ad0(h:p:=by rw[←hH,ag _ _ (Ne.symm n21),ah];rfl):p:=h
theorem ad1(h:p:=by rw[en];exact Sub.both (by repeat (first|exact .refl _|refine Sub.put ?_ (by omega) _)) _ _):p:=h
theorem ad2(h:p:=by simp only[go_sem,acA];have:=kP obls m;omega):p:=h
theorem ad3(h:p:=by rw[uV];intro z hz;obtain⟨w,_,rfl⟩:=List.mem_map.1 hz;rfl):p:=h
theorem ad4(h:p:=by exact .refl _):p:=h
theorem ad5(h:p:=by grind [aW,ax]):p:=h
theorem ad6(h:p:=by simp[execOp,ho,hu,(aF he hB).bS,Instr.indexAt,asIntOf,run_underlying hd,h0,h1,bE hU hz,cC]):p:=h
theorem ad7(h:p:=by simp[Op.operands]):p:=h
theorem ad8(h:p:=by simp[aD,ev,eb]):p:=h
theorem ad9(h:p:=by simp_all [dD,Bool.false_and,Bool.true_and,ax]):p:=h
theorem aea(h:p:=by cases hh):p:=h
theorem aeb(h:p:=by rw[List.map_append];exact hy'.put hB hH2 _):p:=h
theorem aec(h:p:=by rw[aY _ (by have:=hwf (.s l) (by simp);simp only[wfA,wf1,lim]at this;omega)];omega):p:=h
theorem aed(h:p:=by rw[←eH,ah]):p:=h
theorem aee(h:p:=by exact .same (.refl _) ⟨⟨_,[],false,rfl,.nil _,hnone⟩,rfl⟩):p:=h
theorem aef(h:p:=by rw[hMr,←hfin];exact(sM hsG (og hac (dV st' [41]))).put gi5 ((ag _ _ n5).trans k5) _):p:=h
theorem aeg(h:p:=by exact⟨rfl,⟨y,hid0,hb⟩,.refl _ _⟩):p:=h
theorem aeh(h:p:=by grind [bM,ax]):p:=h
theorem aei(h:p:=by rcases hlo with⟨rfl,h⟩|⟨q,kk,rfl,_⟩;exact h;cases e):p:=h
theorem aej(h:p:=by rw[uV];intro z hz;rw[List.mem_singleton.1 hz];rfl):p:=h
theorem aek(h:p:=by rw[←eH,ag _ _ n21.symm,ah]):p:=h
theorem ael(h:p:=by exact .mk _ (.refl _) (hs _ _) ⟨rfl,rfl⟩):p:=h
theorem aem(h:p:=by have:=f6;simp only[List.cons_append,List.nil_append]at this;rw[this];omega):p:=h
theorem aen(h:p:=by rw[cu];exact bx (f:=lf) (fun _=>rfl) _):p:=h
theorem aeo(h:p:=by have:=hw.1;have:=hw.2.2;rw[aY _ (by omega)];omega):p:=h
theorem aep(h:p:=by grind [bX,ax]):p:=h
theorem aeq(h:p:=by rw[IntWalk.i64_in _ (by omega)];omega):p:=h
theorem aer(h:p:=by rw[ag _ _ n41.symm,ag _ _ n31.symm,ah]):p:=h
theorem aes(h:p:=by simp[hg,pX,ltr,dgt,a1,a2,a3,a4,a5,hi0]):p:=h
theorem aet(h:p:=by exact .mk _ (.refl _) (.refl _) ⟨rfl,(bl hid).symm⟩):p:=h
theorem aeu(h:p:=by obtain⟨i,hi,rfl⟩:=List.mem_iff_getElem.1 hx;grind):p:=h
theorem aev(h:p:=by rw[sF];exact kW [(⟨1,(aD st).1,⟨0,[],false⟩⟩:aZ)]):p:=h
theorem aew(h:p:=by exact⟨rfl,b0.trans (b1.mono b0.size)⟩):p:=h
theorem aex(h:p:=by rw[mc _ _ hlt,if_pos h14,←List.append_assoc];exact hrow.app (GRow.one _ _)):p:=h
theorem aey(h:p:=by rw[uO];decide):p:=h
theorem aez(h:p:=by simp only[go_sem];grind):p:=h
theorem aeA(h:p:=by exact .mk (.tup [.sl [] .no,.i 4]) (frz _ _ (.sl _ _)) (.aj h1) ⟨rfl,rfl⟩):p:=h
theorem aeB(h:p:=by rw[ho,List.getElem?_append_right (by omega),Nat.add_sub_cancel_left];rfl):p:=h
theorem aeC(h:p:=by subst e4;simp[bQ,hl,d1,e3,e5,fM,ax]):p:=h
theorem aeD(h:p:=by rw[w2];repeat (first|exact hsub|refine Ab.Sub.put ?_ (by assumption) _)):p:=h
theorem aeE(h:p:=by exact⟨a0,us,t',fr',(bW _ vs o _ _ (g.inj j id _ _ hj h e)).trans a1,a2⟩):p:=h
theorem aeF(h:p:=by rw[←hH,ah];rfl):p:=h
theorem aeG(h:p:=by simp[bQ,hl,d1,e2,e4,e6,e7,d8,fM,ax]):p:=h
theorem aeH(h:p:=by rw[←hr];rfl):p:=h
theorem aeI(h:p:=by intro z hz;rw[List.mem_singleton.1 hz];simp only[go_sem];exact hv):p:=h
theorem aeJ(h:p:=by rw[List.length_drop];omega):p:=h
theorem aeK(h:p:=by rw[List.length_take];omega):p:=h
theorem aeL(h:p:=by unfold RX;rw[d0];rfl):p:=h
theorem aeM(h:p:=by subst e2;simp[bQ,hl,d1,e3,fM,ax]):p:=h
theorem aeN(h:p:=by subst e6;simp[bQ,hl,d1,e3,fM,ax]):p:=h
theorem aeO(h:p:=by rw[e,k6]at h12;cases h12):p:=h
theorem aeP(h:p:=by subst e1;subst e2;exact k):p:=h
theorem aeQ(h:p:=by exact .mk (rsA (gN bn,[])) (qQ [] (gN bn) rfl _) (hs _ _) ⟨rfl,rfl⟩):p:=h
theorem aeR(h:p:=by exact .mk (rsA (gN cH,[])) (qQ [] (gN cH) rfl _) (hs _ _) ⟨rfl,rfl⟩):p:=h
theorem aeS(h:p:=by grind [fQ,acA,Nat.le_trans,List.length_filter_le,List.length_take]):p:=h
theorem aeU(h:p:=by rw[ag _ _ n1412.symm];exact k12):p:=h
theorem aeV(h:p:=by intro e;rw[List.map_eq_nil_iff]at e;rw[e]at hlt;cases hlt):p:=h
theorem aeW(h:p:=by rw[List.length_set];exact hcap):p:=h
theorem aeY(h:p:=by simp only[acE,f2,lZ,hr2];omega):p:=h
theorem aeZ(h:p:=by rw[hb0];simp):p:=h
theorem ae0(h:p:=by simp_all [Cx.fill,ah]):p:=h
theorem ae1(h:p:=by grind [iF,ax,strip,fW,jO]):p:=h
theorem ae2(h:p:=by exact .mk _ (.sl _ _) (.refl _) ⟨rfl,rfl⟩):p:=h
theorem ae3(h:p:=by exact .v _):p:=h
theorem ae4(h:p:=by rw[List.length_set];exact ey):p:=h
theorem ae5(h:p:=by rw[cu];decide):p:=h
theorem ae6(h:p:=by simp[Cx.ay,ah]):p:=h
theorem ae7(h:p:=by rw[OO];exact wU [⟨pid,pset,palg,ptgt,prules,pkids,pobls⟩]):p:=h
theorem ae8(h:p:=by exact .refl h):p:=h
theorem ae9(h:p:=by simp only[go_sem,List.length_cons,List.length_nil];omega):p:=h
theorem afa(h:p:=by simp[BitVec.toNat_ushiftRight,Nat.shiftRight_eq_div_pow]):p:=h
theorem afb(h:p:=by simp only[go_sem,List.getElem_cons_zero];exact acz rfl):p:=h
theorem afc(h:p:=by exact hnone _ (b16.put h1 n1.symm) en):p:=h
theorem afd(h:p:=by exact .refl):p:=h
theorem afe(h:p:=by rw[efin];exact ah ..):p:=h
theorem aff(h:p:=by grind [Nat.mul_comm,Nat.div_add_mod]):p:=h
theorem afg(h:p:=by rcases hhi with⟨rfl,h⟩|⟨q,kk,rfl,_⟩;exact h;cases e):p:=h
theorem afh(h:p:=by rw[gE xs i h1 h2];exact lM xs i h1):p:=h
theorem afi(h:p:=by rw[hmin,acE,hfl,hr];omega):p:=h
theorem afj(h:p:=by rw[uI];intro z hz;rw[List.mem_singleton.1 hz];rfl):p:=h
theorem afk(h:p:=by rw[uR];intro z hz;rw[List.mem_singleton.1 hz];rfl):p:=h
theorem afl(h:p:=by simp only[List.map_append]):p:=h
theorem afm(h:p:=by simpa[cM]using h):p:=h
theorem afn(h:p:=by exact g.inj i j k1' k2' h1' h2' hne):p:=h
theorem afo(h:p:=by rw[←eG4,ag _ _ n41.symm];exact q1):p:=h
theorem afp(h:p:=by exact .sl _ _):p:=h
theorem afq(h:p:=by rw[e12];rfl):p:=h
theorem afr(h:p:=by rw[hmin,List.length_drop]):p:=h
theorem afs(h:p:=by obtain⟨j,hj,rfl⟩:=List.mem_iff_getElem.1 hx;grind):p:=h
theorem afu(h:p:=by rw[←e1];exact e):p:=h
theorem afv(h:p:=by exact .mk _ (.refl _) (b3.put m1 n1).fin ⟨rfl,rfl⟩):p:=h
theorem afw(h:p:=by have:=(of.nid e).1;rw[e',g3]at this;cases this):p:=h
theorem afx(h:p:=by have:=(ol.nid e).1;rw[e',g3]at this;cases this):p:=h
theorem afy(h:p:=by intro z hz;rw[List.mem_singleton.1 hz];exact hv):p:=h
theorem afz(h:p:=by rw[e,hx]at h1;cases h1):p:=h
theorem afA(h:p:=by rw[e,hx]at n2;cases n2):p:=h
theorem afB(h:p:=by rw[zY];simp;omega):p:=h
theorem afC(h:p:=by intro e;rw[e]at hjx;cases hjx):p:=h
theorem afD(h:p:=by rw[List.mem_singleton.1 hz];rfl):p:=h
theorem afE(h:p:=by exact(((Sub.refl h).put h1 _).put n2 _).put h1 _):p:=h
theorem afF(h:p:=by exact .inl hor):p:=h
theorem afG(h:p:=by exact⟨a0,us,t',fr',(cA _ _ (cV a1)).trans a1,a2⟩):p:=h
theorem afH(h:p:=by rw[←eH];exact((Sub.refl h).put h2 _).put n4' _):p:=h
theorem afI(h:p:=by rw[←eH];exact((Sub.refl h).put h3 _).put n6' _):p:=h
theorem afJ(h:p:=by simpa using d1):p:=h
theorem afK(h:p:=by exact hnone _ (b18.put m1 n1) en):p:=h
theorem afL(h:p:=by have:=hw;simp only[go_sem]at this;exact this):p:=h
theorem afM(h:p:=by simp[fZ,bf]):p:=h
theorem afN(h:p:=by simp only;omega):p:=h
theorem afO(h:p:=by simpa only[bH]using hk):p:=h
theorem afP(h:p:=by exact Nat.zero_le _):p:=h
theorem afQ(h:p:=by rw[sF];exact kW _):p:=h
theorem afR(h:p:=by rw[List.length_set];exact hrl):p:=h
theorem afS(h:p:=by rw[acA,hl];have:=tG op;omega):p:=h
theorem afT(h:p:=by rw[ag _ _ n9_2.symm];exact b2):p:=h
theorem afU(h:p:=by rw[ag _ _ n9_3.symm];exact b3):p:=h
theorem afV(h:p:=by rw[ag _ _ n9_4.symm];exact b4):p:=h
theorem afW(h:p:=by rw[ag _ _ n9_5.symm];exact b5):p:=h
theorem afX(h:p:=by rw[ag _ _ n9_6.symm];exact b6):p:=h
theorem afY(h:p:=by rw[ag _ _ n9_8.symm];exact b8):p:=h
theorem afZ(h:p:=by rw[uN hp1' hp2' hno hfi]<;>rfl):p:=h
theorem af0(h:p:=by subst e;rw[h]at hj;cases hj):p:=h
theorem af1(h:p:=by rw[←eG4];exact .aj h4):p:=h
theorem af2(h:p:=by unfold A3;rw[er];rfl):p:=h
theorem af3(h:p:=by grind [dW]):p:=h
theorem af4(h:p:=by rw[←mo,List.take_append_drop]):p:=h
theorem af5(h:p:=by simp[au]):p:=h
theorem af6(h:p:=by cases f<;>simp[fS,d1]):p:=h
theorem af7(h:p:=by grind [iF,ax,strip,fW]):p:=h
theorem af8(h:p:=by rw[e];rfl):p:=h
theorem af9(h:p:=by rw[←ehb];exact ah ..):p:=h
theorem aga(h:p:=by rw[cu];exact fO _ _):p:=h
theorem agb(h:p:=by rw[e'];exact o1.nid):p:=h
theorem agc(h:p:=by rw[hc j (by omega) hj];rfl):p:=h
theorem agd(h:p:=by rw[hfv,hv,f2];omega):p:=h
theorem age(h:p:=by rw[i2];exact hfirst):p:=h
theorem agf(h:p:=by simp[cM]at h):p:=h
theorem agh(h:p:=by simp_all [Cx.turn,ag]):p:=h
theorem agi(h:p:=by rw[e,k2]at hjd;cases hjd):p:=h
theorem agj(h:p:=by rw[e,k2]at kje;cases kje):p:=h
theorem agk(h:p:=by rw[e,k2]at kjf;cases kjf):p:=h
theorem agl(h:p:=by rw[e,k6]at h13;cases h13):p:=h
theorem agm(h:p:=by rw[e,kx]at hjd;cases hjd):p:=h
theorem agn(h:p:=by rw[e,kx]at kje;cases kje):p:=h
theorem ago(h:p:=by rw[e,kx]at kjf;cases kjf):p:=h
theorem agp(h:p:=by rw[←eH,ag _ _ n42.symm,ah]):p:=h
theorem agq(h:p:=by grind [IntKind.bits]):p:=h
theorem agr(h:p:=by intro _ _ e;cases e):p:=h
theorem ags(h:p:=by rw[hst];exact hy.1):p:=h
theorem agt(h:p:=by simp[aT];omega):p:=h
theorem agu(h:p:=by simp[stC,hpp,fZ,bf]):p:=h
theorem agv(h:p:=by rw[sF];decide):p:=h
theorem agw(h:p:=by rw[zY];decide):p:=h
theorem agx(h:p:=by rw[ey];rfl):p:=h
theorem agy(h:p:=by simp[h]at hr):p:=h
theorem agz(h:p:=by simpa using d3):p:=h
theorem agA(h:p:=by simpa using hk):p:=h
theorem agB(h:p:=by rw[e];exact hor):p:=h
theorem agC(h:p:=by simp only[eD,en]):p:=h
theorem agD(h:p:=by exact .inl hb):p:=h
theorem agE(h:p:=by exact .inl hw):p:=h
theorem agF(h:p:=by exact hp.elim):p:=h
theorem agG(h:p:=by rw[hst];rfl):p:=h
theorem agH(h:p:=by exact h2):p:=h
theorem agI(h:p:=by exact⟨.v _,rfl⟩):p:=h
theorem agJ(h:p:=by rw[e];exact h4):p:=h
theorem agK(h:p:=by rw[hat d1];rfl):p:=h
theorem agL(h:p:=by grind [ah]):p:=h
theorem agM(h:p:=by grind [ng]):p:=h
theorem agN(h:p:=by rw[hr];rfl):p:=h
theorem agO(h:p:=by rw[hu];rfl):p:=h
theorem agP(h:p:=by simp_all):p:=h
theorem agQ(h:p:=by simp[jo]):p:=h
end
section
variable {p:Prop}
theorem agR(h:p:=by
 intro i12 h12;have n126:i12≠i6:=fun e=>aeO
 have n123:i12≠i3:=fun e=>by rw[e,k3]at h12;cases h12
 simp only[go_sem,r2,acA];refine .intro (fun k ρ K=>∃(i:Nat) (L:List dN) (ql:Perm),Acc U 184 H K (.sl (L.map bu) ql) (L.map bu)∧K i12=some (.obj [.v (.complex .f64 (hbit m.1) (hbit m.2)),.sl (L.map bu) ql] 120)∧L=eP alg m (parts.take i)∧(alg=3→∀j (h1:j<parts.length),j<i→(parts[j].1==m)=false)∧i≤parts.length∧k=parts.length - i∧lk ρ 3=some (.ptr i3 0)∧lk ρ 6=some (.ptr i6 0)∧lk ρ 10=some (.v (.complex .f64 (hbit m.1) (hbit m.2)))∧lk ρ 12=some (.ptr i12 0)∧lk ρ 55=some (.sl (parts.map rsA) q)∧lk ρ 56=some (.i parts.length)∧lk ρ 57=some (.i i)) parts.length ?_ ?_
 ·refine⟨0,[],.full,.full (.aj h12),ah ..,by simp[eP],fun _ j _ hj=>acK,acK,rfl,?_,?_,?_,?_,?_,?_,?_⟩<;>simp only[go_sem,r3,r6]
 ·rintro k ρ K ⟨i,L,ql,hy,k12,hL,hno,hi,rfl,s3,s6,s10,s12,s55,s56,s57⟩
  have k3:=hy.1 _ _ k3;have k6:=hy.1 _ _ k6;have hLl:L.length≤32*B+B:=adW;simp only[go_sem,s56,s57];refine .intro (fun e=>?_) (fun e=>?_)
  ·have hlt:i<parts.length:=acH e
   have w1:=acG i acK;have hpx:=hpb _ (acF hlt);have hm9:=(hp _ (acF hlt)).m9;have hsn:=fun h3=>yL alg m parts i hlt h3
   have hfi:=fun h3 d=>vP (m:=m) i hlt d fun j hj=>hno h3 j acK hj
   have hno2:(parts[i].1==m)=false→alg=3→∀j (h1:j<parts.length),j<i+1→(parts[j].1==m)=false:=fun d h3 j h1 hj=>by
    by_cases hji:j=i
    ·subst hji;exact d
    ·exact hno h3 j h1 acK
   have hnone:alg=3→∀n,(∀j (h1:j<parts.length),j<n→(parts[j].1==m)=false)→eP alg m (parts.take n)= []:=fun h3 n hh=>by
    rw[h3];refine yK fun x hx=>?_
    obtain⟨j,hj,rfl⟩:=List.mem_iff_getElem.1 hx;rw[List.length_take]at hj;rw[List.getElem_take];exact hh j acK acK
   have ix:=fun k=>fP.eq (xs:=parts.map rsA) (sz:=2) i ada acZ k
   rw[acB]at ix;obtain⟨x,ex⟩:∃x,parts[i]=x:=⟨_,rfl⟩;rw[ex]at ix hsn hfi hno2 hm9 hpx;have nx:=Dw hm9 hc6.m9;simp only[rsA,aR,aA]at ix;simp only[go_sem,s55,s57,ix];intro i14 h14;have n1412:i14≠i12:=fun e=>by rw[e,k12]at h14;cases h14
   have n143:i14≠i3:=fun e=>by rw[e,k3]at h14;cases h14
   cases dx:(x.1==m)
   ·have hL2:L=eP alg m (parts.take (i+1)):=by
     by_cases h3:alg=3
     ·rw[hL,hnone h3 i (hno h3),hnone h3 (i+1) (hno2 dx h3)]
     ·rw[hsn h3,dx,hL];simp
    simp only[go_sem,s10,s57,nx,dx,w1];refine⟨_,?_,i+1,L,ql,hy.sub (.aj h14),aeU,hL2,hno2 dx,acK,rfl,?_,?_,?_,?_,?_,?_,?_⟩
    ·omega
    all_goals simp only[go_sem,s3,s6,s10,s12,s55,s56]
   ·simp only[go_sem,s10,s12,nx,dx,ak,n1412.symm,k12]
    refine(hy.sub (.aj h14)).app (zs:=x.2.map bu) aey acP (fun k hk=>hk) ac1 ac1 (by simp only[go_sem,acA];omega) fun y' K' hy' kp=>?_
    obtain⟨q',eq'⟩:=hy'.row;subst eq';rw[←List.map_append]at hy';have k12' :=kp i12 _ _ aeU;have k3' :=kp i3 _ _ (by rw[ag _ _ n143.symm];exact k3)
    have k6' :=hy'.1 _ _ k6H;have hyp:=fun b=>hy'.put h12 k12' b
    cases da:(alg==3)
    ·have h3:alg≠3:=by simpa using da
     simp only[go_sem,s3,s12,s57,k12',ak,n123.symm,k3',da,w1];refine⟨_,?_,i+1,L++x.2,q',by rw[←List.map_append];exact hyp _,by rw[ah,List.map_append],by rw[hsn h3,dx,hL];rfl,fun e=>(h3 e).elim,acK,rfl,?_,?_,?_,?_,?_,?_,?_⟩
     ·omega
     all_goals simp only[go_sem,s3,s6,s10,s12,s55,s56]
    ·have h3:alg=3:=by simpa using da
     have hL0:L= []:=by rw[hL,hnone h3 i (hno h3)]
     have hL:L++x.2=eP alg m parts:=by subst h3;rw[hfi rfl dx,hL0];rfl
     have hLl:(L++x.2).length≤32*B+B:=by rw[hL];exact hple
     simp only[go_sem,s3,s12,k12',ak,n123.symm,k3',da];obtain⟨K2,eK⟩:∃K2,upd K' i12 (some (.obj [.v (.complex .f64 (hbit m.1) (hbit m.2)),.sl (L.map bu++x.2.map bu) q'] 120))=K2:=⟨_,rfl⟩;have hy:=hyp (some (.obj [.v (.complex .f64 (hbit m.1) (hbit m.2)),.sl (L.map bu++x.2.map bu) q'] 120));have k3:K2 i3=some (.obj [.s id,.b set,.i alg,aV tgt,.sl (rules.map aC) .no,.sl (fH kids) .no,aA obls] 96):=by rw[←eK,ag _ _ n123.symm];exact k3'
     have k6:K2 i6=some (.obj [.v (.complex .f64 0 0),.sl [] .full] 120):=by rw[←eK,ag _ _ n126.symm];exact k6'
     have k12:K2 i12=some (.obj [.v (.complex .f64 (hbit m.1) (hbit m.2)),.sl ((L++x.2).map bu) q'] 120):=by rw[←eK,ah,List.map_append]
     try rw[eK]
     rw[eK]at hy;clear eK;have p3:pick K2 [i3,i12] i3=some (.obj [.s id,.b set,.i alg,aV tgt,.sl (rules.map aC) .no,.sl (fH kids) .no,aA obls] 96):=(bD acS).trans k3;have p12:pick K2 [i3,i12] i12=some (.obj [.v (.complex .f64 (hbit m.1) (hbit m.2)),.sl ((L++x.2).map bu) q'] 120):=(bD acS).trans k12;refine .stage (pick K2 [i3,i12]) [0,1,2,3,4,5,6,7] [8] bB acO ?_;simp only[go_sem,s3,s10,s12,p3,p12,aA];refine(hdu _).pthen ?_;refine⟨bB,?_⟩;simp only[go_sem];refine hy.app (zs:=(eN obls m).map bu) aey acP (fun k hk=>hk) ac1 ac1 ad2 fun y2 K3 hy2 kp2=>?_
     obtain⟨q2,eq2⟩:=hy2.row;subst eq2;have m3:=kp2 _ _ _ k3;have m12:=kp2 _ _ _ k12;have m6:=kp2 _ _ _ k6;refine⟨iK fun j hj=>?_,?_⟩
     ·simp only[List.mem_cons,List.not_mem_nil,or_false]at hj
      rcases hj with rfl|rfl
      ·rw[m3,k3]
      ·rw[m12,k12]
     simp only[go_sem,s12];refine⟨cL,fun _ _ e=>adb,?_⟩
     simp only[go_sem,s6,s12,m12];refine⟨fun _ _ e=>adb,?_⟩
     simp only[go_sem,ak,n126.symm,m6];exact .mk (rsA (m,(L++x.2)++eN obls m)) (qQ ((L++x.2)++eN obls m) m afl _) (((hsH.trans hy2.1).put (hsH.none h12) _).put n6' _) ⟨adF,rfl⟩
  ·have hge:i=parts.length:=by have:=acD e;omega
   subst hge;rw[List.take_length]at hL;have p3:pick K [i3,i12] i3=some (.obj [.s id,.b set,.i alg,aV tgt,.sl (rules.map aC) .no,.sl (fH kids) .no,aA obls] 96):=(bD acS).trans k3;have p12:pick K [i3,i12] i12=some (.obj [.v (.complex .f64 (hbit m.1) (hbit m.2)),.sl (L.map bu) ql] 120):=(bD acS).trans k12;simp only[go_sem];refine .stage (pick K [i3,i12]) [0,1,2,3,4,5,6,7] [8] bB acO ?_;simp only[go_sem,s3,s10,s12,p3,p12,aA];refine(hdu _).pthen ?_;refine⟨bB,?_⟩;simp only[go_sem];refine hy.app (zs:=(eN obls m).map bu) aey acP (fun k hk=>hk) ac1 ac1 ad2 fun y2 K2 hy2 kp2=>?_
   obtain⟨q2,eq2⟩:=hy2.row;subst eq2;have m3:=kp2 _ _ _ k3;have m12:=kp2 _ _ _ k12;have m6:=kp2 _ _ _ k6;refine⟨iK fun j hj=>?_,?_⟩
   ·simp only[List.mem_cons,List.not_mem_nil,or_false]at hj
    rcases hj with rfl|rfl
    ·rw[m3,k3]
    ·rw[m12,k12]
   simp only[go_sem,s12];refine⟨cL,fun _ _ e=>adb,?_⟩
   simp only[go_sem,s6,s12,m12];refine⟨fun _ _ e=>adb,?_⟩
   simp only[go_sem,ak,n126.symm,m6];exact .mk (rsA (m,L++eN obls m)) (qQ (L++eN obls m) m afl _) (((hsH.trans hy2.1).put (hsH.none h12) _).put n6' _) ⟨adF,rfl⟩):p:=h
theorem agS(h:p:=by
 have hlt:(c::r).headD 0=c:=rfl;refine(mK c _).pthen ?_;cases d1:dgt c
 case true=>simp only[go_sem,ah];refine(mw false (c::r) ade _ (he.sub acM)).pthen ?_;simp only[go_sem,g2,ah];exact .mk _ (.refl _) acM ⟨by simp[bQ,hl,d1,fM,ax],rfl⟩
 have nb:∀(x:UInt8) (n:Int),n=x.toNat→((c.toNat:Int)==n)=true→c=x:=fun x n e h=>by
  have:(c.toNat:Int)=n:=by simpa using h
  exact UInt8.toNat_inj.1 acK
 have nn:∀(x:UInt8) (n:Int),n=x.toNat→((c.toNat:Int)==n)=false→c≠x:=fun x n e h hc=>by subst hc;rw[e]at h;simp at h
 have k1:=o8 true r;have k2:=o8 false r;have k3:=uh r;cases d2:((c.toNat:Int)==45)
 case true=>
  have e2:=nb 45 45 rfl d2;simp only[go_sem,d2,ah,mb,Option.isSome_none,Option.isSome_some,Int.reduceToNat,List.drop_succ_cons,List.drop_zero,List.length_cons];refine⟨acK,acK,acK,?_⟩;refine(mw true r acK _ (he.sub acM)).pthen ?_;cases d3:((eW true r).1==0)
  ·have e3:(eW true r).1≠0:=by simpa using d3
   have w1:IntKind.i64.wrap (((eW true r).2:Int)+1)=(((eW true r).2+1:Nat):Int):=ac4;simp only[go_sem,d3,g2,ah,w1];exact .mk _ (.refl _) acM ⟨aeM,rfl⟩
  ·have e3:(eW true r).1=0:=by simpa using d3
   simp only[go_sem,d3,g2,ah];exact .mk _ (.refl _) acM ⟨aeM,rfl⟩
 have e2:=nn 45 45 rfl d2;cases d4:((c.toNat:Int)==64)
 case true=>
  have e4:=nb 64 64 rfl d4;simp only[go_sem,d2,d4,ah,mb,Option.isSome_none,Option.isSome_some,Int.reduceToNat,List.drop_succ_cons,List.drop_zero,List.length_cons];refine⟨acK,acK,acK,?_⟩;refine(mw false r acK _ (he.sub acM)).pthen ?_;cases d3:(((eW false r).2:Int)==0)
  case true=>have e3:(eW false r).2=0:=agz;simp only[go_sem,d3,g2,ah];exact .mk _ (.refl _) acM ⟨by subst e4;simp[bQ,hl,d1,e3,fM,ax],rfl⟩
  have e3:(eW false r).2≠0:=agz;cases d5:decide (1099511627776<(eW false r).1)
  ·have e5:¬1099511627776<(eW false r).1:=acD d5
   have w1:IntKind.i64.wrap (((eW false r).2:Int)+1)=(((eW false r).2+1:Nat):Int):=ac4;simp only[go_sem,d3,d5,g2,ah,w1];exact .mk _ (.refl _) acM ⟨aeC,rfl⟩
  ·have e5:1099511627776<(eW false r).1:=acC d5
   simp only[go_sem,d3,d5,g2,ah];exact .mk _ (.refl _) acM ⟨aeC,rfl⟩
 have e4:=nn 64 64 rfl d4;cases d6:((c.toNat:Int)==35)
 case true=>
  have e6:=nb 35 35 rfl d6;simp only[go_sem,d2,d4,d6,mb,Option.isSome_none,Option.isSome_some,Int.reduceToNat,List.drop_succ_cons,List.drop_zero,List.length_cons];refine⟨acK,acK,acK,?_⟩;refine(yB r _).pthen ?_;cases d3:(jE r== [])
  ·have e3:jE r≠ []:=by simpa using d3
   have w1:IntKind.i64.wrap (((jE r).length:Int)+1)=(((jE r).length+1:Nat):Int):=ac4;simp only[go_sem,d3,g2,ah,w1];exact .mk _ (.refl _) acM ⟨aeN,rfl⟩
  ·have e3:jE r= []:=by simpa using d3
   simp only[go_sem,d3,g2,ah];exact .mk _ (.refl _) acM ⟨aeN,rfl⟩
 have e6:=nn 35 35 rfl d6;cases d7:((c.toNat:Int)==34)
 case true=>have e7:=nb 34 34 rfl d7;simp only[go_sem,d2,d4,d6,d7,ah];refine(HF (c::r) ade _).pthen ?_;simp only[go_sem,g2,ah];exact .mk _ (.refl _) acM ⟨by subst e7;simp[bQ,hl,d1,fM,ax],rfl⟩
 have e7:=nn 34 34 rfl d7;simp only[go_sem,d2,d4,d6,d7];refine(Dd marks c _).pthen ?_;cases d8:Du c
 ·simp only[go_sem,g2,ah,rz,d8]
  exact .mk _ (.refl _) acM ⟨aeG,rfl⟩
 ·simp only[go_sem,rz,d8]
  refine .calls cL [0,1,2,3,4,5,6] (fun _ _ h=>adB) acO rfl ?_
  simp only[go_sem,g2,ah,sR,Option.isSome_none,Option.isSome_some,Int.reduceToNat,List.take_succ_cons,List.take_zero,List.length_cons];refine⟨acK,acK,acK,(fun _ _ h=>adB),(fun _ _ h=>adB),?_⟩
  exact .mk _ (.refl _) acM ⟨aeG,rfl⟩):p:=h
theorem agT(h:p:=by
 have hno:¬((op=12∨op=13)∧(l.any fun x=>isI x (op - 12))=true):=by rw[han,da,db];simp
 simp only[go_sem,hb.len,acA];refine .intro (fun m ρ H=>∃(i:Nat) (z:AV),Acc U 23 H0 H z ((l.take i).map fun x=>aP x.v)∧i≤l.length∧m=l.length - i∧(∀j (h1:j<l.length),j<i→l[j].e=0)∧lk ρ 1=some y∧lk ρ 3=some (.ptr i3 0)∧lk ρ 6=some (.ptr i6 0)∧lk ρ 10=some z∧lk ρ 55=some y∧lk ρ 56=some (.i l.length)∧lk ρ 57=some (.i i)) l.length ?_ ?_
 ·refine⟨0,.sl [] .full,.full (.refl _),acK,rfl,fun j _ hj=>acK,?_,?_,?_,?_,?_,?_,?_⟩<;>simp only[go_sem]
 ·rintro m ρ H ⟨i,z,hz,hi,rfl,hc,r1,r3,r6,r10,r55,r56,r57⟩
  have hsH:=hH0.trans hz.1;have hbH:=hb.sub hsH;have k3:=hz.1 _ _ g3;have k6:=hz.1 _ _ g6;simp only[go_sem,r56,r57];refine .intro (fun e=>?_) (fun e=>?_)
  ·have hlt:i<l.length:=acH e
   have w1:=acG i acK;have hsn:(l.take (i+1)).map (fun x=>aP x.v)=(l.take i).map (fun x=>aP x.v)++ [aP l[i].v]:=adX
   simp only[go_sem,r55,r57];refine hbH.idx (e:=306) i rfl ada acT acN fun p hp1=>?_
   have hld:=hp1.all (U:=U) (ty:=306) acT adp adp;obtain⟨x,ex⟩:∃x,l[i]=x:=⟨_,rfl⟩;rw[ex]at hsn;simp only[go_sem,hld,acB,ex,bP];intro i12 h12;have n126:i12≠i6:=fun e=>aeO
   cases dx:(x.e !=0)
   ·have dx' :x.e=0:=by simpa using dx
    simp only[go_sem,r10,dx];refine(hz.sub (.aj h12)).app (zs:=[aP x.v]) acP acP (fun k hk=>hk) ad3 aej ac2 fun z' H' hz' kp=>?_
    simp only[go_sem,r57,w1];refine⟨_,?_,i+1,z',by rw[hsn];exact hz',acK,rfl,fun j h1 hj=>?_,?_,?_,?_,?_,?_,?_,?_⟩
    ·omega
    ·by_cases hji:j=i
     ·subst hji;rw[ex];exact dx'
     ·exact hc j h1 acK
    all_goals simp only[go_sem,r1,r3,r6,r55,r56]
   ·have hfi:l.find? (fun x=>x.e !=0)=some x:=by rw[←ex];exact List.find?_eq_some_iff_getElem.2 ⟨by rw[ex];exact dx,i,hlt,rfl,fun j hj=>agc⟩
    simp only[go_sem,r6,dx,ak,n126.symm,k6];exact .mk (bP ⟨[],an,x.e⟩) (lp (x:=⟨[],an,x.e⟩) rfl _) ((hsH.trans (.aj h12)).put n6' _) ⟨afZ,rfl⟩
  ·have hge:i=l.length:=by have:=acD e;omega
   subst hge;have hfi:l.find? (fun x=>x.e !=0)=none:=List.find?_eq_none.2 fun x hx=>by obtain⟨j,hj,rfl⟩:=List.mem_iff_getElem.1 hx;rw[hc j hj hj];decide
   have hnd:=uL (gs:=gs) (val:=val) (attr:=attr) hp1' hp2' hno hfi;rw[List.take_length]at hz;obtain⟨qz,eqz⟩:=hz.row;subst eqz;have hcl:=fun G=>BD op (l.map (·.v)) afS qz G
   rw[List.map_map]at hcl;have hcl:∀G,ai Tryz.prog 263 [.i op,.sl (l.map fun x=>aP x.v) qz] G fun r h' =>r=qX (gT op (l.map (·.v)))∧h' =G:=hcl
   obtain⟨⟨v,e⟩,ev⟩:∃x,gT op (l.map (·.v))=x:=⟨_,rfl⟩
   rw[ev]at hcl;simp only[go_sem,r3,r10,k3,q3,q4,q5];refine(hcl _).pthen ?_;simp only[go_sem,qX,aP];intro i13 h13;have n136:i13≠i6:=fun e=>agl
   simp only[go_sem,r6,ak,n136.symm,k6];exact .mk (bP ⟨[],v,e⟩) (lp (x:=⟨[],v,e⟩) rfl _) ((hsH.trans (.aj h13)).put n6' _) ⟨adG,rfl⟩):p:=h
theorem agU(h:p:=by
 have hd:isD st' pn=true∨isD st' iX=true:=by grind
 have eb:=(mJ hd).1;have ek:=(mJ hd).2;have db:(st'.bad !=0)=false:=acL;have gP:=hH;unfold PO at gP;have lim:l.length=16∨st'.rules=64→(l,bF st' true)=M:=fun h=>by rw[←hfin];simp only[jZ,if_pos hd,if_pos h]
 have hdl:bF st' true=bI st' 6 (aL st').pos:=rfl;have hlb:((bF st' true).bad !=0)=true:=by grind [bI]
 cases dA:((l.length:Int)==16)
 ·cases dB:((st'.rules:Int)==64)
  ·have nA:l.length≠16:=fun e=>by grind
   have nB:st'.rules≠64:=fun e=>acL
   have hno:¬(l.length=16∨st'.rules=64):=fun h=>h.elim nA nB
   simp only[jZ,if_pos hd,if_neg hno]at hfin;simp only[go_sem,r0,r3,hy.len,acA,dA,gP,dB];refine(cK st' false ha.1).go hH ?_;rw[show bF st' false=st' from rfl,bl hH]
   have w1:IntKind.i64.wrap ((st'.rules:Int)+1)=((st'.rules+1:Nat):Int):=acX;have w2:IntKind.i64.wrap ((st'.pos:Int)+1)=((st'.pos+1:Nat):Int):=acX;simp only[go_sem,r0,gP,db,w1];have hwr:WfP {st' with rules:=st'.rules+1}:=ha.1
   refine(tv {st' with rules:=st'.rules+1} iX hwr).go (ah ..) ?_
   rw[nK];have g2:upd H id (some (PO {st' with rules:=st'.rules+1})) id=some (.obj [.sl (st'.ts.map fM) .no,.i st'.pos,.i (st'.rules+1:Nat),.i st'.bad,.i st'.place] 148):=ah ..
   simp only[go_sem,r0,r3,g2,w2];have h2:Ah st' {bk st' with rules:=st'.rules+1}:=xk ha.1 ek
   have h3:=Bx (isD st' iX) h2.1;have hrp:=Ma (isD st' iX) {bk st' with rules:=st'.rules+1} h2.1
   have hr3:=(rC (yU (isD st' iX) {bk st' with rules:=st'.rules+1})).2.2
   obtain⟨x,st2,e2⟩:∃x st2,pU (isD st' iX) {bk st' with rules:=st'.rules+1}=(x,st2):=⟨_,_,rfl⟩
   rw[e2]at hfin hrp h3 hr3;simp only[aC]at hrp hfin h3 hr3;refine hrp.go (ah ..) ?_;rw[nK];simp only[go_sem];refine(hy.put hB hH _).app (zs:=[aC x]) acN acN (fun k hk=>hk) (by grind [OP,wV]) (by rw[OP];exact wV [x]) (by grind [Vj]) fun y' H2 hy' hk2=>?_
   have hH2:H2 id=some (PO st2):=hk2 _ _ _ (ah ..);simp only[go_sem];refine⟨_,?_,g,st2,l++ [x],y',hH2,acL,(ha.trans h2).trans h3,acK,hfin,acL,acL,rfl,?_,?_⟩
   ·omega
   all_goals simp only[go_sem,r0]
  ·have nB:st'.rules=64:=by grind
   have e:=lim (.inr nB);simp only[go_sem,r0,r3,hy.len,acA,dA,gP,dB];refine(cK st' true ha.1).go hH ?_;have g3:upd H id (some (PO (bF st' true))) id=some (PO (bF st' true)):=ah ..;unfold PO at g3;simp only[go_sem,r0,r3,g3,hlb,PO];exact .mk (h' :=upd G id (some (PO M.2))) (.sl (M.1.map aC) .no) adL adk ⟨rfl,rfl⟩
 ·have nA:l.length=16:=by grind
  have e:=lim (.inl nA);simp only[go_sem,r0,r3,hy.len,acA,dA];refine(cK st' true ha.1).go hH ?_;have g3:upd H id (some (PO (bF st' true))) id=some (PO (bF st' true)):=ah ..;unfold PO at g3;simp only[go_sem,r0,r3,g3,hlb,PO];exact .mk (h' :=upd G id (some (PO M.2))) (.sl (M.1.map aC) .no) adL adk ⟨rfl,rfl⟩):p:=h
theorem agV(h:p:=by
 refine(uf st hw).run ?_;rw[en]at eh;injection eh with eh1 eh2
 injection eh1 with eh3 eh4
 subst eh2;subst eh3;subst eh4;simp only[go_sem,c6,ak,n6,m67,aP];refine(hacX _ _ _).app (zs:=[dH (⟨1,(aD st).1,⟨0,[],false⟩⟩:aZ)]) agv agw (fun k hk=>hk) afQ aev afB fun y3 H3 hy3 hk3=>?_
 have hH3:H3 id=some (PO (aD st).2):=hk3 _ _ _ (ah ..);have hb3:H3 i6=some (.obj [.v (.int .i64 (⟨1,(aD st).1,⟨0,[],false⟩⟩:aZ).op),.v (.int .i64 (⟨1,(aD st).1,⟨0,[],false⟩⟩:aZ).val.kind),.v (.int .i64 (⟨1,(aD st).1,⟨0,[],false⟩⟩:aZ).val.n),.s (⟨1,(aD st).1,⟨0,[],false⟩⟩:aZ).val.s,.v (.int .i64 (⟨1,(aD st).1,⟨0,[],false⟩⟩:aZ).attr.cat),.s (⟨1,(aD st).1,⟨0,[],false⟩⟩:aZ).attr.name,.v (.bool (⟨1,(aD st).1,⟨0,[],false⟩⟩:aZ).attr.must)] 261):=hk3 _ _ _ ((ag _ _ n6).trans (ah ..));simp only[go_sem,hy3.len,acE,acA,List.length_cons,List.length_nil,Nat.zero_add,hdec];refine(cK (aD st).2 _ hha.1).go hH3 ?_;simp only[go_sem,ak,n6,hb3];refine⟨.of acO,?_⟩;have efin:eD (f+1) st l=((l++ [(⟨1,(aD st).1,⟨0,[],false⟩⟩:aZ)],(⟨1,(aD st).1,⟨0,[],false⟩⟩:aZ).op==2),bF (aD st).2 (decide (32<l.length+1))):=agC;exact .mk (.tup [y3,.b ((⟨1,(aD st).1,⟨0,[],false⟩⟩:aZ).op==2)]) (.refl _) (.refl _) ⟨y3,by rw[efin],afe,adw⟩):p:=h
theorem agW(h:p:=by
 have hH2:H2 id=some (PO st2):=hk2 _ _ _ (ah ..);simp only[go_sem,r0,hy'.len,acE,acA,List.length_cons,List.length_nil,Nat.zero_add,hdec];refine(cK st2 _ h3.1).go hH2 ?_;simp only[go_sem];refine⟨_,?_,g,bF st2 (decide (8<l.length+1)),l++ [x],y',ah ..,aeb,(((ha.trans h2).trans h3).trans h4),hfin,acK,acL,rfl,?_,?_⟩
 ·grind
 all_goals simp only[go_sem,r0]):p:=h
theorem agX(h:p:=by
 cases k2:(o.kind==2)
 ·have p2:o.kind≠2:=by omega
  have k2n:(o.kind !=2)=true:=acL;cases d256:decide ((256:Int)≤((bz s.cases o.case).log.length:Int))
  ·have p256:¬256≤(bz s.cases o.case).log.length:=by grind
   simp only[go_sem,ak,n32.symm,acA,k3,k2n,d256];cases dcl:((bz s.cases o.case).state==gU)
   ·have pcl:(bz s.cases o.case).state≠gU:=by grind
    simp only[gU]at dcl;simp only[go_sem,ak,n32.symm,dcl];cases k4:(o.kind==4)
    ·have p4:o.kind≠4:=by omega
     simp only[go_sem];exact .mk _ (.refl _) (hs3 _ _ _) ⟨aep,rfl⟩
    ·have p4:o.kind=4:=by grind
     omega
   ·have pcl:(bz s.cases o.case).state=gU:=by grind
    simp only[gU]at dcl;simp only[go_sem,dcl];exact .mk _ (.refl _) (hs3 _ _ _) ⟨aep,rfl⟩
  ·have p256:256≤(bz s.cases o.case).log.length:=by grind
   simp only[go_sem,acA,k2n,d256];exact .mk _ (.refl _) (hs3 _ _ _) ⟨aep,rfl⟩
 ·have p2:o.kind=2:=by grind
  omega):p:=h
theorem agY(h:p:=by exact .mk (h' :=upd G id (some (PO (aD st).2))) _ (.refl _) acR ⟨ady,rfl⟩):p:=h
theorem agZ(h:p:=by
 have hx:xs= []:=by grind
 simp only[go_sem];exact ac3):p:=h
theorem ag0(h:p:=by
 refine(hy.sub (.aj h7)).app (zs:=[bu o]) aey acP (fun k hk=>hk) ac1 adN ac9 fun y' H' hy' kp=>?_
 simp only[go_sem,r10,w1];refine⟨_,?_,i+1,y',adu,acK,rfl,?_,?_,?_,?_,?_⟩
 ·omega
 all_goals simp only[go_sem,r1,r8,r9]):p:=h
theorem ag1(h:p:=by simp only[go_sem];exact .mk _ (.refl _) (hs _ _) ⟨aeh,rfl⟩):p:=h
theorem ag2(h:p:=by
 cases h id with
 |none=>rfl
 |some b=>cases b<;>rfl):p:=h
theorem ag3(h:p:=by simp only[go_sem];exact adl):p:=h
theorem ag4(h:p:=by simp only[go_sem];exact .mk _ (.refl _) (hs3 _ _ _) ⟨aep,rfl⟩):p:=h
theorem ag5(h:p:=by
 cases nx<;>simp only[lW]at hu<;>simp only[Oper.upon]
 case value u=>exact next u w' hu
 case skip=>exact next undef w' hu
 case enter f args=>obtain⟨rfl,hc⟩:=hu;exact hc.mono fun e w'' ⟨u,he,hcm⟩=>acL):p:=h
theorem ag6(h:p:=by
 intro i1 h1;have n1:k≠i1:=fun e=>acL
 simp only[go_sem,ak,n1,hk];exact ac0):p:=h
theorem ag7(h:p:=by
 refine⟨_,?_,i+1,_,adn,acK,rfl,?_,?_,?_,?_,?_⟩
 ·omega
 all_goals simp only[go_sem,r1,r5,r8,r9]):p:=h
theorem ag8(h:p:=by
 simp only[go_sem,r57,w1];have hskip:fQ (c.fields.take (i+1))=fQ (c.fields.take i):=by have:¬c.fields[i].name.length≤14:=acL;rw[mc _ _ hlt,if_neg this,List.append_nil]
 refine⟨_,?_,i+1,y,ys,hy.sub (.aj h8),(ag _ _ n81).trans g1,acL,acK,rfl,?_,?_,?_,?_,?_⟩
 ·omega
 all_goals simp only[go_sem,r5,r2,r55,r56]):p:=h
theorem ag9(h:p:=by
 have h3:=(of'.nid e).2.1;have n1:id≠id1:=fun e' =>by
  rcases ap3 id e with h|h
  ·rw[e',hidK]at h;cases h
  ·exact(nf4 id h).2.2.2 e'
 have n2:nid l≠some id:=fun e' =>by
  rcases ap3 id e with h|h
  ·have:=kK id (ol.nid e').2.1;rw[h]at this;exact(ol.nid e').2.1 this.symm
  ·exact hap id h e'
 rw[o5 id (hz4 id (of'.nid e).1),fr4 id h3 n1 n2]):p:=h
theorem aha(h:p:=by simp only[go_sem];exact adj):p:=h
theorem ahb(h:p:=by
 have h6:j - (xs.length+ys.length)<ncap - (xs.length+ys.length):=acK;simp only[Array.size_append,List.size_toArray,aT,Nat.mul_one,Builtin.zeroCells,z2,Array.getElem?_map,Array.getElem?_range,h6,if_true,Option.map_some,Option.getD_some,Nat.mod_one];rw[getElem!_pos z.cells 0 acK,Array.getD,dif_pos (show 0<z.cells.size by omega)]
 rfl):p:=h
theorem ahc(h:p:=by
 refine((hy.sub (.aj h7)).sub (.aj h8)).app (zs:=[tE i]) acK acN (fun k hk=>hk) (by rw[uI];exact bx (f:=tE) (fun _=>rfl) _) afj adY fun y' H' hy' kp=>?_
 simp only[go_sem,r12,w1];refine⟨_,?_,i+1,y',acL,acK,rfl,?_,?_,?_,?_,?_⟩
 ·omega
 all_goals simp only[go_sem,r1,r10,r11]):p:=h
theorem ahd(h:p:=by
 cases v<;>first|exact x2.1.1|skip
 rw[hk]at hd;unfold Value.okWide at hv;simp[Cell.okWide,Cell.ok,hd]at hv):p:=h
theorem ahe(h:p:=by simp only[go_sem];intro i1 h1;simp only[go_sem];exact ac0):p:=h
theorem ahf(h:p:=by
 obtain⟨rfl,_⟩:=hcp acK;have hd1:c.w.drew.heap=c.w.heap:=rfl;have:=run_loadCells (P:=P) c.w.drew ⟨(c.φ id).block,o',none⟩ (len*(U e).sz) (fun q=>us.getD (o' +q) undef) (fun j hj=>by rw[cC];have:o' +j<us.size:=acK;simp[World.cell?,hd1,u1,this])
 simpa[Builtin.firstCells]using this):p:=h
theorem ahg(h:p:=by
 intro i1 h1;cases d1:(x.e==0)
 ·simp only[go_sem,d1]
  exact .mk _ (.refl _) (.aj h1) ⟨by simp only[isI,d1,Bool.false_and];rfl,rfl⟩
 ·simp only[go_sem,d1]
  exact .mk _ (.refl _) (.aj h1) ⟨by simp only[isI,d1,Bool.true_and,eqV];rfl,rfl⟩):p:=h
theorem ahh(h:p:=by
 obtain⟨n,hn⟩:=hg.has i hi;simp only[List.mem_cons]at hq;rcases hq with rfl|rfl|hq
 ·obtain⟨z,hz,_⟩:=hdk
  rw[hz]at hn;cases hn
 ·obtain⟨z,zs,hz,_⟩:=hj
  rw[hz]at hn;cases hn
 ·obtain⟨z,zs,_,hz,_⟩:=hj
  obtain⟨n2,hn2⟩:=hz.has i hq;rw[hn2]at hn;cases hn):p:=h
theorem ahi(h:p:=by
 simp only[List.mem_cons]at hq;rcases hq with rfl|rfl|hq
 ·obtain⟨z,hz,_⟩:=hdk
  exact⟨_,hz,fun cs hh=>aea⟩
 ·obtain⟨z,zs,hz,_⟩:=hj
  exact⟨_,hz,fun cs hh=>aea⟩
 ·obtain⟨z,zs,_,hz,_⟩:=hj
  obtain⟨n,hn⟩:=hz.has q hq;exact⟨_,hn,fun cs hh=>aea⟩):p:=h
theorem ahj(h:p:=by rw[ex]at hg;simp only[go_sem];refine(hg _).pthen ?_;simp only[go_sem,qX,aP];exact .mk _ (.refl _) (.aj h1) ⟨by rw[ex];rfl,rfl⟩):p:=h
theorem ahk(h:p:=by
 have e1:v.kind=1:=acL;cases d1:(v.n==0)<;>cases d2:(v.n==1)
 ·simp only[go_sem,k1,d1,d2]
  exact .mk _ (.refl _) (.aj hid) ⟨ad5,rfl⟩
 all_goals
  simp only[go_sem,k1,d1,d2];exact .mk _ (.refl _) (.aj hid) ⟨ad5,rfl⟩):p:=h
theorem ahl(h:p:=by refine(lG st hw).run ?_;simp only[go_sem];exact .mk _ (.refl _) (Sub.both (.aj hG2) _ _) ⟨ady,by rw[en]⟩):p:=h
theorem ahm(h:p:=by simp only[go_sem];exact .mk _ (.refl _) (.aj h1) ⟨ad9,rfl⟩):p:=h
theorem ahn(h:p:=by obtain⟨m1,m2⟩:=m;obtain⟨n1,n2⟩:=n;obtain⟨a1,a2⟩:=hmm;obtain⟨b1,b2⟩:=hn;simp only at a1 a2 b1 b2;rcases le2 a1 with rfl|rfl|rfl<;>rcases le2 a2 with rfl|rfl|rfl<;>rcases le2 b1 with rfl|rfl|rfl<;>rcases le2 b2 with rfl|rfl|rfl<;>rfl):p:=h
theorem aho(h:p:=by simp only[go_sem];exact acW):p:=h
theorem ahp(h:p:=by
 rcases hor with hor|⟨l,c,ey⟩
 ·exact afF
 ·exact .inr agx):p:=h
theorem ahq(h:p:=by unfold M6 uK at h;simp only[List.mem_cons,List.not_mem_nil,or_false]at h;rcases h with rfl|rfl|rfl|rfl|rfl|rfl<;>decide):p:=h
theorem ahr(h:p:=by
 by_cases e9:i=9
 ·subst e9
  rw[p9]at hu⊢;omega
 ·have h1:(128:Nat) ^ i≤128 ^ 8:=Nat.pow_le_pow_right acN acK
  have h2:(128:Nat) ^ 8=72057594037927936:=acN;have h3:c.toNat % 128*128 ^ i≤127*128 ^ i:=Nat.mul_le_mul_right _ acK;omega):p:=h
theorem ahs(h:p:=by have h3:c.toNat % 128*128 ^ i≤127*128 ^ i:=Nat.mul_le_mul_right _ acK;omega):p:=h
theorem aht(h:p:=by
 refine⟨_,?_,rfl,i+1,acK,rfl,aes,?_,?_,?_⟩
 ·omega
 all_goals simp only[go_sem,r0,r8]):p:=h
theorem ahu(h:p:=by simp only[go_sem];exact .mk _ (.refl _) (hs _ _) ⟨by grind [fU,ax],rfl⟩):p:=h
theorem ahv(h:p:=by
 simp only[go_sem,s21,a1,w2];refine⟨_,?_,hs2.trans (.aj h7),adm,j+1,acK,rfl,hci acL,?_,?_,?_,?_,?_,?_,?_⟩
 ·omega
 all_goals simp only[go_sem,s2,s8,s9,s10,s19,s20]):p:=h
theorem ahw(h:p:=by
 induction s generalizing i with
 |nil=>grind
 |cons c r ih=>
  cases i with
  |zero=>simp_all
  |succ i=>
   by_cases hc:p c=true
   ·simp only[List.takeWhile_cons,hc,if_true,List.length_cons]at h⊢
    grind
   simp_all):p:=h
theorem ahx(h:p:=by
 simp only[go_sem,r57,w1];refine⟨_,?_,i+1,y',_,hy',kp _ _ _ ((ag _ _ n81).trans g1),aex,acK,rfl,?_,?_,?_,?_,?_⟩
 ·omega
 all_goals simp only[go_sem,r2,r55,r56]):p:=h
theorem ahy(h:p:=by
 rcases List.mem_or_eq_of_mem_set hz with hz|rfl
 ·exact hsz z hz
 ·rfl):p:=h
theorem ahz(h:p:=by
 have e1:v.kind=4:=acL;cases d1:decide (0≤v.n)<;>cases d2:decide (v.n≤1099511627776)
 all_goals
  simp only[go_sem,k1,k2,k3,k4,d1,d2];exact .mk _ (.refl _) (.aj hid) ⟨ad5,rfl⟩):p:=h
theorem ahA(h:p:=by
 rcases List.mem_append.1 hz with hz|hz
 ·exact hsz z (List.mem_of_mem_take hz)
 ·rcases List.mem_append.1 hz with hz|hz
  ·rw[List.mem_singleton.1 hz];exact hv
  ·exact hsz z (List.mem_of_mem_drop hz)):p:=h
theorem ahB(h:p:=by
 cases hh:h id with
 |none=>rfl
 |some k=>rw[hs _ _ hh]at hid;omega):p:=h
theorem ahC(h:p:=by
 rw[dv,if_pos rfl]at e5;simp only[go_sem];refine b6.step (oO _ _) fun g7 b7 k7=>?_
 have c7:=(k7 i1 n1).trans c6;simp only[go_sem,c7,ah];rw[e5];exact adS):p:=h
theorem ahD(h:p:=by rw[BitVec.toNat_or,BitVec.toNat_ofNat,BitVec.toNat_ofNat,Nat.mod_eq_of_lt acK,Nat.mod_eq_of_lt acK,Nat.or_comm,←Nat.shiftLeft_eq,←Nat.shiftLeft_add_eq_or_of_lt ha,Nat.add_comm,Nat.shiftLeft_eq]):p:=h
theorem ahE(h:p:=by simp only[go_sem];exact .mk _ (.refl _) (.refl _) ⟨rfl,by rw[←hup]⟩):p:=h
theorem ahF(h:p:=by simp only[go_sem,ak,n63.symm];exact adE):p:=h
theorem ahG(h:p:=by
 simp only[List.mem_cons,List.not_mem_nil,or_false]at hw;rcases hw with rfl|rfl|rfl|rfl
 ·exact(w1.nid e).2.1
 ·exact(w2.nid e).2.1
 ·exact(w3.nid e).2.1
 ·exact(w4.nid e).2.1):p:=h
theorem ahH(h:p:=by
 have e1:v.kind=3:=acL;cases d1:(v.n==0)
 all_goals
  simp only[go_sem,k1,k2,k3,d1];exact .mk _ (.refl _) (.aj hid) ⟨by simp[aW,e1,d1,ax]<;>omega,rfl⟩):p:=h
theorem ahI(h:p:=by exact .mk _ (.refl _) (.aj hid) ⟨by grind [kQ,ax],rfl⟩):p:=h
theorem ahJ(h:p:=by
 have h1:=hH _ _ hk;rw[fr4 k (by rw[sH3 _ _ h1];simp) (fun e=>by rw[e,hg1]at h1;cases h1) (fun e=>by have:=(ol.nid e).1;rw[h1]at this;cases this)]
 exact sH3 _ _ h1):p:=h
theorem ahK(h:p:=by refine⟨s.length - (i+1),acK,i+1,f,y,out,id,hy,acK,acK,rfl,acK,hs,hid,⟨c0,c1,c2,c3,hob⟩,hl2,?_,?_,?_,?_⟩<;>simp only[go_sem,r0,r5,r6]):p:=h
theorem ahL(h:p:=by rcases hb with⟨q,rfl⟩|⟨id,off,cs,rfl,_⟩<;>rfl):p:=h
theorem ahM(h:p:=by exact .same (.refl _) ⟨agN,hk3,fun m' h' =>acL⟩):p:=h
theorem ahN(h:p:=by
 have f4:16<kids.length:=by have:=acC t4;omega
 simp only[go_sem,t2,hip2,acA,t3,bf,t4];exact .same (.refl _) (bad _ (by rw[e3];simp[need,f1,f2,f4]))):p:=h
theorem ahO(h:p:=by simp only[go_sem,c2,c3,c23,ak,n2,n3,m23,aP,r2,r3];exact .mk (h' :=upd G id (some (PO (gA st).2))) _ (.refl _) ad1 ⟨ady,rfl⟩):p:=h
theorem ahP(h:p:=by
 have f3:16<rules.length:=by have:=acC t3;omega
 simp only[go_sem,t2,hip2,acA,t3];exact .same (.refl _) (bad _ (by rw[e3];simp[need,f1,f2,f3]))):p:=h
theorem ahQ(h:p:=by refine⟨.of acO,?_⟩;refine(oO t s.at_).go hid2 ?_;simp only[go_sem];exact .mk _ (.refl _) (.refl _) ⟨rfl,hup _⟩):p:=h
theorem ahR(h:p:=by obtain⟨_,⟨q,rfl⟩|⟨id,off,cap,cs,t,rfl,_⟩⟩:=hb<;>rfl):p:=h
theorem ahS(h:p:=by
 induction h with
 |nil=>rfl
 |keep x h ih=>grind
 |skip h ih=>grind):p:=h
theorem ahT(h:p:=by exact .mk _ (.refl _) (.refl _) ⟨rfl,by rw[←hup,bl hid2]⟩):p:=h
theorem ahU(h:p:=by
 rcases List.mem_cons.1 hh with rfl|hh
 ·rw[hx3]at hz1;cases hz1
 ·obtain⟨n,hn⟩:=hg3.has jid hh
  rw[hz1]at hn;cases hn):p:=h
theorem ahV(h:p:=by simp only[go_sem,ak,n63.symm];refine(hip _).pthen ?_;simp only[go_sem];exact aeQ):p:=h
theorem ahW(h:p:=by simp only[go_sem,ak,n63.symm];refine(hid _).pthen ?_;simp only[go_sem];exact aeR):p:=h
theorem ahX(h:p:=by have n5:v.kind≠5:=acL;simp only[go_sem,k1,k2,k3,k4,k5];exact .mk _ (.refl _) (.aj hid) ⟨ad5,rfl⟩):p:=h
theorem ahY(h:p:=by simp only[go_sem,ak,n43.symm];exact .mk _ (.refl _) (by grind [Sub.put]) ⟨by grind [ud,aP,ax],rfl⟩):p:=h
theorem ahZ(h:p:=by
 simp only[jo,List.mem_append,List.mem_singleton]at hx;rcases hx with hx|rfl
 ·exact hc.actor x hx
 ·exact⟨F.subj,t64⟩):p:=h
theorem ah0(h:p:=by
 rw[show ax [y']=y' from rfl,hw.nid]at hk
 cases hk;rcases hor with hor|⟨l,c,ey⟩
 ·exact afF
 ·cases ey;exact .inr rfl):p:=h
theorem ah1(h:p:=by
 have f2:ij obls≠0:=by simpa using t2
 simp only[go_sem,t2];exact .same (.refl _) (bad _ (by rw[e3];simp[need,f1,f2]))):p:=h
theorem ah2(h:p:=by
 simp only[bh];split
 ·rename_i x y ts' tx h1 h2
  simp only[withv,ha x (by rw[h1];simp),ha y (by rw[h1];simp)]
 ·rfl):p:=h
theorem ah3(h:p:=by have hne:0<xs.length:=List.length_pos_iff.2 hx;have a1:=hs.hz 0 hne;have a2:=hcond rfl _ (acF hne);rw[a2]at a1;rw[a1]):p:=h
theorem ah4(h:p:=by subst hge;rw[List.take_length]at r5;simp only[go_sem,r5];exact .mk _ (.refl _) hs ⟨rfl,rfl⟩):p:=h
theorem ah5(h:p:=by
 have f1:lH tgt≠0:=by simpa using t1
 simp only[go_sem,t1];exact .same (.refl _) (bad _ (by rw[e3];simp[need,f1]))):p:=h
theorem ah6(h:p:=by exact .mk _ (.refl _) (.aj hid) ⟨by grind [qj,ax],rfl⟩):p:=h
theorem ah7(h:p:=by exact .mk _ (.refl _) (.aj hid) ⟨by grind [kU,ax],rfl⟩):p:=h
theorem ah8(h:p:=by exact .mk _ (.refl _) (.aj hid) ⟨by grind [jP,ax],rfl⟩):p:=h
theorem ah9(h:p:=by simp only[go_sem,ak,n21];exact .mk _ (.refl _) (by grind [Sub.put]) ⟨by grind [LG,ax],rfl⟩):p:=h
theorem aia(h:p:=by have e1:v.kind=2:=acL;simp only[go_sem,k1,k2];exact .mk _ (.refl _) (.aj hid) ⟨ad5,rfl⟩):p:=h
theorem aib(h:p:=by exact .mk _ (.refl _) hy.1 ⟨by rw[←he];rfl,rfl⟩):p:=h
theorem aic(h:p:=by simp only[go_sem,ak,hne,hne.symm];refine .mk _ (.refl _) ?_ ⟨rfl,rfl⟩;exact afE):p:=h
theorem aid(h:p:=by have:(len+ys.length)≤(len+ys.length)*(U e).bytes:=Nat.le_mul_of_pos_right _ acK;simp only[lim];omega):p:=h
theorem aie(h:p:=by simp only[go_sem,k1,k2,k3,k4,k5,d1];exact .mk _ (.refl _) (.aj hid) ⟨ad5,rfl⟩):p:=h
theorem aif(h:p:=by
 rename_i hki
 exact sO (P:=P) (ty:=o.type) hU (by rw[hki];rfl) hk2 c _ _ hs g (aF he hA') (aF he hB')):p:=h
theorem aih(h:p:=by rw[lu,if_pos];rw[List.contains_iff_mem];simp only[eY,List.mem_filterMap];exact⟨.tmp t,acL,rfl⟩):p:=h
theorem aii(h:p:=by exact .same (.refl _) ⟨bad (by grind [tF]),rfl⟩):p:=h
theorem aij(h:p:=by
 by_cases hj:j=id
 ·subst hj;rw[ah]at e;rw[hr.here,e]
 ·rw[ag _ _ hj]at e;exact hr.sub j b hj e):p:=h
theorem aik(h:p:=by refine⟨k,acK,rfl,i+1,u',acK,acK,hr,hnew,?_,?_,?_⟩<;>simp only[go_sem,r0]):p:=h
theorem ail(h:p:=by exact .mk _ (.refl _) (hsub.put h1 _) ⟨af2,rfl⟩):p:=h
theorem aim(h:p:=by rw[qS];rw[List.getElem?_eq_getElem ada,acB];rfl):p:=h
theorem ain(h:p:=by simp only[List.singleton_append,List.cons_append,List.cons.injEq]at h;have:=Cc acK acK h.1;omega):p:=h
theorem aio(h:p:=by exact .same (.refl _) ⟨by rw[e4];rfl,hkk,fun m' h' =>by rw[e4]at h';cases h';exact hw2⟩):p:=h
theorem aip(h:p:=by
 refine⟨.refl _,0,acK,rfl,?_,?_,?_,?_,?_⟩<;>simp only[go_sem]
 rfl):p:=h
theorem aiq(h:p:=by simp only[go_sem];exact .mk _ (.refl _) (.refl _) ⟨rfl,by grind [dV]⟩):p:=h
theorem air(h:p:=by
 rename_i e;subst e
 simp only[Option.some.injEq]at hy;subst hy
 simpa[Act.put,hd']using hx):p:=h
theorem ais(h:p:=by simp only[go_sem,d1,d2];exact .same (.refl _) ⟨by grind [j8,ax],rfl⟩):p:=h
theorem ait(h:p:=by simp only[←eCS,cc,List.append_assoc,List.cons_append,List.nil_append]at this⊢;exact adr):p:=h
theorem aiu(h:p:=by rw[dv,if_neg acN]at e5;simp only[go_sem,d6,c6,ah];rw[e5];exact adR):p:=h
theorem aiv(h:p:=by rw[db,if_pos rfl]at e5;simp only[go_sem,db,c6,ah];rw[e5];exact adR):p:=h
theorem aiw(h:p:=by simp[execOp,ho,hu,Instr.sliceAt,Instr.slice,run_underlying hd,hb,bE hU hz,cC];split<;>rfl):p:=h
theorem aix(h:p:=by
 unfold doE;rw[if_neg (by rw[hd];decide)]
 simp only[hd];rw[if_neg (by rw[hne];simp)]):p:=h
theorem aiy(h:p:=by have efin2:aQ s=(.mk pid pset palg ptgt prules pkids pobls,0,0):=acL;rw[efin2];exact adA):p:=h
theorem aiz(h:p:=by simp only[go_sem];exact .same (.refl _) ⟨by grind [jE,ax],rfl⟩):p:=h
theorem aiA(h:p:=by
 have en:ld l=none:=by grind [ld]
 simp only[go_sem,hc,ah];exact afK):p:=h
theorem aiB(h:p:=by
 unfold cj rIn;rw[if_neg (by simp[hb]),ex]
 simp only;rw[if_neg];unfold i64 at hx;omega):p:=h
theorem aiC(h:p:=by simp only[go_sem];exact .mk _ (.refl _) (.aj hid) ⟨_,agG,ags⟩):p:=h
theorem aiD(h:p:=by simp only[cc,List.append_assoc,List.cons_append,List.nil_append]at this⊢;exact adr):p:=h
theorem aiE(h:p:=by simp only[go_sem];exact .mk _ (.refl _) (.aj hid) ⟨ad5,rfl⟩):p:=h
theorem aiF(h:p:=by obtain⟨b,hb,h3⟩:=hin x hi;rw[hx]at hb;exact h3 _ (Option.some.inj hb).symm):p:=h
theorem aiG(h:p:=by
 cases e:h0 i with
 |none=>rfl
 |some b=>rw[hr.sub i b (hr.ne hi) e]at hi;omega):p:=h
theorem aiH(h:p:=by
 simp only[ev,hv];rw[if_neg (by simp[rOn,h.1])]
 simp[rOn,acE,Nat.add_assoc]):p:=h
theorem aiI(h:p:=by have h3:=kk3 k b c d;rw[o5 k (hz4 k a),fr4 k (by rw[h3];exact b) c e,h3]):p:=h
theorem aiJ(h:p:=by simp only[go_sem];exact .same (.refl _) ⟨acY,rfl⟩):p:=h
end
end Go
namespace Go
theorem acz{n m:Nat}(h:Nat.ble n m=true):n≤m:=Nat.le_of_ble_eq_true h
theorem acA.{u,v} {α:Type u} {β:Type v} {l:List α} (f:α→β):(l.map f).length=l.length:=List.length_map f
theorem acB.{u,v} {α:Type u} {β:Type v} (f:α→β) {l:List α} {i:Nat} {h:i<(l.map f).length}:(l.map f)[i]=f (l[i]'(List.length_map (as:=l) f▸h)):=List.getElem_map f
theorem acC{p:Prop}[Decidable p](h:decide p=true):p:=_root_.of_decide_eq_true h
theorem acD{p:Prop}[Decidable p](h:decide p=false):¬p:=_root_.of_decide_eq_false h
theorem acE.{u} {α:Type u} {l k:List α}:(l++k).length=l.length+k.length:=List.length_append
theorem acF.{u} {α:Type u} {l:List α} {n:Nat} (h:n<l.length):l[n]∈l:=List.getElem_mem h
end Go
namespace Go.Ab
open Go
inductive Perm where
 |no
 |full
 |own (id:Nat)
inductive AV where
 |v (x:Value)
 |s (l:List UInt8)
 |agg (cells:List AV)
 |tup (vs:List AV)
 |sl (xs:List AV) (p:Perm)
 |pe (x:AV) (off:Nat)
 |ptr (id off:Nat)
 |oa (id off len:Nat)
 |ifc (t:TypeId) (x:AV)
 |fn (f:FuncId) (cap:List AV)
 |mp (id:Nat)
 |ob (id off len cap sz:Nat)
instance:Inhabited AV:=⟨.v undef⟩
def AV.cells:AV→List AV
 |.agg cs=>cs
 |x=>[x]
inductive Blk where
 |obj (cells:List AV) (t:TypeId)
 |spare (n sz:Nat)
 |mp (m:List (AV×AV))
 |ro (b:Nat) (vs:List Value)
def jc:AV→Value
 |.s l=> .string ⟨l.toArray⟩
 |.v x=>x
 |_=>undef
abbrev Heap:=Nat→Option Blk
structure Cx where
 w:World
 φ:Nat→Addr
 h:Heap
def Blk.start(base:Addr):Blk→Nat
 |.obj .. =>0
 |.spare n sz=>base.off+n*sz
 |.mp _=>0
 |.ro .. =>0
def Blk.holds(base:Addr)(k:Blk)(o:Nat):Prop:=match k with
 |.ro .. =>False
 |k=>k.start base≤o
theorem Blk.holds.up{base:Addr}{k:Blk}{o x:Nat}(h:k.holds base o)(hx:o≤x):k.holds base x:=by cases k<;>first|exact h.elim|exact Nat.le_trans h hx
def owned(c:Cx)(b o:Nat):Prop:=∃id k,c.h id=some k∧(c.φ id).block=b∧k.holds (c.φ id) o
def fix(c:Cx)(b o:Nat)(u:Value):Prop:=c.w.cell? ⟨b,o,none⟩=some u∧¬owned c b o
def lim:Nat:=9223372036854775808
def uk(c:Cx)(a:Option Addr)(n cap sz:Nat):Perm→Prop
 |.no=>True
 |.full=>cap=n
 |.own id=>∃m,c.h id=some (.spare m sz)∧n≤m∧(n=m→∃q,a=some q∧c.φ id=q∧∃(cs:Array Value) (t:TypeId) (fr:Nat×Nat),c.w.heap[q.block]? =some (.cells cs t fr)∧q.off+cap*sz≤cs.size)
inductive Rep (c:Cx):AV→Value→Prop where
 |v (x:Value):Rep c (.v x) x
 |s (l:List UInt8) (hl:l.length<lim):Rep c (.s l) (.string ⟨l.toArray⟩)
 |agg (xs:List AV) (vs:Array Value) (hn:vs.size=xs.length)
   (hr:∀i (h:i<xs.length),Rep c xs[i] (vs.getD i undef)) (ho:∀i,i<xs.length→(vs.getD i undef).oneCell' =true):Rep c (.agg xs) (.agg vs)
 |tup (xs:List AV) (vs:Array Value) (hn:vs.size=xs.length)
   (hr:∀i (h:i<xs.length),Rep c xs[i] (vs.getD i undef)):Rep c (.tup xs) (.tuple vs)
 |sl (xs:List AV) (p:Perm) (a:Option Addr) (cap sz:Nat) (val:Nat→Nat→Value)
   (hc:xs.length≤cap) (hm:cap<lim) (h0:a=none→cap=0)
   (hs:∀q,a=some q→0<cap→q.spot=none∧q.block<c.w.heap.size)
   (hz:∀i (h:i<xs.length),xs[i].cells.length=sz)
   (hf:∀q,a=some q→∀i j,i<xs.length→j<sz→fix c q.block (q.off+(i*sz+j)) (val i j))
   (hr:∀i (h:i<xs.length) j (h' :j<xs[i].cells.length),Rep c xs[i].cells[j] (val i j))
   (ho:∀i j,i<xs.length→j<sz→(val i j).oneCell' =true)
   (hp:uk c a xs.length cap sz p):Rep c (.sl xs p) (.slice a xs.length cap)
 |pe (x:AV) (off b o:Nat) (val:Nat→Value) (hb:b<c.w.heap.size)
   (hf:∀j,j<x.cells.length→fix c b (o+j) (val j))
   (hr:∀j (h:j<x.cells.length),Rep c x.cells[j] (val j))
   (ho:∀j,j<x.cells.length→(val j).oneCell' =true):Rep c (.pe x off) (.pointer (some ⟨b,o+off,none⟩))
 |ptr (id off:Nat) (cs:List AV) (t:TypeId) (h:c.h id=some (.obj cs t)):Rep c (.ptr id off) (.pointer (some ⟨(c.φ id).block,off,none⟩))
 |oa (id off len cap o:Nat) (cs:List AV) (t:TypeId) (h:c.h id=some (.obj cs t)) (hc:len≤cap) (hm:cap<lim) (ho:cap≠0→o=off∧off+cap≤cs.length):
   Rep c (.oa id off len) (.slice (some ⟨(c.φ id).block,o,none⟩) len cap)
 |ifc (t:TypeId) (x:AV) (u:Value) (h:Rep c x u):Rep c (.ifc t x) (.iface t u)
 |fn (f:FuncId) (xs:List AV) (vs:Array Value) (hn:vs.size=xs.length)
   (hr:∀i (h:i<xs.length),Rep c xs[i] (vs.getD i undef)):Rep c (.fn f xs) (.func (.func f) #[] vs)
 |mp (id:Nat) (m:List (AV×AV)) (h:c.h id=some (.mp m)):Rep c (.mp id) (.map (some (c.φ id).block))
 |ob (id off len cap sz o:Nat) (cs:List AV) (t:TypeId) (h:c.h id=some (.obj cs t)) (hc:len≤cap) (hm:cap<lim) (ho:cap≠0→o=off∧off+cap*sz≤cs.length):
   Rep c (.ob id off len cap sz) (.slice (some ⟨(c.φ id).block,o,none⟩) len cap)
structure Ext (c c' :Cx):Prop where
 os:c'.w.os=c.w.os
 tape:c'.w.tape=c.w.tape
 output:c'.w.output=c.w.output
 size:c.w.heap.size≤c'.w.heap.size
 block:∀b,b<c.w.heap.size→(∀o,¬owned c b o)→c'.w.heap[b]? =c.w.heap[b]?
 cell:∀b o,b<c.w.heap.size→¬owned c b o→c'.w.cell? ⟨b,o,none⟩=c.w.cell? ⟨b,o,none⟩
 shape:∀(b:Nat) (cs:Array Value) (t:TypeId) (fr:Nat×Nat),c.w.heap[b]? =some (.cells cs t fr)→∃(cs' :Array Value) (fr' :Nat×Nat),c'.w.heap[b]? =some (.cells cs' t fr')∧cs'.size=cs.size
 steal:∀b o,b<c.w.heap.size→owned c' b o→owned c b o
 obj:∀id cs t,c.h id=some (.obj cs t)→c'.φ id=c.φ id∧∃cs',c'.h id=some (.obj cs' t)∧cs'.length=cs.length
 spare:∀id n sz,c.h id=some (.spare n sz)→∃n',c'.h id=some (.spare n' sz)∧(n' =n∧c'.φ id=c.φ id∨n<n')
 mp:∀id m,c.h id=some (.mp m)→c'.φ id=c.φ id∧∃m',c'.h id=some (.mp m')
 ro:∀id b vs,c.h id=some (.ro b vs)→c'.φ id=c.φ id∧c'.h id=some (.ro b vs)
theorem Ext.refl(c):Ext c c where
 os:=rfl
 tape:=rfl
 output:=rfl
 size:=Nat.le_refl _
 block:=fun _ _ _=>rfl
 cell:=fun _ _ _ _=>rfl
 shape:=fun _ cs _ fr h=>⟨cs,fr,h,rfl⟩
 steal:=fun _ _ _ h=>h
 obj:=fun _ cs _ h=>⟨rfl,cs,h,rfl⟩
 spare:=fun _ n _ h=>⟨n,h,.inl ⟨rfl,rfl⟩⟩
 mp:=fun _ m h=>⟨rfl,m,h⟩
 ro:=fun _ _ _ h=>⟨rfl,h⟩
theorem Ext.trans{a b c}(h:Ext a b)(k:Ext b c):Ext a c where
 os:=k.os.trans h.os
 tape:=k.tape.trans h.tape
 output:=k.output.trans h.output
 size:=Nat.le_trans h.size k.size
 block:=fun x hx ho=>(k.block x (Nat.lt_of_lt_of_le hx h.size) fun o ho' =>ho o (h.steal x o hx ho')).trans (h.block x hx ho)
 cell:=fun x o hx ho=>(k.cell x o (Nat.lt_of_lt_of_le hx h.size) fun ho' =>ho (h.steal x o hx ho')).trans (h.cell x o hx ho)
 shape:=fun x cs t fr hx=>by
  obtain⟨cs',fr',h1,h2⟩:=h.shape x cs t fr hx;obtain⟨cs'',fr'',h3,h4⟩:=k.shape x cs' t fr' h1
  grind
 steal:=fun x o hx ho=>h.steal x o hx (k.steal x o (Nat.lt_of_lt_of_le hx h.size) ho)
 obj:=fun id cs t hi=>by
  obtain⟨h1,cs',h2,h5⟩:=h.obj id cs t hi;obtain⟨h3,cs'',h4,h6⟩:=k.obj id cs' t h2
  grind
 spare:=fun id n sz hi=>by
  obtain⟨n',h1,h2⟩:=h.spare id n sz hi;obtain⟨n'',h3,h4⟩:=k.spare id n' sz h1
  grind
 mp:=fun id m hi=>by
  obtain⟨h1,m',h2⟩:=h.mp id m hi;obtain⟨h3,m'',h4⟩:=k.mp id m' h2
  grind
 ro:=fun id b vs hi=>by
  obtain⟨h1,h2⟩:=h.ro id b vs hi;obtain⟨h3,h4⟩:=k.ro id b vs h2
  grind
theorem fix.mono{c c'}{b o}{u}(he:Ext c c')(hb:b<c.w.heap.size)(h:fix c b o u):fix c' b o u:=
 ⟨(he.cell b o hb h.2).trans h.1,fun h' =>h.2 (he.steal b o hb h')⟩
theorem uk.mono{c c'}{a}{n cap sz}{p}(he:Ext c c')(h:uk c a n cap sz p):uk c' a n cap sz p:=by
 cases p with
 |no=>trivial
 |full=>exact h
 |own id=>
  obtain⟨m,h1,h2,h3⟩:=h;obtain⟨n',h4,h5⟩:=he.spare id m sz h1;refine⟨n',h4,?_,?_⟩
  ·omega
  ·intro e
   rcases h5 with⟨rfl,h5⟩|h5
   ·obtain⟨q,h6,h7,cs,t,fr,h8,h9⟩:=h3 e
    obtain⟨cs',fr',h10,h11⟩:=he.shape _ cs t fr h8
    grind
   omega
theorem Rep.mono{c c'}(he:Ext c c'){x}{u}(h:Rep c x u):Rep c' x u:=by
 induction h with
 |v x=>exact .v x
 |s l hl=>exact .s l hl
 |agg xs vs hn hr ho ih=>exact .agg xs vs hn ih ho
 |tup xs vs hn hr ih=>exact .tup xs vs hn ih
 |sl xs p a cap sz val hc hm h0 hs hz hf hr ho hp ih=>
  exact .sl xs p a cap sz val hc hm h0 (fun q hq hp=>⟨(hs q hq hp).1,Nat.lt_of_lt_of_le (hs q hq hp).2 he.size⟩) hz
   (fun q hq i j hi hj=>(hf q hq i j hi hj).mono he (hs q hq acK).2) ih ho (hp.mono he)
 |pe x off b o val hb hf hr ho ih=>exact .pe x off b o val (Nat.lt_of_lt_of_le hb he.size) (fun j hj=>(hf j hj).mono he hb) ih ho
 |ptr id off cs t h=>obtain⟨h1,cs',h2,_⟩:=he.obj id cs t h;rw[←h1];exact .ptr id off cs' t h2
 |oa id off len cap o cs t h hc hm ho=>obtain⟨h1,cs',h2,h3⟩:=he.obj id cs t h;rw[←h1];exact .oa id off len cap o cs' t h2 hc hm acK
 |ifc t x u h ih=>exact .ifc t x u ih
 |fn f xs vs hn hr ih=>exact .fn f xs vs hn ih
 |mp id m h=>obtain⟨h1,m',h2⟩:=he.mp id m h;rw[←h1];exact .mp id m' h2
 |ob id off len cap sz o cs t h hc hm ho=>obtain⟨h1,cs',h2,h3⟩:=he.obj id cs t h;rw[←h1];exact .ob id off len cap sz o cs' t h2 hc hm acK
structure Good (c:Cx):Prop where
 fin:∃N,∀id,N≤id→c.h id=none
 inj:∀i j k l,c.h i=some k→c.h j=some l→i≠j→(c.φ i).block≠(c.φ j).block
 obj:∀id cs t,c.h id=some (.obj cs t)→∃vs:Array Value,c.w.heap[(c.φ id).block]? =some (.cells vs t (0,0))∧vs.size=cs.length∧
  ∀j (h:j<cs.length),Rep c cs[j] (vs.getD j undef)∧(vs.getD j undef).oneCell' =true
 spare:∀id n sz,c.h id=some (.spare n sz)→(c.φ id).spot=none∧∃(vs:Array Value) (t:TypeId) (fr:Nat×Nat),c.w.heap[(c.φ id).block]? =some (.cells vs t fr)∧
  ∀o,(c.φ id).off+n*sz≤o→¬(fr.1≤o∧o<fr.2)
 mp:∀id m,c.h id=some (.mp m)→∃(es:Array MapEntry) (clock:Nat),c.w.heap[(c.φ id).block]? =some (.map es clock)∧es.size=m.length∧
  ∀i (h:i<m.length) (h' :i<es.size),es[i].key=jc m[i].1∧Rep c m[i].2 es[i].val
 keys:∀id m,c.h id=some (.mp m)→m.Pairwise (fun p q=>jc p.1≠jc q.1)
 ro:∀id b vs,c.h id=some (.ro b vs)→(c.φ id).block=b∧∃(t:TypeId) (fr:Nat×Nat),c.w.heap[b]? =some (.cells vs.toArray t fr)
theorem Good.RG{c}(g:Good c){id b}{vs}(h:c.h id=some (.ro b vs))(o):¬owned c b o:=by
 rintro⟨j,k,h1,h2,h3⟩
 by_cases e:j=id
 ·subst e;rw[h]at h1;cases h1;exact h3
 ·exact g.inj j id k _ h1 h e (h2.trans (g.ro id b vs h).1.symm)
theorem Good.nE{c c'}(g:Good c)(he:Ext c c'){id b}{vs}(h:c.h id=some (.ro b vs)):(c'.φ id).block=b∧∃(t:TypeId) (fr:Nat×Nat),c'.w.heap[b]? =some (.cells vs.toArray t fr):=by
 obtain⟨h1,t,fr,h2⟩:=g.ro id b vs h;have hlt:b<c.w.heap.size:=by grind
 exact⟨by rw[(he.ro id b vs h).1];omega,t,fr,(he.block b hlt fun o=>g.RG h o).trans h2⟩
abbrev Env:=List (Nat×AV)
def lk:Env→Nat→Option AV
 | [],_=>none
 |(k,x)::r,t=>if k=t then some x else lk r t
def put(ρ:Env):Option Tmp→AV→Env
 |some d,x=>(d,x)::ρ
 |none,_=>ρ
structure cr (c:Cx) (n:Nat) (ρ:Env) (a:Act):Prop where
 size:a.tmps.size=n
 defers:a.defers= []
 rep:∀t x,lk ρ t=some x→Rep c x (a.tmps.getD t undef)
theorem cr.mono{c c'}{n}{ρ}{a}(he:Ext c c')(h:cr c n ρ a):cr c' n ρ a:=
 ⟨h.size,h.defers,fun t x hx=>(h.rep t x hx).mono he⟩
def eS(n:Nat):Option Tmp→Bool
 |some d=>decide (d<n)
 |none=>true
theorem cr.put{c}{n}{ρ}{a}(h:cr c n ρ a){d}(hd:eS n d=true){x}{u}(hx:Rep c x u):
  cr c n (put ρ d x) (a.put d u):=by
 cases d with
 |none=>exact h
 |some d=>
  have hd' :d<a.tmps.size:=by rw[h.size];exact acC hd
  refine⟨by simp[Act.put,h.size],h.defers,fun t y hy=>?_⟩
  simp only[Ab.put,lk]at hy;split at hy
  ·exact air
  ·rename_i e
   have:=h.rep t y hy;simpa[Act.put,Array.getElem?_setIfInBounds_ne e]using this
abbrev AV.i(n:Int):AV:=.v (.int .i64 n)
abbrev AV.b(b:Bool):AV:=.v (.bool b)
def upd{α:Type}(f:Nat→α)(i:Nat)(x:α):Nat→α:=fun j=>if j=i then x else f j
theorem ah{α:Type}(f:Nat→α)(i)(x:α):upd f i x i=x:=by simp[upd]
theorem ag{α:Type}(f:Nat→α){i j}(x:α)(h:j≠i):upd f i x j=f j:=by grind [upd]
theorem cV{α:Type}{a:Array α}{i}{x:α}(h:a[i]? =some x):i<a.size:=by grind
section
variable {c : Cx} {w' : World}
theorem Ext.draw(hh:w'.heap=c.w.heap)(h1:w'.os=c.w.os)(h2:w'.tape=c.w.tape)(h3:w'.output=c.w.output):Ext c {c with w:=w'} where
 os:=h1
 tape:=h2
 output:=h3
 size:=acL
 block:=fun b _ _=>acL
 cell:=fun b o _ _=>by grind [World.cell?]
 shape:=fun b cs t fr h=>⟨cs,fr,acL,rfl⟩
 steal:=fun _ _ _ h=>h
 obj:=fun _ cs _ h=>⟨rfl,cs,h,rfl⟩
 spare:=fun _ n _ h=>⟨n,h,.inl ⟨rfl,rfl⟩⟩
 mp:=fun _ m h=>⟨rfl,m,h⟩
 ro:=fun _ _ _ h=>⟨rfl,h⟩
theorem Good.draw(g:Good c)(hh:w'.heap=c.w.heap)(h1:w'.os=c.w.os)(h2:w'.tape=c.w.tape)(h3:w'.output=c.w.output):Good {c with w:=w'} where
 fin:=g.fin
 inj:=g.inj
 obj:=fun id cs t h=>by obtain⟨vs,a1,a2,a3⟩:=g.obj id cs t h;exact⟨vs,acL,a2,fun j hj=>⟨(a3 j hj).1.mono (Ext.draw hh h1 h2 h3),(a3 j hj).2⟩⟩
 spare:=fun id n sz h=>by
  obtain⟨a0,vs,t,fr,a1,a2⟩:=g.spare id n sz h
  grind
 mp:=fun id m h=>by obtain⟨es,cl,a1,a2,a3⟩:=g.mp id m h;exact⟨es,cl,acL,a2,fun i hi hi' =>⟨(a3 i hi hi').1,(a3 i hi hi').2.mono (Ext.draw hh h1 h2 h3)⟩⟩
 keys:=g.keys
 ro:=fun id b vs h=>g.nE (Ext.draw hh h1 h2 h3) h
end
theorem cA(w:World)(o:Obj){b:Nat}(h:b<w.heap.size):(w.alloc o).heap[b]? =w.heap[b]? :=Go.RowKit.Below.heap_alloc w o b h
theorem heap_alloc_new(w:World)(o:Obj):(w.alloc o).heap[w.heap.size]? =some o:=by
 show(w.heap.push o)[w.heap.size]? =_
 simp
theorem Good.lt{c}(g:Good c){id}{k}(h:c.h id=some k):(c.φ id).block<c.w.heap.size:=by
 cases k with
 |obj cs t=>obtain⟨vs,h1,_⟩:=g.obj id cs t h;grind
 |spare n sz=>obtain⟨_,vs,t,fr,h1,_⟩:=g.spare id n sz h;grind
 |mp m=>obtain⟨es,cl,h1,_⟩:=g.mp id m h;grind
 |ro b vs=>obtain⟨h1,t,fr,h2⟩:=g.ro id b vs h;grind
theorem Ext.alloc(c)(o):Ext c {c with w:=c.w.alloc o} where
 os:=rfl
 tape:=rfl
 output:=rfl
 size:=acS
 block:=fun b hb _=>cA _ _ hb
 cell:=fun b x hb _=>World.cell?_alloc_lt _ _ _ hb
 shape:=fun b cs t fr h=>⟨cs,fr,(cA _ _ (cV h)).trans h,rfl⟩
 steal:=fun _ _ _ h=>h
 obj:=fun _ cs _ h=>⟨rfl,cs,h,rfl⟩
 spare:=fun _ n _ h=>⟨n,h,.inl ⟨rfl,rfl⟩⟩
 mp:=fun _ m h=>⟨rfl,m,h⟩
 ro:=fun _ _ _ h=>⟨rfl,h⟩
theorem Good.alloc{c}(g:Good c)(o):Good {c with w:=c.w.alloc o} where
 fin:=g.fin
 inj:=g.inj
 obj:=fun id cs t h=>by obtain⟨vs,a1,a2,a3⟩:=g.obj id cs t h;exact⟨vs,(cA _ _ (cV a1)).trans a1,a2,fun j hj=>⟨(a3 j hj).1.mono (Ext.alloc c o),(a3 j hj).2⟩⟩
 spare:=fun id n sz h=>by
  obtain⟨a0,vs,t,fr,a1,a2⟩:=g.spare id n sz h
  grind [cA,cV,trans]
 mp:=fun id m h=>by obtain⟨es,cl,a1,a2,a3⟩:=g.mp id m h;exact⟨es,cl,(cA _ _ (cV a1)).trans a1,a2,fun i hi hi' =>⟨(a3 i hi hi').1,(a3 i hi hi').2.mono (Ext.alloc c o)⟩⟩
 keys:=g.keys
 ro:=fun id b vs h=>g.nE (Ext.alloc c o) h
def Cx.ay(c:Cx)(o:Obj)(id:Nat)(a:Addr)(k:Blk):Cx:={w:=c.w.alloc o,φ:=upd c.φ id a,h:=upd c.h id (some k)}
theorem zN{c}{o}{id}{a}{k}(ha:a.block=c.w.heap.size){b x}(hb:b<c.w.heap.size)
  (h:owned (c.ay o id a k) b x):owned c b x:=by
 obtain⟨j,l,h1,h2,h3⟩:=h
 by_cases e:j=id
 ·simp_all [Cx.ay,ah]
 ·simp only[Cx.ay,ag _ _ e]at h1 h2 h3
  exact⟨j,l,h1,h2,h3⟩
theorem Ext.ay(c)(o)(id)(a)(k)(ha:a.block=c.w.heap.size)
  (hid:c.h id=none∨∃n m sz,c.h id=some (.spare n sz)∧k= .spare m sz∧n<m):Ext c (c.ay o id a k) where
 os:=rfl
 tape:=rfl
 output:=rfl
 size:=by simp[Cx.ay]
 block:=fun b hb _=>cA _ _ hb
 cell:=fun b x hb _=>World.cell?_alloc_lt _ _ _ hb
 shape:=fun b cs t fr h=>⟨cs,fr,(cA _ _ (cV h)).trans h,rfl⟩
 steal:=fun b x hb h=>zN ha hb h
 obj:=fun j cs t h=>by
  have e:j≠id:=by grind
  exact⟨ag _ _ e,cs,(ag _ _ e).trans h,rfl⟩
 spare:=fun j n sz h=>by
  by_cases e:j=id
  ·subst e
   rcases hid with h' |⟨n',m,sz',h',rfl,hlt⟩
   ·grind
   simp_all [Cx.ay,ah]
  ·exact⟨n,(ag _ _ e).trans h,.inl ⟨rfl,ag _ _ e⟩⟩
 mp:=fun j m h=>by
  have e:j≠id:=by grind
  exact⟨ag _ _ e,m,(ag _ _ e).trans h⟩
 ro:=fun j b vs h=>by
  have e:j≠id:=by grind
  exact⟨ag _ _ e,(ag _ _ e).trans h⟩
theorem Good.ay{c}(g:Good c)(vs)(t)(fr)(id)(a)(k)(ha:a.block=c.w.heap.size)
  (hid:c.h id=none∨∃n m sz,c.h id=some (.spare n sz)∧k= .spare m sz∧n<m)
  (hobj:∀cs t',k= .obj cs t'→t' =t∧fr=(0,0)∧vs.size=cs.length∧∀j (h:j<cs.length),Rep c cs[j] (vs.getD j undef)∧(vs.getD j undef).oneCell' =true)
  (hsp:∀n sz,k= .spare n sz→a.spot=none∧∀o,a.off+n*sz≤o→¬(fr.1≤o∧o<fr.2)) (hmp:∀m,k≠ .mp m:=by intro m hh;cases hh) (hro:∀b vs,k≠ .ro b vs:=by intro b vs hh;cases hh):
  Good (c.ay (.cells vs t fr) id a k):=by
 have hE:=Ext.ay c (.cells vs t fr) id a k ha hid;refine⟨?_,?_,?_,?_,?_,?_,?_⟩
 ·obtain⟨N,hN⟩:=g.fin
  refine⟨max N (id+1),fun j hj=>?_⟩
  have e:j≠id:=acK;exact(ag _ _ e).trans (hN j acK)
 ·intro i j k1 k2 h1 h2 hne
  by_cases ei:i=id
  ·subst ei
   have ej:j≠i:=fun e=>hne e.symm
   simp only[Cx.ay,ah,ag _ _ ej]at h2⊢;have:=g.lt h2;omega
  ·by_cases ej:j=id
   ·subst ej
    simp only[Cx.ay,ah,ag _ _ ei]at h1⊢;have:=g.lt h1;omega
   ·simp only[Cx.ay,ag _ _ ei,ag _ _ ej]at h1 h2⊢
    exact g.inj i j k1 k2 h1 h2 hne
 ·intro j cs t' h
  by_cases e:j=id
  ·subst e
   simp only[Cx.ay,ah,Option.some.injEq]at h;obtain⟨rfl,rfl,h2,h3⟩:=hobj cs t' h;refine⟨vs,?_,h2,fun i hi=>⟨(h3 i hi).1.mono hE,(h3 i hi).2⟩⟩
   simp only[Cx.ay,ah,ha];exact heap_alloc_new _ _
  ·simp only[Cx.ay,ag _ _ e]at h
   obtain⟨us,a1,a2,a3⟩:=g.obj j cs t' h;refine⟨us,?_,a2,fun i hi=>⟨(a3 i hi).1.mono hE,(a3 i hi).2⟩⟩
   simp only[Cx.ay,ag _ _ e];exact(cA _ _ (cV a1)).trans a1
 ·intro j n sz h
  by_cases e:j=id
  ·subst e
   simp only[Cx.ay,ah,Option.some.injEq]at h;obtain⟨h1,h2⟩:=hsp n sz h;simp only[Cx.ay,ah];exact⟨h1,vs,t,fr,by rw[ha];exact heap_alloc_new _ _,h2⟩
  ·simp only[Cx.ay,ag _ _ e]at h⊢
   obtain⟨a0,us,t',fr',a1,a2⟩:=g.spare j n sz h;exact afG
 ·intro j m h
  by_cases e:j=id
  ·subst e
   simp only[Cx.ay,ah,Option.some.injEq]at h;exact(hmp m h).elim
  ·simp only[Cx.ay,ag _ _ e]at h
   obtain⟨es,cl,a1,a2,a3⟩:=g.mp j m h;refine⟨es,cl,?_,a2,fun i hi hi' =>⟨(a3 i hi hi').1,(a3 i hi hi').2.mono hE⟩⟩
   simp only[Cx.ay,ag _ _ e];exact(cA _ _ (cV a1)).trans a1
 ·intro j m h
  by_cases e:j=id
  ·subst e
   simp only[Cx.ay,ah,Option.some.injEq]at h;exact(hmp m h).elim
  ·simp only[Cx.ay,ag _ _ e]at h
   exact g.keys j m h
 ·intro j b us h
  by_cases e:j=id
  ·subst e
   simp only[Cx.ay,ah,Option.some.injEq]at h;exact(hro b us h).elim
  ·simp only[Cx.ay,ag _ _ e]at h
   exact g.nE hE h
theorem Good.allocMap{c}(g:Good c)(id)(hid:c.h id=none):Good (c.ay (.map #[] 0) id ⟨c.w.heap.size,0,none⟩ (.mp [])):=by
 have hE:=Ext.ay c (.map #[] 0) id ⟨c.w.heap.size,0,none⟩ (.mp []) rfl (.inl hid);have old:∀ {j k},(c.ay (.map #[] 0) id ⟨c.w.heap.size,0,none⟩ (.mp [])).h j=some k→j≠id→c.h j=some k∧(c.ay (.map #[] 0) id ⟨c.w.heap.size,0,none⟩ (.mp [])).φ j=c.φ j:=fun h e=>by simp_all [Cx.ay,ag,trivial]
 refine⟨?_,?_,?_,?_,?_,?_,?_⟩
 ·obtain⟨N,hN⟩:=g.fin
  refine⟨max N (id+1),fun j hj=>?_⟩
  have e:j≠id:=acK;exact(ag _ _ e).trans (hN j acK)
 ·intro i j k1 k2 h1 h2 hne
  by_cases ei:i=id
  ·subst ei
   have ej:j≠i:=fun e=>hne e.symm
   simp only[Cx.ay,ah,ag _ _ ej]at h2⊢;have:=g.lt h2;omega
  ·by_cases ej:j=id
   ·subst ej
    simp only[Cx.ay,ah,ag _ _ ei]at h1⊢;have:=g.lt h1;omega
   ·simp only[Cx.ay,ag _ _ ei,ag _ _ ej]at h1 h2⊢
    exact g.inj i j k1 k2 h1 h2 hne
 ·intro j cs t' h
  have e:j≠id:=fun e=>by simp_all [Cx.ay,ah]
  obtain⟨h,hφ⟩:=old h e;obtain⟨us,a1,a2,a3⟩:=g.obj j cs t' h;rw[hφ];exact⟨us,(cA _ _ (cV a1)).trans a1,a2,fun i hi=>⟨(a3 i hi).1.mono hE,(a3 i hi).2⟩⟩
 ·intro j n sz h
  have e:j≠id:=fun e=>by simp_all [Cx.ay,ah]
  obtain⟨h,hφ⟩:=old h e;obtain⟨a0,us,t',fr',a1,a2⟩:=g.spare j n sz h;rw[hφ];exact afG
 ·intro j m h
  by_cases e:j=id
  ·subst e
   simp only[Cx.ay,ah,Option.some.injEq,Blk.mp.injEq]at h;subst h;simp only[Cx.ay,ah];exact⟨#[],0,heap_alloc_new _ _,rfl,fun i hi=>acS⟩
  ·obtain⟨h,hφ⟩:=old h e
   obtain⟨es,cl,a1,a2,a3⟩:=g.mp j m h;rw[hφ];exact⟨es,cl,(cA _ _ (cV a1)).trans a1,a2,fun i hi hi' =>⟨(a3 i hi hi').1,(a3 i hi hi').2.mono hE⟩⟩
 ·intro j m h
  by_cases e:j=id
  ·simp_all [Cx.ay,ah,Option.some.injEq,Blk.mp.injEq]
  ·exact g.keys j m (old h e).1
 ·intro j b us h
  have e:j≠id:=fun e=>by simp_all [Cx.ay,ah]
  exact g.nE hE (old h e).1
theorem Good.fresh{c}(g:Good c):∃id,c.h id=none:=let ⟨N,h⟩:=g.fin;⟨N,h N (Nat.le_refl _)⟩
theorem nY(b):∀(vs:List Value) (o:Nat) (w:World),(w.setCells b o vs).heap.size=w.heap.size
 | [],_,_=>rfl
 |v::r,o,w=>by rw[World.setCells,nY b r,World.size_setCell]
theorem bW(b):∀(vs:List Value) (o:Nat) (w:World) (k:Nat),k≠b→(w.setCells b o vs).heap[k]? =w.heap[k]?
 | [],_,_,_,_=>rfl
 |v::r,o,w,k,h=>by rw[World.setCells,bW b r _ _ k h,Go.RowKit.Below.heap_setCell _ _ _ _ h]
theorem fB(b):∀(vs:List Value) (o:Nat) (w:World) (cs:Array Value) (t:TypeId) (fr:Nat×Nat),w.heap[b]? =some (.cells cs t fr)→
  ∃cs' :Array Value,(w.setCells b o vs).heap[b]? =some (.cells cs' t fr)∧cs'.size=cs.size
 | [],_,_,cs,_,_,h=>⟨cs,h,rfl⟩
 |v::r,o,w,cs,t,fr,h=>by
  have h1:(w.setCell ⟨b,o,none⟩ v).heap[b]? =some (.cells (cs.setIfInBounds o v) t fr):=by grind [World.setCell]
  obtain⟨cs',h2,h3⟩:=fB b r (o+1) _ _ t fr h1;exact⟨cs',h2,acL⟩
theorem nu(b):∀(vs:List Value) (o:Nat) (w:World),(w.setCells b o vs).os=w.os∧(w.setCells b o vs).tape=w.tape∧(w.setCells b o vs).output=w.output
 | [],_,_=>⟨rfl,rfl,rfl⟩
 |v::r,o,w=>by rw[World.setCells];exact nu b r (o+1) _
def Cx.fill(c:Cx)(id o:Nat)(vs:List Value)(k:Blk):Cx:={c with w:=c.w.setCells (c.φ id).block o vs,h:=upd c.h id (some k)}
theorem Ext.fill{c}(id o)(vs)(k0 k)(h:c.h id=some k0)(ho:k0.holds (c.φ id) o)
  (hk:(∃cs cs' t,k0= .obj cs t∧k= .obj cs' t∧cs'.length=cs.length)∨(∃n m sz,k0= .spare n sz∧k= .spare m sz∧n<m)):Ext c (c.fill id o vs k) where
 os:=(nu _ vs o _).1
 tape:=(nu _ vs o _).2.1
 output:=(nu _ vs o _).2.2
 size:=by show _≤(c.w.setCells _ o vs).heap.size;simp[nY,Nat.le_refl]
 block:=fun b _ hno=>bW _ vs o _ b fun e=>hno o ⟨id,k0,h,e.symm,ho⟩
 cell:=fun b x _ hno=>World.cell?_setCells_out _ vs o _ _ fun e _=>by
  rcases Nat.lt_or_ge x o with h' |h'
  ·grind
  ·exact(hno ⟨id,k0,h,e.symm,ho.up h'⟩).elim
 shape:=fun b cs t fr hb=>by
  by_cases e:b=(c.φ id).block
  ·subst e
   obtain⟨cs',h1,h2⟩:=fB _ vs o _ cs t fr hb;exact⟨cs',fr,h1,h2⟩
  ·exact⟨cs,fr,(bW _ vs o _ b e).trans hb,rfl⟩
 steal:=fun b x _ hx=>by
  obtain⟨j,l,h1,h2,h3⟩:=hx
  by_cases e:j=id
  ·subst e
   simp only[Cx.fill,ah,Option.some.injEq]at h1;subst h1;refine⟨j,k0,h,h2,?_⟩;rcases hk with⟨cs,cs',t,rfl,rfl,_⟩|⟨n,m,sz,rfl,rfl,hlt⟩
   ·exact afP
   ·simp only[Blk.holds,Blk.start,Cx.fill]at h3⊢
    have:n*sz≤m*sz:=Nat.mul_le_mul_right _ (Nat.le_of_lt hlt);omega
  ·simp only[Cx.fill,ag _ _ e]at h1 h2 h3
   exact⟨j,l,h1,h2,h3⟩
 obj:=fun j cs t hj=>by
  by_cases e:j=id
  ·subst e
   rw[h]at hj;rcases hk with⟨cs0,cs',t0,rfl,rfl,hlen⟩|⟨n,m,sz,rfl,_⟩<;>cases hj
   exact⟨rfl,cs',by simp[Cx.fill,ah],hlen⟩
  ·exact⟨rfl,cs,(ag _ _ e).trans hj,rfl⟩
 spare:=fun j n sz hj=>by
  by_cases e:j=id
  ·subst e
   rw[h]at hj;rcases hk with⟨cs0,cs',t0,rfl,_⟩|⟨n0,m,sz0,rfl,rfl,hlt⟩<;>cases hj
   simp_all [Cx.fill,ah]
  ·exact⟨n,(ag _ _ e).trans hj,.inl ⟨rfl,rfl⟩⟩
 mp:=fun j m hj=>by
  have e:j≠id:=by grind
  exact⟨rfl,m,(ag _ _ e).trans hj⟩
 ro:=fun j b us hj=>by
  have e:j≠id:=by grind
  exact⟨rfl,(ag _ _ e).trans hj⟩
def over(cs:List AV)(o:Nat)(xs:List AV):List AV:=cs.take o++xs++cs.drop (o+xs.length)
theorem iu{cs xs}{o}(h:o+xs.length≤cs.length):(over cs o xs).length=cs.length:=by grind [over]
theorem DH{cs xs}{o j}(h:o+xs.length≤cs.length)(hj:j<cs.length)(hne:j<o∨o+xs.length≤j)
  (hj' :j<(over cs o xs).length):(over cs o xs)[j]=cs[j]:=by
 rcases hne with h1|h1
 ·grind [over,List.append_assoc,List.getElem_append_left]
 ·simp only[over]
  rw[List.getElem_append_right acL]
  grind
theorem Hf{cs xs}{o j}(h:o+xs.length≤cs.length)(hj:j<xs.length)
  (hj' :o+j<(over cs o xs).length):(over cs o xs)[o+j]=xs[j]:=by
 grind [over,List.append_assoc,List.getElem_append_right,List.getElem_append_left]
theorem Good.ND{c}(g:Good c)(id o)(vs)(cs xs)(t)(h:c.h id=some (.obj cs t))
  (hl:vs.length=xs.length) (hb:o+xs.length≤cs.length) (hr:∀j (h:j<xs.length),Rep c xs[j] (vs.getD j undef)∧(vs.getD j undef).oneCell' =true):
  Good (c.fill id o vs (.obj (over cs o xs) t)):=by
 have hE:=Ext.fill id o vs (.obj cs t) (.obj (over cs o xs) t) h (Nat.zero_le _) (.inl ⟨_,_,_,rfl,rfl,iu acK⟩);refine⟨?_,?_,?_,?_,?_,?_,?_⟩
 ·obtain⟨N,hN⟩:=g.fin
  refine⟨max N (id+1),fun j hj=>?_⟩
  have e:j≠id:=acK;exact(ag _ _ e).trans (hN j acK)
 ·intro i j k1 k2 h1 h2 hne
  have f:∀i k,(c.fill id o vs (.obj (over cs o xs) t)).h i=some k→∃k',c.h i=some k' :=fun i k hi=>by
   by_cases e:i=id
   ·grind
   simp_all [Cx.fill,ag]
  obtain⟨k1',h1'⟩:=f i k1 h1;obtain⟨k2',h2'⟩:=f j k2 h2;exact afn
 ·intro j ys t' hj
  by_cases e:j=id
  ·subst e
   simp only[Cx.fill,ah,Option.some.injEq,Blk.obj.injEq]at hj;obtain⟨rfl,rfl⟩:=hj;obtain⟨us,a1,a2,a3⟩:=g.obj j cs t h;obtain⟨us',b1,b2⟩:=fB _ vs o c.w us t (0,0) a1;refine⟨us',b1,by grind [iu],fun i hi=>?_⟩
   have hi' :i<cs.length:=by grind [iu]
   have hcell:∀i,i<us.size→c.w.cell? ⟨(c.φ j).block,i,none⟩=some (us.getD i undef):=fun i hi=>by simp[World.cell?,a1,hi]
   have hcell' :(c.w.setCells (c.φ j).block o vs).cell? ⟨(c.φ j).block,i,none⟩=some (us'.getD i undef):=by simp_all [World.cell?]
   by_cases hin:o≤i∧i<o+xs.length
   ·obtain⟨k,rfl⟩:∃k,i=o+k:=⟨i - o,acK⟩
    have hk:k<xs.length:=acK;have:=World.cell?_setCells_in (c.φ j).block vs o c.w acL k acK;rw[hcell']at this;simp only[Option.some.injEq]at this;rw[this,Hf hb hk];have h3:=hr k hk;have e3:vs.getD k undef=vs[k]:=acL;rw[e3]at h3;exact⟨h3.1.mono hE,h3.2⟩
   ·have hout:i<o∨o+xs.length≤i:=by omega
    have:=World.cell?_setCells_out (c.φ j).block vs o c.w ⟨(c.φ j).block,i,none⟩ acL;rw[hcell',hcell i acK]at this;simp only[Option.some.injEq]at this;rw[this,DH hb hi' hout];exact⟨(a3 i hi').1.mono hE,(a3 i hi').2⟩
  ·simp only[Cx.fill,ag _ _ e]at hj
   obtain⟨us,a1,a2,a3⟩:=g.obj j ys t' hj;refine⟨us,(bW _ vs o _ _ ?_).trans a1,a2,fun i hi=>⟨(a3 i hi).1.mono hE,(a3 i hi).2⟩⟩
   exact g.inj j id _ _ hj h e
 ·intro j n sz hj
  have e:j≠id:=by
   rintro rfl
   simp_all [Cx.fill,ah]
  simp only[Cx.fill,ag _ _ e]at hj⊢;obtain⟨a0,us,t',fr',a1,a2⟩:=g.spare j n sz hj;exact aeE
 ·intro j m hj
  have e:j≠id:=fun e=>ae0
  simp only[Cx.fill,ag _ _ e]at hj⊢;obtain⟨es,cl,a1,a2,a3⟩:=g.mp j m hj;exact⟨es,cl,(bW _ vs o _ _ (g.inj j id _ _ hj h e)).trans a1,a2,fun i hi hi' =>⟨(a3 i hi hi').1,(a3 i hi hi').2.mono hE⟩⟩
 ·intro j m hj
  have e:j≠id:=fun e=>ae0
  simp only[Cx.fill,ag _ _ e]at hj;exact g.keys j m hj
 ·intro j b us hj
  have e:j≠id:=fun e=>ae0
  simp only[Cx.fill,ag _ _ e]at hj;exact g.nE hE hj
theorem Good.Iu{c}(g:Good c)(id o)(vs)(n m sz)(h:c.h id=some (.spare n sz))(ho:(c.φ id).off+n*sz≤o)(hlt:n<m):
  Good (c.fill id o vs (.spare m sz)):=by
 have hE:=Ext.fill id o vs (.spare n sz) (.spare m sz) h ho (.inr ⟨_,_,_,rfl,rfl,hlt⟩);refine⟨?_,?_,?_,?_,?_,?_,?_⟩
 ·obtain⟨N,hN⟩:=g.fin
  refine⟨max N (id+1),fun j hj=>?_⟩
  have e:j≠id:=acK;exact(ag _ _ e).trans (hN j acK)
 ·intro i j k1 k2 h1 h2 hne
  have f:∀i k,(c.fill id o vs (.spare m sz)).h i=some k→∃k',c.h i=some k' :=fun i k hi=>by
   by_cases e:i=id
   ·grind
   simp_all [Cx.fill,ag]
  obtain⟨k1',h1'⟩:=f i k1 h1;obtain⟨k2',h2'⟩:=f j k2 h2;exact afn
 ·intro j ys t' hj
  have e:j≠id:=by
   rintro rfl
   simp_all [Cx.fill,ah]
  simp only[Cx.fill,ag _ _ e]at hj;obtain⟨us,a1,a2,a3⟩:=g.obj j ys t' hj;refine⟨us,(bW _ vs o _ _ ?_).trans a1,a2,fun i hi=>⟨(a3 i hi).1.mono hE,(a3 i hi).2⟩⟩
  exact g.inj j id _ _ hj h e
 ·intro j n' sz' hj
  by_cases e:j=id
  ·subst e
   simp only[Cx.fill,ah,Option.some.injEq,Blk.spare.injEq]at hj;obtain⟨rfl,rfl⟩:=hj;obtain⟨a0,us,t',fr',a1,a2⟩:=g.spare j n sz h;obtain⟨us',b1,_⟩:=fB _ vs o c.w us t' fr' a1;refine⟨a0,us',t',fr',b1,fun x hx=>a2 x ?_⟩
   have:n*sz≤m*sz:=Nat.mul_le_mul_right _ (Nat.le_of_lt hlt);simp only[Cx.fill]at hx;omega
  ·simp only[Cx.fill,ag _ _ e]at hj⊢
   obtain⟨a0,us,t',fr',a1,a2⟩:=g.spare j n' sz' hj;exact aeE
 ·intro j m' hj
  have e:j≠id:=fun e=>ae0
  simp only[Cx.fill,ag _ _ e]at hj⊢;obtain⟨es,cl,a1,a2,a3⟩:=g.mp j m' hj;exact⟨es,cl,(bW _ vs o _ _ (g.inj j id _ _ hj h e)).trans a1,a2,fun i hi hi' =>⟨(a3 i hi hi').1,(a3 i hi hi').2.mono hE⟩⟩
 ·intro j m' hj
  have e:j≠id:=fun e=>ae0
  simp only[Cx.fill,ag _ _ e]at hj;exact g.keys j m' hj
 ·intro j b us hj
  have e:j≠id:=fun e=>ae0
  simp only[Cx.fill,ag _ _ e]at hj;exact g.nE hE hj
def Cx.turn(c:Cx)(id:Nat)(es:Array MapEntry)(cl:Nat)(m:List (AV×AV)):Cx:={c with w:={c.w with heap:=c.w.heap.setIfInBounds (c.φ id).block (.map es cl)},h:=upd c.h id (some (.mp m))}
theorem fN{c:Cx}{id:Nat}{es:Array MapEntry}{cl:Nat}{m:List (AV×AV)}{b:Nat}(h:b≠(c.φ id).block):(c.turn id es cl m).w.heap[b]? =c.w.heap[b]? :=by simp_all [Cx.turn,Array.getElem?_setIfInBounds_ne,Ne.symm]
theorem Ext.turn{c:Cx}(id:Nat)(es es0:Array MapEntry)(cl cl0:Nat)(m m0:List (AV×AV))(h:c.h id=some (.mp m0))(hb:c.w.heap[(c.φ id).block]? =some (.map es0 cl0)):Ext c (c.turn id es cl m) where
 os:=rfl
 tape:=rfl
 output:=rfl
 size:=by simp[Cx.turn]
 block:=fun b _ hno=>fN fun e=>hno 0 ⟨id,_,h,e.symm,Nat.zero_le _⟩
 cell:=fun b x _ hno=>by
  have e:b≠(c.φ id).block:=fun e=>hno ⟨id,_,h,e.symm,Nat.zero_le _⟩
  unfold World.cell?;rw[fN e]
 shape:=fun b cs t fr hh=>by
  have e:b≠(c.φ id).block:=fun e=>by subst e;rw[hb]at hh;cases hh
  exact⟨cs,fr,(fN e).trans hh,rfl⟩
 steal:=fun b x _ ho=>by
  obtain⟨j,k,h1,h2,h3⟩:=ho
  by_cases e:j=id
  ·subst e;exact⟨j,_,h,h2,Nat.zero_le _⟩
  ·simp only[Cx.turn,ag _ _ e]at h1 h2 h3
   exact⟨j,k,h1,h2,h3⟩
 obj:=fun j cs t hj=>by
  have e:j≠id:=fun e=>af0
  exact⟨rfl,cs,(ag _ _ e).trans hj,rfl⟩
 spare:=fun j n sz hj=>by
  have e:j≠id:=fun e=>af0
  exact⟨n,(ag _ _ e).trans hj,.inl ⟨rfl,rfl⟩⟩
 mp:=fun j m' hj=>by
  by_cases e:j=id
  ·subst e;exact⟨rfl,m,by simp[Cx.turn,ah]⟩
  ·exact⟨rfl,m',(ag _ _ e).trans hj⟩
 ro:=fun j b us hj=>by
  have e:j≠id:=fun e=>af0
  exact⟨rfl,(ag _ _ e).trans hj⟩
theorem Good.turn{c}(g:Good c)(id)(es es0)(cl cl0)(m m0)(h:c.h id=some (.mp m0))(hb:c.w.heap[(c.φ id).block]? =some (.map es0 cl0))
  (hs:es.size=m.length) (hr:∀i (h:i<m.length) (h' :i<es.size),es[i].key=jc m[i].1∧Rep c m[i].2 es[i].val) (hk:m.Pairwise (fun p q=>jc p.1≠jc q.1)):Good (c.turn id es cl m):=by
 have hE:=Ext.turn (c:=c) id es es0 cl cl0 m m0 h hb;have f:∀j k,(c.turn id es cl m).h j=some k→∃k',c.h j=some k' :=fun j k hj=>by
  by_cases e:j=id
  ·grind
  simp_all [Cx.turn,ag]
 refine⟨?_,?_,?_,?_,?_,?_,?_⟩
 ·obtain⟨N,hN⟩:=g.fin
  refine⟨max N (id+1),fun j hj=>?_⟩
  have e:j≠id:=acK;exact(ag _ _ e).trans (hN j acK)
 ·intro i j k1 k2 h1 h2 hne
  obtain⟨k1',h1'⟩:=f i k1 h1;obtain⟨k2',h2'⟩:=f j k2 h2;exact afn
 ·intro j cs t hj
  have e:j≠id:=fun e=>by simp_all [Cx.turn,ah]
  have hj' :c.h j=some (.obj cs t):=agh;obtain⟨us,a1,a2,a3⟩:=g.obj j cs t hj';exact⟨us,(fN (g.inj j id _ _ hj' h e)).trans a1,a2,fun i hi=>⟨(a3 i hi).1.mono hE,(a3 i hi).2⟩⟩
 ·intro j n sz hj
  have e:j≠id:=fun e=>by simp_all [Cx.turn,ah]
  have hj' :c.h j=some (.spare n sz):=agh;obtain⟨a0,us,t',fr',a1,a2⟩:=g.spare j n sz hj';exact⟨a0,us,t',fr',(fN (g.inj j id _ _ hj' h e)).trans a1,a2⟩
 ·intro j m' hj
  by_cases e:j=id
  ·subst e
   simp only[Cx.turn,ah,Option.some.injEq,Blk.mp.injEq]at hj;subst hj;refine⟨es,cl,?_,hs,fun i hi hi' =>⟨(hr i hi hi').1,(hr i hi hi').2.mono hE⟩⟩
   grind [cV,Cx.turn]
  ·have hj' :c.h j=some (.mp m'):=by simp_all [Cx.turn,ag]
   obtain⟨es',cl',a1,a2,a3⟩:=g.mp j m' hj';exact⟨es',cl',(fN (g.inj j id _ _ hj' h e)).trans a1,a2,fun i hi hi' =>⟨(a3 i hi hi').1,(a3 i hi hi').2.mono hE⟩⟩
 ·intro j m' hj
  by_cases e:j=id
  ·simp_all [Cx.turn,ah,Option.some.injEq,Blk.mp.injEq]
  ·exact g.keys j m' agh
 ·intro j b us hj
  have e:j≠id:=fun e=>by simp_all [Cx.turn,ah]
  exact g.nE hE agh
inductive TK where
 |int (k:IntKind)
 |bool
 |str
 |slice (e:TypeId)
 |strct (fs:List (Nat×TypeId))
 |ptr (e:TypeId)
 |arr (n:Nat) (e:TypeId)
 |iface
 |cplx (k:FloatKind)
 |map (k e:TypeId)
 |other
structure TI where
 k:TK
 sz:Nat
 bytes:Nat
 zero:AV
 eq:Option (Nat×List TK)
def TK.agg:TK→Bool
 |.strct _|.arr _ _=>true
 |_=>false
def isUnit:TK→Bool
 |.strct []=>true
 |_=>false
theorem uF{k}(h:isUnit k=true):k= .strct []:=by grind [isUnit]
def Ek(U:TypeId→TI)(r:Nat):List (Nat×TypeId)→Nat→List TK→Prop
 | [],_,l=>l= []
 |f::fs,o,l=>f.1=o∧∃r' l',(U f.2).eq=some (r',l')∧r' <r∧l.take l'.length=l'∧Ek U r fs (o+l'.length) (l.drop l'.length)
def MY(P:Program)(U:TypeId→TI)(t:TypeId)(r:Nat)(l:List TK):Prop:=
 l.length=(U t).sz∧l≠ []∧r<100∧match (U t).k with
  |.int k=>l= [.int k]
  |.bool=>l= [.bool]
  |.str=>l= [.str]
  |.cplx k=>l= [.cplx k]
  | .strct fs => P.stoodInHeld t = false ∧ P.eqGuardType P.depth t = false ∧ (∀ f ∈ P.fieldsOf t, f.name ≠ "_") ∧ Ek U r fs 0 l
  |.arr n e=>P.eqGuardType P.depth t=false∧∃r' l',(U e).eq=some (r',l')∧r' <r∧l=(List.replicate n l').flatten
  |_=>False
structure aO (P:Program) (U:TypeId→TI) (t:TypeId):Prop where
 desc:match (U t).k with
  |.int k=>P.underlying t=some (.int k)
  |.bool=>P.underlying t=some .bool
  |.str=>P.underlying t=some .string
  |.slice e=>P.underlying t=some (.slice e)
  |.strct fs=>∃fields:Array Field,P.underlying t=some (.struct fields)∧fields.toList.map (fun f=>(f.offset,f.type))=fs∧∀p∈fs,(U p.2).sz≠0
  |.ptr e=>P.underlying t=some (.pointer e)
  |.arr n e=>P.underlying t=some (.array n e)
  |.iface=>∃ms,P.underlying t=some (.interface ms)
  |.cplx k=>P.underlying t=some (.complex k)
  |.map k e=>P.underlying t=some (.map k e)
  |.other=>True
 info:(U t).sz≠0→∃i,P.info? t=some i∧i.size=(U t).sz∧i.bytes=(U t).bytes∧∃z,i.zero=some z∧z.cells.size=(U t).sz∧∀c,Rep c (U t).zero z
 unit:(U t).k= .strct []→∃i,P.info? t=some i∧i.zero=some (.agg #[])∧i.size=0
 eq:∀r l,(U t).eq=some (r,l)→MY P U t r l
def aI(c:UInt8):AV:=.v (.int .u8 c.toNat)
def Jb:Value→AV
 |.string b=>if b.data.toList.length<lim then .s b.data.toList else .v (.string b)
 |.slice a l c=>match a,l,c with
  |none,0,0=> .sl [] .full
  |a,l,c=> .v (.slice a l c)
 |.func g a b=>match g with
  |.func f=>if a.size=0∧b.size=0 then .fn f []else .v (.func (.func f) a b)
  |g=> .v (.func g a b)
 |x=> .v x
def ofV:Value→AV
 |.agg cs=>if cs.toList.all (fun x=>x.oneCell')then .agg (cs.toList.map Jb)else .v (.agg cs)
 |x=>Jb x
theorem yZ(c)(x):Rep c (Jb x) x:=by
 cases x
 case string b=>
  simp only[Jb];split
  ·rename_i h;exact .s _ h
  ·exact ae3
 case slice a l k=>
  simp only[Jb];split
  ·exact .sl [] .full none 0 0 (fun _ _=>undef) (Nat.le_refl _) acN acK acK acS acK acS acK rfl
  ·exact ae3
 case func g a b=>
  simp only[Jb];split
  ·split
   ·rename_i h
    have e1:a= #[]:=acL;have e2:b= #[]:=acL;subst e1;subst e2
    exact .fn _ [] #[] rfl acS
   ·exact ae3
  ·exact ae3
 all_goals exact .v _
theorem Ov(c)(x):Rep c (ofV x) x:=by
 unfold ofV;split
 ·rename_i cs
  split
  ·rename_i h
   refine .agg _ _ acS (fun i hi=>?_) (fun i hi=>?_)
   ·have hi' :i<cs.size:=by grind
    simp only[acB,Array.getElem_toList];have e:cs.getD i undef=cs[i]:=agP;rw[e];exact yZ c _
   simp_all
  ·exact ae3
 ·exact yZ c _
def ev(ρ:Env):Operand→Option AV
 |.tmp t=>lk ρ t
 |.const v=>some (ofV v)
 |.global _=>none
 |.func f=>some (.fn f [])
theorem aF{c}{n}{ρ}{a}(h:cr c n ρ a){x}{y}(hx:ev ρ x=some y):Rep c y (a.eval x):=by
 cases x with
 |tmp t=>exact h.rep t y hx
 |const v=>simp only[ev,Option.some.injEq]at hx;subst hx;exact Ov c v
 |global g=>cases hx
 |func f=>simp only[ev,Option.some.injEq]at hx;subst hx;exact .fn f [] #[] rfl acS
def withv(ρ:Env)(x:Operand)(k:AV→Prop):Prop:=
 match ev ρ x with
 |some y=>k y
 |none=>False
def Idx{α:Type}(xs:List α)(n:Int)(k:α→Prop):Prop:=0≤n∧∃x,xs[n.toNat]? =some x∧k x
def bC:AV→Bool
 |.agg _=>true
 |_=>false
def iB(cs:List AV)(off:Nat)(i:TI)(k:AV→Prop):Prop:=
 if i.k.agg then off+i.sz≤cs.length∧k (.agg ((cs.drop off).take i.sz))else∃x,cs[off]? =some x∧k x
def atA(y:AV)(off:Nat)(i:TI)(k:AV→Prop):Prop:=
 if off=0∧y.cells.length=i.sz∧bC y=i.k.agg then k y else iB y.cells off i k
def rJ(op:BinOp)(k:IntKind)(a b:Int)(K:AV→Prop):Prop:=
 match op with
 |.add=>K (.v (.int k (k.wrap (a+b))))
 |.sub=>K (.v (.int k (k.wrap (a - b))))
 |.mul=>K (.v (.int k (k.wrap (a*b))))
 |.quo=>b≠0∧K (.v (.int k (k.wrap (a.tdiv b))))
 |.rem=>b≠0∧K (.v (.int k (a.tmod b)))
 |.and=>K (.v (.int k (k.wrap (BitVec.ofInt k.bits a &&& BitVec.ofInt k.bits b).toNat)))
 |.or=>K (.v (.int k (k.wrap (BitVec.ofInt k.bits a|||BitVec.ofInt k.bits b).toNat)))
 |.xor=>K (.v (.int k (k.wrap (BitVec.ofInt k.bits a ^^^ BitVec.ofInt k.bits b).toNat)))
 |.andNot=>K (.v (.int k (k.wrap (BitVec.ofInt k.bits a &&& ~~~ BitVec.ofInt k.bits b).toNat)))
 |.eql=>K (.b (a==b))
 |.neq=>K (.b (a !=b))
 |.lss=>K (.b (decide (a<b)))
 |.leq=>K (.b (decide (a≤b)))
 |.gtr=>K (.b (decide (b<a)))
 |.geq=>K (.b (decide (b≤a)))
 |_=>False
def Km(op:BinOp)(k:IntKind)(a b:Int)(K:AV→Prop):Prop:=
 match op with
 |.shl=>0≤b∧K (.v (.int k (k.wrap (a*2 ^ (min b.toNat k.bits)))))
 |.shr=>0≤b∧K (.v (.int k (a.fdiv (2 ^ (min b.toNat k.bits)))))
 |_=>False
def Qq(op:BinOp)(a b:List UInt8)(K:AV→Prop):Prop:=
 match op with
 |.add=>a.length+b.length<lim∧K (.s (a++b))
 |.eql=>K (.b (a==b))
 |.neq=>K (.b (!(a==b)))
 |.lss=>K (.b (Op.bytesLess a b))
 |.leq=>K (.b (Op.bytesLess a b||a==b))
 |.gtr=>K (.b (!(Op.bytesLess a b||a==b)))
 |.geq=>K (.b (!(Op.bytesLess a b)))
 |_=>False
def N6:AV→Option Bool
 |.v (.pointer none)=>some true
 |.ptr .. |.pe .. =>some false
 |_=>none
def ga:BinOp→Bool
 |.shl|.shr=>true
 |_=>false
def Nl(U:TypeId→TI)(op:BinOp)(ty:TypeId)(a b:Bool)(K:AV→Prop):Prop:=
 match (U ty).k,op with
 |.bool,.eql=>K (.b (a==b))
 |.bool,.neq=>K (.b (!(a==b)))
 |_,_=>False
def Nn(U:TypeId→TI)(op:BinOp)(ty:TypeId)(x:AV)(K:AV→Prop):Prop:=
 match (U ty).k,op,N6 x with
 |.ptr _,.eql,some n=>K (.b n)
 |.ptr _,.neq,some n=>K (.b (!n))
 |_,_,_=>False
def eqC:AV→AV→Bool
 |.s a,.s b=>a==b
 |.v (.int _ a),.v (.int _ b)=>a==b
 |.v (.bool a),.v (.bool b)=>a==b
 |.v (.complex k a b),.v (.complex _ c d)=>Op.floatEq k a c && Op.floatEq k b d
 |_,_=>false
def eqL:List AV→List AV→Bool
 | [],[]=>true
 |x::xs,y::ys=>eqC x y && eqL xs ys
 |_,_=>false
def qp:TK→AV→Prop
 |.int k,.v (.int k' _)=>k' =k
 |.bool,.v (.bool _)=>True
 |.str,.s _=>True
 |.cplx k,.v (.complex k' _ _)=>k' =k
 |_,_=>False
def cB:List TK→List AV→Prop
 | [],xs=>xs= []
 |_::_,[]=>False
 |t::ts,x::xs=>qp t x∧cB ts xs
def Kl(U:TypeId→TI)(op:BinOp)(ty:TypeId)(xs ys:List AV)(K:AV→Prop):Prop:=
 match (U ty).eq,op with
 |some (_,l),.eql=>(U ty).k.agg=true∧cB l xs∧cB l ys∧K (.b (eqL xs ys))
 |some (_,l),.neq=>(U ty).k.agg=true∧cB l xs∧cB l ys∧K (.b (!(eqL xs ys)))
 |_,_=>False
def gy(op:BinOp)(x y:Value)(K:AV→Prop):Prop:=∃r,(∀(P:Program) (ty:TypeId) (w:World),(binOp op ty x y).run P w= .ok r w)∧K (.v r)
def cy(U:TypeId→TI)(op:BinOp)(ty:TypeId)(x y:AV)(K:AV→Prop):Prop:=
 match y with
 |.v (.int k' b)=>match x with
  |.v (.int k a)=>if ga op then Km op k a b K else k=k'∧rJ op k a b K
  |_=>False
 |.s b=>match x with
  |.s a=>Qq op a b K
  |_=>False
 |.v (.bool b)=>match x with
  |.v (.bool a)=>Nl U op ty a b K
  |_=>False
 |.v (.pointer none)=>Nn U op ty x K
 |.agg ys=>match x with
  |.agg xs=>Kl U op ty xs ys K
  |_=>False
 |.v (.float k' b)=>match x with
  |.v (.float k a)=>gy op (.float k a) (.float k' b) K
  |_=>False
 |.v (.complex k' c d)=>match x with
  |.v (.complex k a b)=>gy op (.complex k a b) (.complex k' c d) K
  |_=>False
 |_=>False
def yW:List AV→(AV→Prop)→Prop
 | [.v (.complex k a _)],K=>K (.v (.float k a))
 |_,_=>False
def ya:List AV→(AV→Prop)→Prop
 | [.v (.complex k _ b)],K=>K (.v (.float k b))
 |_,_=>False
def xA:List AV→(AV→Prop)→Prop
 | [.v (.float k a),.v (.float k' b)],K=>k=k'∧K (.v (.complex k a b))
 |_,_=>False
def Dv:List AV→(AV→Prop)→Prop
 | [.v (.int k a),.v (.int k' b)],K=>k=k'∧K (.v (.int k (if b<a then b else a)))
 |_,_=>False
def zI:List AV→(AV→Prop)→Prop
 | [.v (.int k a),.v (.int k' b)],K=>k=k'∧K (.v (.int k (if a<b then b else a)))
 | [.v (.float k a),.v (.float k' b)],K=>∃r,(∀(P:Program) (ts:Array TypeId) (ty:TypeId) (w:World),(Builtin.max_ ts ty #[.float k a,.float k' b]).run P w= .ok r w)∧K (.v r)
 |_,_=>False
def evs(ρ:Env):List Operand→Option (List AV)
 | []=>some []
 |x::r=>match ev ρ x,evs ρ r with
  |some y,some ys=>some (y::ys)
  |_,_=>none
def withvs(ρ:Env)(xs:List Operand)(k:List AV→Prop):Prop:=
 match evs ρ xs with
 |some ys=>k ys
 |none=>False
def dZ(ρ:Env)(x:Option Operand)(dflt:Nat)(k:Int→Prop):Prop:=
 match x with
 |none=>k dflt
 |some o=>withv ρ o fun|.v (.int _ n)=>k n|_=>False
def oN{α:Type}(xs:List α)(a b:Int):Bool→Bool→List α
 |false,false=>xs
 |true,false=>xs.drop a.toNat
 |false,true=>xs.take b.toNat
 |true,true=>(xs.drop a.toNat).take (b.toNat - a.toNat)
def Qv(p:Perm):Bool→Bool→Perm
 |false,false=>p
 |true,false=>match p with
  |.full=> .full
  |_=> .no
 |_,_=> .no
def xB(xs:List AV)(p:Perm)(a b:Bool):Perm:=match xs,p with
 | [],.full=> .full
 |_,p=>Qv p a b
def rA(U:TypeId→TI)(ρ:Env)(ty:TypeId)(y:AV)(lo hi mx:Option Operand)(k:AV→Prop):Prop:=
 match y with
 |.s l=>(U ty).k= .str∧mx=none∧dZ ρ lo 0 fun a=>dZ ρ hi l.length fun b=>0≤a∧a≤b∧b≤l.length∧k (.s (oN l a b lo.isSome hi.isSome))
 |.sl xs p=>match (U ty).k with
  |.slice e=>(U e).sz≠0∧(lo.isSome=true→∀z∈xs,z.cells.length=(U e).sz)∧match mx with
   |none=>dZ ρ lo 0 fun a=>dZ ρ hi xs.length fun b=>0≤a∧a≤b∧b≤xs.length∧k (.sl (oN xs a b lo.isSome hi.isSome) (xB xs p lo.isSome hi.isSome))
   |some m=>hi.isSome=true∧dZ ρ lo 0 fun a=>dZ ρ hi xs.length fun b=>dZ ρ (some m) 0 fun c=>0≤a∧a≤b∧b=c∧c≤xs.length∧k (.sl (oN xs a b lo.isSome true) .full)
  |_=>False
 |.oa id off len=>match (U ty).k with
  |.slice e=>(U e).sz≠0∧(lo.isSome=true→(U e).sz=1)∧mx=none∧dZ ρ lo 0 fun a=>dZ ρ hi len fun b=>0≤a∧a≤b∧b≤len∧k (.oa id (off+a.toNat*(U e).sz) (b.toNat - a.toNat))
  |_=>False
 |.ob id off len cap sz=>match (U ty).k with
  |.slice e=>(U e).sz≠0∧sz=(U e).sz∧match mx with
   |none=>dZ ρ lo 0 fun a=>dZ ρ hi len fun b=>0≤a∧a≤b∧b≤cap∧k (.ob id (off+a.toNat*sz) (b.toNat - a.toNat) (cap - a.toNat) sz)
   |some m=>hi.isSome=true∧dZ ρ lo 0 fun a=>dZ ρ hi len fun b=>dZ ρ (some m) 0 fun c=>0≤a∧a≤b∧b≤c∧c≤cap∧k (.ob id (off+a.toNat*sz) (b.toNat - a.toNat) (c.toNat - a.toNat) sz)
  |_=>False
 |_=>False
def pvB(U:TypeId→TI)(ρ:Env)(h:Heap)(b:Builtin)(args:List Operand)(ts:List TypeId)(k:AV→Prop):Prop:=
 match b with
 |.len=>match args,ts with
  | [x],[t]=>withv ρ x fun y=>match (U t).k,y with
   |.str,.s l=>k (.i l.length)
   |.slice _,.sl xs _=>k (.i xs.length)
   |.slice _,.oa _ _ len=>k (.i len)
   |.slice _,.ob _ _ len _ _=>k (.i len)
   |.map _ _,.mp id=>match h id with
    |some (.mp m)=>k (.i m.length)
    |_=>False
   |_,_=>False
  |_,_=>False
 |.cap=>match args,ts with
  | [x],[t]=>withv ρ x fun y=>match (U t).k,y with
   |.slice _,.sl xs .full=>k (.i xs.length)
   |.slice _,.ob _ _ _ cap _=>k (.i cap)
   |_,_=>False
  |_,_=>False
 |.min=>withvs ρ args fun ys=>Dv ys k
 |.max=>withvs ρ args fun ys=>zI ys k
 |.real=>withvs ρ args fun ys=>yW ys k
 |.imag=>withvs ρ args fun ys=>ya ys k
 |.complex=>withvs ρ args fun ys=>xA ys k
 |_=>False
def fit(y:AV)(n:Nat):Prop:=
 match y with
 |.agg cs=>cs.length=n
 |.v x=>x.oneCell' =true∧n=1
 |.tup _=>False
 |_=>n=1
def fits(n:Nat):List AV→Prop
 | []=>True
 |y::r=>fit y n∧fits n r
def withps(U:TypeId→TI)(ρ:Env)(fs:List (Nat×TypeId)):List (Nat×Operand)→List AV→(List AV→Prop)→Prop
 | [],cs,k=>k cs
 |(i,x)::r,cs,k=>match fs[i]? with
  |some (off,t)=>(U t).sz≠0∧withv ρ x fun y=>fit y (U t).sz∧off+(U t).sz≤cs.length∧withps U ρ fs r (over cs off y.cells) k
  |none=>False
def gG:TK→AV→Prop
 |.str,.s l=>l.length≤maxLen
 |.int q,.v (.int q' n)=>q' =q∧(Lit.int q n).wf=true
 |_,_=>False
def si:AV→AV→Bool
 |.s a,.s b=>a==b
 |.v (.int _ a),.v (.int _ b)=>a==b
 |_,_=>false
def getM(m:List (AV×AV))(b:AV):Option AV:=(m.find? fun p=>si p.1 b).map (·.2)
def jF(U:TypeId→TI)(e:TypeId):AV:=if(U e).sz=0 then .agg []else(U e).zero
def yw(U:TypeId→TI)(e:TypeId)(m:List (AV×AV))(b:AV)(ok:Bool):AV:=
 if ok then .tup [(getM m b).getD (jF U e),.v (.bool (getM m b).isSome)]else(getM m b).getD (jF U e)
def pv(U:TypeId→TI)(ρ:Env)(h:Heap)(op:Op)(k:AV→Prop):Prop:=
 match op with
 |.move x|.assign x=>withv ρ x k
 |.pick c a b=>withv ρ c fun
  |.v (.bool true)=>withv ρ a k
  |.v (.bool false)=>withv ρ b k
  |_=>False
 |.nilCheck x=>withv ρ x fun y=>match y with
  |.ptr .. |.pe .. |.fn .. =>k y
  |_=>False
 |.binOp op ty x y _=>withv ρ x fun a=>withv ρ y fun b=>cy U op ty a b k
 |.unOp op _ x=>withv ρ x fun y=>match op,y with
  |.not,.v (.bool b)=>k (.b (!b))
  |.neg,.v (.int kk n)=>k (.v (.int kk (kk.wrap (0 - n))))
  |.xor,.v (.int kk n)=>k (.v (.int kk (kk.wrap (BitVec.ofInt kk.bits (if kk.signed then -1 else kk.max) ^^^ BitVec.ofInt kk.bits n).toNat)))
  |_,_=>False
 |.convert src dst x=>withv ρ x fun y=>match (U src).k,(U dst).k,y with
  |.int _,.int kk,.v (.int _ n)=>k (.v (.int kk (kk.wrap n)))
  |.str,.str,.s l=>k (.s l)
  |.slice e,.str,.sl xs _=>match (U e).k with
   |.int .u8=>∃l:List UInt8,xs=l.map aI∧k (.s l)
   |_=>False
  |.str,.slice e,.s l=>match (U e).k with
   |.int .u8=>k (.sl (l.map aI) .no)
   |_=>False
  |.cplx _,.cplx kk,.v (.complex kf a b)=>kf=kk∧k (.v (.complex kk a b))
  |_,_,_=>False
 |.field ty x f=>withv ρ x fun y=>match (U ty).k,y with
  |.strct fs,.agg cs=>match fs[f]? with
   |some (off,t)=>(U t).sz≠0∧(U t).k≠ .other∧iB cs off (U t) k
   |none=>False
  |_,_=>False
 |.extract x i=>withv ρ x fun y=>match y with
  |.tup vs=>∃z,vs[i]? =some z∧k z
  |_=>False
 |.index ty x i=>withv ρ x fun y=>withv ρ i fun z=>match (U ty).k,y,z with
  |.str,.s l,.v (.int _ n)=>Idx l n fun b=>k (aI b)
  |_,_,_=>False
 |.fieldAddr ty x f=>withv ρ x fun y=>match (U ty).k with
  |.strct fs=>match fs[f]? with
   |some (off,t)=>(U t).sz≠0∧match y with
    |.ptr id o=>k (.ptr id (o+off))
    |.pe z o=>k (.pe z (o+off))
    |_=>False
   |none=>False
  |_=>False
 |.indexAddr ty x i=>withv ρ x fun y=>withv ρ i fun z=>match (U ty).k,y,z with
  |.slice e,.sl xs _,.v (.int _ n)=>(U e).sz≠0∧Idx xs n fun b=>b.cells.length=(U e).sz∧k (.pe b 0)
  |.slice e,.oa id off len,.v (.int _ n)=>(U e).sz≠0∧0≤n∧n<len∧k (.ptr id (off+n.toNat*(U e).sz))
  |.arr len e,.ptr id off,.v (.int _ n)=>(U e).sz≠0∧0≤n∧n<len∧k (.ptr id (off+n.toNat*(U e).sz))
  |.slice e,.ob id off len _ sz,.v (.int _ n)=>(U e).sz≠0∧sz=(U e).sz∧0≤n∧n<len∧k (.ptr id (off+n.toNat*sz))
  |_,_,_=>False
 |.load ty x=>(U ty).sz≠0∧(U ty).k≠ .other∧withv ρ x fun y=>match y with
  |.ptr id off=>match h id with
   |some (.obj cs _)=>iB cs off (U ty) k
   |_=>False
  |.pe z off=>atA z off (U ty) k
  |_=>False
 |.slice ty x lo hi mx=>withv ρ x fun y=>rA U ρ ty y lo hi mx k
 |.lookup mt x y ok=>withv ρ x fun a=>withv ρ y fun b=>match (U mt).k,a with
  |.map kt e,.mp id=>gG (U kt).k b∧((U e).sz≠0∨(U e).k= .strct [])∧match h id with
   |some (.mp m)=>(∀p∈m,gG (U kt).k p.1)∧k (yw U e m b ok)
   |_=>False
  |_,_=>False
 |.buildSlice ty len parts=>match (U ty).k with
  |.slice e=>(U e).sz≠0∧len*(U e).sz≤2 ^ 24∧parts.toList.map (·.1)=List.range len∧
    withvs ρ (parts.toList.map (·.2)) fun xs=>fits (U e).sz xs∧k (.sl xs .full)
  |_=>False
 |.build ty parts=>if isUnit (U ty).k then parts.toList= []∧k (.agg [])else match (U ty).k with
  |.strct fs=>(U ty).sz≠0∧∃cs0,(U ty).zero= .agg cs0∧withps U ρ fs parts.toList cs0 fun cs=>k (.agg cs)
  |_=>False
 |.makeInterface ty x=>(match (U ty).k with|.iface|.other=>False|_=>True)∧withv ρ x fun y=>k (.ifc ty y)
 |.makeFunc fn first cap=>match fn,first.toList with
  |.func f,[]=>withvs ρ cap.toList fun ys=>k (.fn f ys)
  |_,_=>False
 |.call c=>match c.callee with
  |.builtin b=>pvB U ρ h b c.args.toList c.argTypes.toList k
  |_=>False
 |_=>False
def Sub(h h' :Heap):Prop:=∀id k,h id=some k→h' id=some k
def cZ(P:Program)(o:Oper)(ρ:Env)(h:Heap)(X:AV):Prop:=
 ∀c a n,Sub h c.h→Good c→cr c n ρ a→∃u c',(execOp a.eval o).run P c.w= .ok (.value u) c'.w∧Good c'∧Ext c c'∧c'.h=c.h∧Rep c' X u
section
variable {P : Program} {U : TypeId → TI}
theorem mu{t}(hU:∀t,aO P U t)(ht:(U t).k≠ .other)(w):(isAgg t).run P w= .ok (U t).k.agg w:=by
 have hd:=(hU t).desc;cases hty:(U t).k<;>rw[hty]at ht hd<;>simp only at hd<;>
  first
   |(exact(ht rfl).elim)
   |(simp[isAgg,run_underlying hd,TK.agg];done)
   |(obtain⟨fs,hd,_⟩:=hd;simp[isAgg,run_underlying hd,TK.agg];done)
   |(obtain⟨fs,hd⟩:=hd;simp[isAgg,run_underlying hd,TK.agg];done)
theorem bE{t}(hU:∀t,aO P U t)(hz:(U t).sz≠0)(w):(sizeOf t).run P w= .ok (U t).sz w:=by
 obtain⟨i,h1,h2,_⟩:=(hU t).info hz
 simp_all [sizeOf,typeInfo]
def cv:AV→Value
 |.s l=> .string ⟨l.toArray⟩
 |.v x=>x
 |_=>undef
theorem Qw{c}{t}{x}{u}(h:qp t x)(hr:Rep c x u):u=cv x:=by cases hr<;>first|rfl|(cases t<;>exact h.elim)
theorem ju:∀ {l:List TK} {xs:List AV},cB l xs→xs.length=l.length
 | [],xs,h=>by have:xs= []:=h;rw[this];rfl
 |t::ts,[],h=>h.elim
 |t::ts,x::xs,h=>by simp[ju h.2]
theorem zp:∀ {l:List TK} {xs:List AV},cB l xs→∀i (h:i<xs.length),∃t,qp t xs[i]
 | [],xs,h,i,hi=>by have:xs= []:=h;subst this;cases hi
 |t::ts,[],h,i,hi=>h.elim
 |t::ts,x::xs,h,0,hi=>⟨t,h.1⟩
 |t::ts,x::xs,h,i+1,hi=>by simpa using zp h.2 i acL
theorem lJ:∀(n:Nat) {l:List TK} {xs:List AV},cB l xs→cB (l.take n) (xs.take n)
 |0,l,xs,h=>acY
 |n+1,[],xs,h=>by grind [cB]
 |n+1,t::ts,[],h=>h.elim
 |n+1,t::ts,x::xs,h=>⟨h.1,lJ n h.2⟩
theorem lI:∀(n:Nat) {l:List TK} {xs:List AV},cB l xs→cB (l.drop n) (xs.drop n)
 |0,l,xs,h=>acL
 |n+1,[],xs,h=>by grind [cB]
 |n+1,t::ts,[],h=>h.elim
 |n+1,t::ts,x::xs,h=>by simpa using lI n h.2
theorem xL:∀ {a c:List AV} (b d:List AV),a.length=c.length→eqL (a++b) (c++d)=(eqL a c && eqL b d)
 | [],[],b,d,h=>by simp[eqL]
 | [],_::_,b,d,h=>adB
 |_::_,[],b,d,h=>adB
 |x::a,y::c,b,d,h=>by simp[eqL,xL b d (show a.length=c.length by simpa using h),Bool.and_assoc]
theorem Au(n){xs ys}(h:xs.length=ys.length):eqL xs ys=(eqL (xs.take n) (ys.take n) && eqL (xs.drop n) (ys.drop n)):=by rw[←xL _ _ acL,List.take_append_drop,List.take_append_drop]
def oF(U:TypeId→TI)(t:TypeId)(xs:List AV):Value:=if(U t).k.agg then .agg (xs.map cv).toArray else cv (xs.headD default)
theorem CP{t}{r}{l}(h:MY P U t r l):(U t).k≠ .other:=by intro e;have:=h.2.2.2;rw[e]at this;exact this.elim
theorem QV{t}{r}{l}(h:MY P U t r l)(hg:(U t).k.agg=false):∃q,l= [q]:=by have:=h.2.2.2;cases hk:(U t).k<;>rw[hk]at this hg<;>simp only[TK.agg]at hg<;>first|exact⟨_,this⟩|exact this.elim|(cases hg)
theorem tL(hU:∀t,aO P U t){t:TypeId}{r:Nat}{l:List TK}(he:(U t).eq=some (r,l))(cs:List AV)(off:Nat)(hx:cB l ((cs.drop off).take l.length))(w:World):
  (part t (cs.map cv).toArray off).run P w= .ok (oF U t ((cs.drop off).take l.length)) w:=by
 have hq:=(hU t).eq r l he;have h1:(U t).sz≠0:=by rw[←hq.1];intro h;exact hq.2.1 (List.length_eq_zero_iff.1 h)
 cases hg:(U t).k.agg
 ·obtain⟨q,rfl⟩:=QV hq hg
  have h2:=ju hx;have h3:off<cs.length:=by grind
  have h4:(cs.drop off).take [q].length= [cs[off]]:=by grind [List.drop_eq_getElem_cons]
  rw[h4];simp[part,mu hU (CP hq),hg,oF,h3]
 ·have h2:=ju hx
  simp[part,mu hU (CP hq),hg,bE hU h1,oF,hq.1]
theorem sX(hU:∀t,aO P U t){d r:Nat}(xs ys:List AV)(hl:xs.length=ys.length)(w:World)
  (ih:∀(t:TypeId) (r' :Nat) (l:List TK),(U t).eq=some (r',l)→r' <r→∀xs ys,cB l xs→cB l ys→(Op.equalIn d t (oF U t xs) (oF U t ys)).run P w= .ok (eqL xs ys) w):
  ∀ (gs : List Field) (fs : List (Nat × TypeId)) (o : Nat) (l : List TK), gs.map (fun f => (f.offset, f.type)) = fs → (∀ f ∈ gs, f.name ≠ "_") → Ek U r fs o l → cB l (xs.drop o) → cB l (ys.drop o) →
   (Op.eqFields d (xs.map cv).toArray (ys.map cv).toArray gs).run P w= .ok (eqL (xs.drop o) (ys.drop o)) w
 | [],fs,o,l,hg,hn,ht,hx,hy=>by subst hg;have:l= []:=ht;subst this;have h1:xs.drop o= []:=hx;have h2:ys.drop o= []:=hy;rw[h1,h2];simp[Op.eqFields,eqL]
 |g::gs,fs,o,l,hg,hn,ht,hx,hy=>by
  subst hg;obtain⟨h1,r',l',h2,h3,h4,h5⟩:=ht;simp only at h1 h2;have hn1:=hn g acS;have e1:cB l' ((xs.drop o).take l'.length):=by grind [lJ]
  have e2:cB l' ((ys.drop o).take l'.length):=by grind [lJ]
  have e3:=lI l'.length hx;have e4:=lI l'.length hy;rw[List.drop_drop]at e3 e4;have p1:=tL hU h2 xs o e1 w;have p2:=tL hU h2 ys o e2 w;have p3:=ih _ _ _ h2 h3 _ _ e1 e2;have p4:=sX hU xs ys hl w ih gs _ _ _ rfl acL h5 e3 e4;simp only[Op.eqFields,hn1,ne_eq,not_false_eq_true,if_true,Sem.run_bind,h1,p1,p2,p3,Result.andThen_ok];rw[Au l'.length (xs:=xs.drop o) (ys:=ys.drop o) acL];cases eqL ((xs.drop o).take l'.length) ((ys.drop o).take l'.length)
  ·simp
  ·simp only[Bool.not_true,Bool.false_eq_true,if_false,Bool.true_and]
   rw[p4,List.drop_drop,List.drop_drop]
theorem Bb(n i:Nat)(l' :List TK)(h:i<n):((List.replicate n l').flatten.drop (i*l'.length)).take l'.length=l' :=by
 induction i generalizing n with
 |zero=>
  cases n with
  |zero=>cases h
  |succ n=>grind
 |succ i ih=>
  cases n with
  |zero=>cases h
  |succ n=>simp_all [List.replicate_succ,List.flatten_cons,Nat.succ_mul,Nat.add_comm,List.drop_drop]
theorem vB(hU:∀t,aO P U t){d:Nat}{e:TypeId}{n r' :Nat}{l' :List TK}(he:(U e).eq=some (r',l'))(xs ys:List AV)(hl:xs.length=ys.length)(w:World)
  (hx:cB (List.replicate n l').flatten xs) (hy:cB (List.replicate n l').flatten ys)
  (ih:∀xs ys,cB l' xs→cB l' ys→(Op.equalIn d e (oF U e xs) (oF U e ys)).run P w= .ok (eqL xs ys) w):
  ∀(m i:Nat),i+m=n→(Op.eqItems d e l'.length (xs.map cv).toArray (ys.map cv).toArray (List.range' i m)).run P w= .ok (eqL (xs.drop (i*l'.length)) (ys.drop (i*l'.length))) w
 |0,i,hm=>by have h1:=ju hx;have h2:=ju hy;simp only[List.length_flatten,List.map_replicate,List.sum_replicate_nat]at h1 h2;have e1:xs.drop (i*l'.length)= []:=acL;have e2:ys.drop (i*l'.length)= []:=acL;rw[e1,e2];simp[Op.eqItems,eqL]
 |m+1,i,hm=>by
  have e1:cB l' ((xs.drop (i*l'.length)).take l'.length):=by
   have:=lJ l'.length (lI (i*l'.length) hx)
   rwa [Bb n i l' acK]at this
  have e2:cB l' ((ys.drop (i*l'.length)).take l'.length):=by
   have:=lJ l'.length (lI (i*l'.length) hy)
   rwa [Bb n i l' acK]at this
  have p1:=tL hU he xs _ e1 w;have p2:=tL hU he ys _ e2 w;have p3:=ih _ _ e1 e2;have p4:=vB hU he xs ys hl w hx hy ih m (i+1) acK;rw[List.range'_succ];simp only[Op.eqItems,Sem.run_bind,p1,p2,p3,Result.andThen_ok];rw[Au l'.length (xs:=xs.drop (i*l'.length)) (ys:=ys.drop (i*l'.length)) acL];cases eqL ((xs.drop (i*l'.length)).take l'.length) ((ys.drop (i*l'.length)).take l'.length)
  ·simp
  ·simp only[Bool.not_true,Bool.false_eq_true,if_false,Bool.true_and]
   rw[p4,List.drop_drop,List.drop_drop,Nat.succ_mul]
theorem wQ(hU:∀t,aO P U t)(w):∀(d:Nat) (t:TypeId) (r:Nat) (l:List TK),(U t).eq=some (r,l)→r<d→∀xs ys,cB l xs→cB l ys→
  (Op.equalIn d t (oF U t xs) (oF U t ys)).run P w= .ok (eqL xs ys) w
 |0,t,r,l,he,hr,xs,ys,hx,hy=>acK
 |d+1,t,r,l,he,hr,xs,ys,hx,hy=>by
  have hq:=(hU t).eq r l he;have hd:=(hU t).desc;have hl:xs.length=ys.length:=(ju hx).trans (ju hy).symm;obtain⟨h1,h2,h3,h4⟩:=hq;cases hk:(U t).k<;>rw[hk]at h4 hd<;>simp only at h4 hd<;>first|exact h4.elim|skip
  case int q=>
   subst h4
   match xs,ys,hx,hy with
   | [.v (.int a x)],[.v (.int b y)],hx,hy=>
    have ha:a=q:=hx.1;have hb:b=q:=hy.1;subst ha;subst hb
    simp[oF,hk,TK.agg,cv,run_equalIn_int w d t _ _ x y hd,eqL,eqC]
  case bool=>
   subst h4
   match xs,ys,hx,hy with
   | [.v (.bool x)],[.v (.bool y)],hx,hy=>simp[oF,hk,TK.agg,cv,run_equalIn_bool' w d t x y hd,eqL,eqC]
  case str=>
   subst h4
   match xs,ys,hx,hy with
   | [.s x],[.s y],hx,hy=>simp[oF,hk,TK.agg,cv,run_equalIn_string w d t _ _ hd,eqL,eqC,ByteArray.toList_eq]
  case cplx q=>
   subst h4
   match xs,ys,hx,hy with
   | [.v (.complex a i j)],[.v (.complex b m n)],hx,hy=>
    have ha:a=q:=hx.1;have hb:b=q:=hy.1;subst ha;subst hb
    simp[oF,hk,TK.agg,cv,Op.equalIn,run_underlying hd,eqL,eqC]
  case strct fs=>
   obtain⟨fields,hd,hfs,hsz⟩:=hd;obtain⟨g1,g2,g3,g4⟩:=h4;have hf:P.fieldsOf t=fields:=by grind [Program.fieldsOf]
   have:(Op.equalIn (d+1) t (.agg (xs.map cv).toArray) (.agg (ys.map cv).toArray)).run P w= .ok (eqL xs ys) w:=by
    rw[run_equalIn_struct w d t _ _ acL g1];have:=sX (d:=d) (r:=r) hU xs ys hl w (fun t' r' l' he' hr' =>wQ hU w d t' r' l' he' acK) (P.fieldsOf t).toList fs 0 l acL (fun f hf=>g3 f acL) g4 hx hy
    simpa using this
   simpa[oF,hk,TK.agg]using this
  case arr n e=>
   obtain⟨g2,r',l',g3,g4,rfl⟩:=h4;have hq' :=(hU e).eq r' l' g3;have hz:(U e).sz≠0:=by rw[←hq'.1];simp_all
   obtain⟨i,i1,i2,_⟩:=(hU e).info hz;have:(Op.equalIn (d+1) t (.agg (xs.map cv).toArray) (.agg (ys.map cv).toArray)).run P w= .ok (eqL xs ys) w:=by
    rw[run_equalIn_array w d _ _ hd i1];have hc:P.cellsOf e=l'.length:=by simp[Program.cellsOf,i1,i2,hq'.1]
    have:=vB (d:=d) (n:=n) hU g3 xs ys hl w hx hy (fun xs ys hx hy=>wQ hU w d e r' l' g3 acK xs ys hx hy) n 0 acK
    rw[hc,List.range_eq_range'];simpa using this
   simpa[oF,hk,TK.agg]using this
theorem Bq{c}{l}{xs}{u}(hx:cB l xs)(h:Rep c (.agg xs) u):u= .agg (xs.map cv).toArray:=by
 cases h with
 |agg _ vs hn hr ho=>
  congr 1
  apply Array.ext
  ·grind
  ·intro i h1 h2
   have hi:i<xs.length:=acK;obtain⟨t,ht⟩:=zp hx i hi;have:=Qw ht (hr i hi);simpa[h1]using this
theorem Md{op}{ty}{xs ys}{K}(x y)(hU:∀t,aO P U t)(hk:Kl U op ty xs ys K):
  ∃X,K X∧∀c u v,Rep c (.agg xs) u→Rep c (.agg ys) v→(eqGuard op ty x y u v).run P c.w= .ok () c.w∧∃r,(binOp op ty u v).run P c.w= .ok r c.w∧Rep c X r:=by
 have guard:∀r l,(U ty).eq=some (r,l)→(U ty).k.agg=true→P.eqGuardType P.depth ty=false:=fun r l he ha=>by have h4:=((hU ty).eq r l he).2.2.2;cases hk:(U ty).k<;>rw[hk]at ha h4<;>simp only[TK.agg]at ha<;>first|exact h4.2.1|exact h4.1|(cases ha)
 unfold Kl at hk;split at hk
 ·rename_i r l he
  obtain⟨h1,h2,h3,h4⟩:=hk;refine⟨_,h4,fun c u v hu hv=>?_⟩
  obtain rfl:=Bq h2 hu;obtain rfl:=Bq h3 hv;have:=wQ hU c.w 10000 ty r l he (by have:=((hU ty).eq r l he).2.2.1;omega) xs ys h2 h3
  rw[oF,oF,h1,if_pos rfl,if_pos rfl]at this;exact⟨run_eqGuard_agg c.w _ _ _ _ _ _ (guard _ _ he h1),_,by simp_all [run_eql_struct],.v _⟩
 ·rename_i r l he
  obtain⟨h1,h2,h3,h4⟩:=hk;refine⟨_,h4,fun c u v hu hv=>?_⟩
  obtain rfl:=Bq h2 hu;obtain rfl:=Bq h3 hv;have:=wQ hU c.w 10000 ty r l he (by have:=((hU ty).eq r l he).2.2.1;omega) xs ys h2 h3
  rw[oF,oF,h1,if_pos rfl,if_pos rfl]at this;exact⟨run_eqGuard_agg c.w _ _ _ _ _ _ (guard _ _ he h1),_,by simp_all [run_neq_struct],.v _⟩
 ·exact ac7
end
theorem aJ{ρ}{x}{k}(h:withv ρ x k):∃y,ev ρ x=some y∧k y:=by grind [withv]
theorem fm{ρ}{xs}{k}(h:withvs ρ xs k):∃ys,evs ρ xs=some ys∧k ys:=by grind [withvs]
theorem Rep.bS{c}{x u}(h:Rep c (.v x) u):u=x:=by cases h;rfl
theorem Rep.nF{c}{l}{u}(h:Rep c (.s l) u):u= .string ⟨l.toArray⟩∧l.length<lim:=by cases h;grind
theorem Rep.oK{c}{xs}{u}(h:Rep c (.agg xs) u):∃vs:Array Value,u= .agg vs∧vs.size=xs.length∧
  (∀i (h:i<xs.length),Rep c xs[i] (vs.getD i undef))∧∀i,i<xs.length→(vs.getD i undef).oneCell' =true:=by
 cases h;grind
theorem Rep.Cb{c}{xs}{u}(h:Rep c (.tup xs) u):∃vs:Array Value,u= .tuple vs∧vs.size=xs.length∧
  (∀i (h:i<xs.length),Rep c xs[i] (vs.getD i undef)):=by
 cases h;grind
theorem Rep.kT{c}{id off}{u}(h:Rep c (.ptr id off) u):u= .pointer (some ⟨(c.φ id).block,off,none⟩)∧∃cs t,c.h id=some (.obj cs t):=by cases h;grind
theorem Rep.uT{c}{x}{off}{u}(h:Rep c (.pe x off) u):∃(b o:Nat) (val:Nat→Value),u= .pointer (some ⟨b,o+off,none⟩)∧b<c.w.heap.size∧
  (∀j,j<x.cells.length→fix c b (o+j) (val j))∧(∀j (h:j<x.cells.length),Rep c x.cells[j] (val j))∧(∀j,j<x.cells.length→(val j).oneCell' =true):=by
 cases h;exact⟨_,_,_,rfl,‹_›,‹_›,‹_›,‹_›⟩
theorem Rep.o9{c}{id off len}{u}(h:Rep c (.oa id off len) u):∃cap o,u= .slice (some ⟨(c.φ id).block,o,none⟩) len cap∧len≤cap∧cap<lim∧(len≠0→o=off)∧∃cs t,c.h id=some (.obj cs t)∧(cap≠0→o=off∧off+cap≤cs.length):=by
 cases h with
 |oa _ _ _ cap o cs t h hc hm ho=>grind
theorem Rep.jq{c}{id off len cap sz}{u}(h:Rep c (.ob id off len cap sz) u):∃o,u= .slice (some ⟨(c.φ id).block,o,none⟩) len cap∧len≤cap∧cap<lim∧∃cs t,c.h id=some (.obj cs t)∧(cap≠0→o=off∧off+cap*sz≤cs.length):=by
 cases h with
 |ob _ _ _ _ _ o cs t h hc hm ho=>grind
theorem Rep.FA{c}{id}{u}(h:Rep c (.mp id) u):u= .map (some (c.φ id).block)∧∃m,c.h id=some (.mp m):=by cases h;grind
theorem Rep.E7{c}{f}{xs}{u}(h:Rep c (.fn f xs) u):∃vs:Array Value,u= .func (.func f) #[] vs∧vs.size=xs.length∧
  (∀i (h:i<xs.length),Rep c xs[i] (vs.getD i undef)):=by
 cases h;grind
structure Cl (c:Cx) (xs:List AV) (p:Perm) (a:Option Addr) (cap sz:Nat) (val:Nat→Nat→Value):Prop where
 hc:xs.length≤cap
 hm:cap<lim
 h0:a=none→cap=0
 hs:∀q,a=some q→0<cap→q.spot=none∧q.block<c.w.heap.size
 hz:∀i (h:i<xs.length),xs[i].cells.length=sz
 hf:∀q,a=some q→∀i j,i<xs.length→j<sz→fix c q.block (q.off+(i*sz+j)) (val i j)
 hr:∀i (h:i<xs.length) j (h' :j<xs[i].cells.length),Rep c xs[i].cells[j] (val i j)
 ho:∀i j,i<xs.length→j<sz→(val i j).oneCell' =true
 hp:uk c a xs.length cap sz p
theorem Rep.iD{c}{xs}{p}{u}(h:Rep c (.sl xs p) u):∃a cap sz val,u= .slice a xs.length cap∧Cl c xs p a cap sz val:=by cases h;exact⟨_,_,_,_,rfl,‹_›,‹_›,‹_›,‹_›,‹_›,‹_›,‹_›,‹_›,‹_›⟩
theorem Cl.rep{c}{xs}{p}{a}{cap sz}{val}(h:Cl c xs p a cap sz val):Rep c (.sl xs p) (.slice a xs.length cap):=
 .sl xs p a cap sz val h.hc h.hm h.h0 h.hs h.hz h.hf h.hr h.ho h.hp
theorem wJ{c}{n}{ρ}{a}(h:cr c n ρ a):∀(xs:List Operand) (ys:List AV),evs ρ xs=some ys→
  xs.length=ys.length∧∀i (hi:i<xs.length) (hj:i<ys.length),Rep c ys[i] (a.eval xs[i])
 | [],ys,e=>by simp only[evs,Option.some.injEq]at e;grind
 |x::r,ys,e=>by
  simp only[evs]at e;split at e
  ·rename_i y ys' h1 h2
   obtain⟨h3,h4⟩:=wJ h r ys' h2
   grind [aF]
  grind
section
variable {P : Program} {U : TypeId → TI} {ρ : Env} {h : Heap} {k : AV → Prop} {o : Oper}
theorem cZ.stay{X}(hs:∀c a n,Sub h c.h→Good c→cr c n ρ a→∃u,(execOp a.eval o).run P c.w= .ok (.value u) c.w∧Rep c X u):cZ P o ρ h X:=
 fun c a n hc g he=>let ⟨u,h1,h2⟩:=hs c a n hc g he;⟨u,c,h1,g,.refl c,rfl,h2⟩
theorem zh{x}(ho:o.op= .move x∨o.op= .assign x)(hp:withv ρ x k):∃X,k X∧cZ P o ρ h X:=by
 obtain⟨y,hy,hk⟩:=aJ hp;refine⟨y,hk,.stay fun c a n _ _ he=>⟨a.eval x,?_,aF he hy⟩⟩
 rcases ho with ho|ho<;>simp[execOp,ho]
theorem FY{x y z}(ho:o.op= .pick x y z)(hp:pv U ρ h (.pick x y z) k):∃X,k X∧cZ P o ρ h X:=by
 obtain⟨b,hb,hk⟩:=aJ hp;split at hk
 ·obtain⟨w,hw,hk⟩:=aJ hk
  refine⟨w,hk,.stay fun c a n _ _ he=>⟨a.eval y,?_,aF he hw⟩⟩
  have:=(aF he hb).bS;simp[execOp,ho,this,asBool]
 ·obtain⟨w,hw,hk⟩:=aJ hk
  refine⟨w,hk,.stay fun c a n _ _ he=>⟨a.eval z,?_,aF he hw⟩⟩
  have:=(aF he hb).bS;simp[execOp,ho,this,asBool]
 grind
theorem zi{x}(ho:o.op= .nilCheck x)(hp:pv U ρ h (.nilCheck x) k):∃X,k X∧cZ P o ρ h X:=by
 obtain⟨y,hy,hk⟩:=aJ hp;have key:(y matches .ptr .. |.pe .. |.fn ..)=true→∃X,k X∧cZ P o ρ h X:=fun hm=>by
  refine⟨y,by cases y<;>simp at hm<;>exact hk,.stay fun c a n _ _ he=>⟨a.eval x,?_,aF he hy⟩⟩
  have hr:=aF he hy;cases y<;>simp at hm
  ·obtain⟨b,o',val,hu,_⟩:=hr.uT
   simp[execOp,ho,hu]
  ·obtain⟨hu,_⟩:=hr.kT
   simp[execOp,ho,hu]
  ·obtain⟨vs,hu,_⟩:=hr.E7
   simp[execOp,ho,hu]
 cases y<;>first|exact key rfl|exact hk.elim
theorem vA(op)(ty)(x y)(k k')(a b)(w):(eqGuard op ty x y (.int k a) (.int k' b)).run P w= .ok () w:=by simp[eqGuard]
theorem Me(op)(ty)(k)(a b)(K)(hs:ga op=false)(hp:rJ op k a b K):
  ∃r,K (.v r)∧∀w,(binOp op ty (.int k a) (.int k b)).run P w= .ok r w:=by
 cases op<;>simp only[rJ,ga]at hp hs<;>
  first
   |(exact⟨_,hp,fun w=>by simp[binOp,Op.intArith,Op.intCmp,Op.intBits]⟩)
   |(exact⟨_,hp.2,fun w=>by simp[binOp,Op.intDiv,hp.1]⟩)
   |(cases hs)
   |(exact hp.elim)
theorem Jp(op)(ty)(k k')(a b)(K)(hp:Km op k a b K):
  ∃r,K (.v r)∧∀w,(binOp op ty (.int k a) (.int k' b)).run P w= .ok r w:=by
 cases op<;>simp only[Km]at hp<;>
  first
   |(refine⟨_,hp.2,fun w=>?_⟩;have h1:¬b<0:=Int.not_lt.2 hp.1;simp[binOp,Op.shift,h1])
   |(exact hp.elim)
theorem Mg(op)(ty)(a b)(K)(hp:Qq op a b K):
  ∃X r,K X∧(∀c,Rep c X r)∧∀w,(binOp op ty (.string ⟨a.toArray⟩) (.string ⟨b.toArray⟩)).run P w= .ok r w:=by
 have key:∀t:Bool,K (.b t)→(∀w,(binOp op ty (.string ⟨a.toArray⟩) (.string ⟨b.toArray⟩)).run P w= .ok (.bool t) w)→
   ∃X r,K X∧(∀c,Rep c X r)∧∀w,(binOp op ty (.string ⟨a.toArray⟩) (.string ⟨b.toArray⟩)).run P w= .ok r w:=fun t h1 h2=>⟨_,_,h1,fun c=> .v _,h2⟩
 cases op<;>simp only[Qq]at hp<;>
  first
   |(exact hp.elim)
   |(refine key _ hp fun w=>?_;simp[binOp,Op.stringOp,ByteArray.toList_eq])
   |skip
 obtain⟨h1,h2⟩:=hp;refine⟨_,.string ⟨(a++b).toArray⟩,h2,fun c=> .s _ acL,fun w=>?_⟩
 have e1:(⟨a.toArray⟩:ByteArray)++⟨b.toArray⟩=⟨(a++b).toArray⟩:=acY;have e2:(⟨a.toArray⟩:ByteArray).size=a.length:=rfl;have e3:(⟨b.toArray⟩:ByteArray).size=b.length:=rfl;have h3:¬(((a.length+b.length:Nat):Int)>IntKind.i64.max):=by have e4:IntKind.i64.max=9223372036854775807:=rfl;simp only[lim]at h1;omega
 simp only[binOp,Op.stringOp,e1,e2,e3];rw[if_neg h3];rfl
theorem sY{ty}(hu:P.underlying ty=some .bool)(d)(a b)(w):(Op.equalIn (d+1) ty (.bool a) (.bool b)).run P w= .ok (a==b) w:=by simp[Op.equalIn,run_underlying hu]
theorem pQ{ty e}(hu:P.underlying ty=some (.pointer e))(d)(a)(w):(Op.equalIn (d+1) ty (.pointer a) (.pointer none)).run P w= .ok a.isNone w:=by cases a<;>simp[Op.equalIn,run_underlying hu]
theorem kV(ty)(x y)(b)(w)(h:(Op.equalIn (9999+1) ty x y).run P w= .ok b w):(Op.equal ty x y).run P w= .ok b w:=h
theorem gI(op)(ty)(x y)(u v)(w)(h:(u matches .nilIface|.agg _)=false):(eqGuard op ty x y u v).run P w= .ok () w:=by unfold eqGuard;cases u<;>first|(simp at h;done)|(split<;>rfl)
theorem Dy{c}{A}{u}{n}(h:N6 A=some n)(hr:Rep c A u):∃a,u= .pointer a∧a.isNone=n:=by
 unfold N6 at h;split at h
 ·simp only[Option.some.injEq]at h;subst h;exact⟨none,hr.bS,rfl⟩
 ·simp only[Option.some.injEq]at h;subst h;exact⟨_,hr.kT.1,rfl⟩
 ·simp only[Option.some.injEq]at h;subst h;obtain⟨b,o',val,hu,_⟩:=hr.uT;grind
 grind
theorem Mc{op}{ty}{a b}{K}(hU:∀t,aO P U t)(hk:Nl U op ty a b K):
  ∃r,K (.v r)∧∀w,(binOp op ty (.bool a) (.bool b)).run P w= .ok r w:=by
 unfold Nl at hk;split at hk
 ·rename_i hty
  have:=(hU ty).desc;exact⟨_,hk,fun w=>by simp_all [binOp,kV,sY]⟩
 ·rename_i hty
  have:=(hU ty).desc;exact⟨_,hk,fun w=>by simp_all [binOp,kV,sY]⟩
 grind
theorem Mf{op}{ty}{x}{K}(hU:∀t,aO P U t)(hk:Nn U op ty x K):
  ∃r,K (.v r)∧∀c u,Rep c x u→(binOp op ty u (.pointer none)).run P c.w= .ok r c.w∧(u matches .nilIface|.agg _)=false:=by
 unfold Nn at hk;split at hk
 ·rename_i e n hty hn
  have:=(hU ty).desc;refine⟨_,hk,fun c u hu=>?_⟩
  obtain⟨a,rfl,hn'⟩:=Dy hn hu;exact⟨by simp_all [binOp,kV,pQ],rfl⟩
 ·rename_i e n hty hn
  have:=(hU ty).desc;refine⟨_,hk,fun c u hu=>?_⟩
  obtain⟨a,rfl,hn'⟩:=Dy hn hu;exact⟨by simp_all [binOp,kV,pQ],rfl⟩
 grind
theorem Mb{op}{ty}{A B}{K}(x y)(hU:∀t,aO P U t)(hk:cy U op ty A B K):
  ∃X,K X∧∀c u v,Rep c A u→Rep c B v→(eqGuard op ty x y u v).run P c.w= .ok () c.w∧∃r,(binOp op ty u v).run P c.w= .ok r c.w∧Rep c X r:=by
 unfold cy at hk;split at hk
 ·split at hk
  ·split at hk
   ·obtain⟨r,h1,h2⟩:=Jp (P:=P) op ty _ _ _ _ _ hk
    refine⟨_,h1,fun c u v ra rb=>?_⟩
    rw[ra.bS,rb.bS];exact⟨vA _ _ _ _ _ _ _ _ _,r,h2 _,.v _⟩
   ·rename_i hs
    obtain⟨rfl,hk⟩:=hk;obtain⟨r,h1,h2⟩:=Me (P:=P) op ty _ _ _ _ acL hk;refine⟨_,h1,fun c u v ra rb=>?_⟩
    rw[ra.bS,rb.bS];exact⟨vA _ _ _ _ _ _ _ _ _,r,h2 _,.v _⟩
  grind
 ·split at hk
  ·obtain⟨X,r,h1,h2,h3⟩:=Mg (P:=P) op ty _ _ _ hk
   refine⟨_,h1,fun c u v ra rb=>?_⟩
   rw[ra.nF.1,rb.nF.1];exact⟨gI _ _ _ _ _ _ _ rfl,r,h3 _,h2 _⟩
  grind
 ·split at hk
  ·obtain⟨r,h1,h2⟩:=Mc hU hk
   refine⟨_,h1,fun c u v ra rb=>?_⟩
   rw[ra.bS,rb.bS];exact⟨gI _ _ _ _ _ _ _ rfl,r,h2 _,.v _⟩
  grind
 ·obtain⟨r,h1,h2⟩:=Mf hU hk
  refine⟨_,h1,fun c u v ra rb=>?_⟩
  rw[rb.bS];exact⟨gI _ _ _ _ _ _ _ (h2 c u ra).2,r,(h2 c u ra).1,.v _⟩
 ·split at hk
  ·exact Md x y hU hk
  grind
 ·split at hk
  ·obtain⟨r,h1,h2⟩:=hk
   refine⟨_,h2,fun c u v ra rb=>?_⟩
   rw[ra.bS,rb.bS];exact⟨gI _ _ _ _ _ _ _ rfl,r,h1 _ _ _,.v _⟩
  grind
 ·split at hk
  ·obtain⟨r,h1,h2⟩:=hk
   refine⟨_,h2,fun c u v ra rb=>?_⟩
   rw[ra.bS,rb.bS];exact⟨gI _ _ _ _ _ _ _ rfl,r,h1 _ _ _,.v _⟩
  grind
 grind
theorem Ec{op}{ty ty'}{x y}(hU:∀t,aO P U t)(ho:o.op= .binOp op ty x y ty')(hp:pv U ρ h (.binOp op ty x y ty') k):∃X,k X∧cZ P o ρ h X:=by
 obtain⟨A,hA,hk⟩:=aJ hp;obtain⟨B,hB,hk⟩:=aJ hk;obtain⟨X,h1,h2⟩:=Mb (P:=P) x y hU hk;refine⟨X,h1,.stay fun c a n hc g he=>?_⟩
 obtain⟨h3,r,h4,h5⟩:=h2 c _ _ (aF he hA) (aF he hB)
 simp_all [execOp]
end
section
variable {args:Array Operand}{ts:Array TypeId}
variable {P : Program} {U : TypeId → TI} {ρ : Env} {h : Heap} {k : AV → Prop} {o : Oper}
theorem F0{op}{ty}{x}(ho:o.op= .unOp op ty x)(hp:pv U ρ h (.unOp op ty x) k):∃X,k X∧cZ P o ρ h X:=by
 obtain⟨A,hA,hk⟩:=aJ hp;split at hk
 ·refine⟨_,hk,.stay fun c a n hc g he=>⟨_,?_,.v _⟩⟩
  simp[execOp,ho,(aF he hA).bS,Op.unary]
 ·refine⟨_,hk,.stay fun c a n hc g he=>⟨_,?_,.v _⟩⟩
  simp[execOp,ho,(aF he hA).bS,Op.unary,Op.intArith]
 ·refine⟨_,hk,.stay fun c a n hc g he=>⟨_,?_,.v _⟩⟩
  simp[execOp,ho,(aF he hA).bS,Op.unary,Op.intBits]
 grind
theorem zV{x}{i}(ho:o.op= .extract x i)(hp:pv U ρ h (.extract x i) k):∃X,k X∧cZ P o ρ h X:=by
 obtain⟨A,hA,hk⟩:=aJ hp;split at hk
 ·obtain⟨z,hz,hk⟩:=hk
  refine⟨z,hk,.stay fun c a n hc g he=>?_⟩
  obtain⟨us,hu,hn,hr⟩:=(aF he hA).Cb;obtain⟨hi,hz'⟩:=List.getElem?_eq_some_iff.1 hz;have:=hr i hi
  simp_all [execOp,Instr.extract]
 grind
theorem rL{ty}{x}(hU:∀t,aO P U t)(ho:o.op= .makeInterface ty x)(hp:pv U ρ h (.makeInterface ty x) k):∃X,k X∧cZ P o ρ h X:=by
 obtain⟨ht,hp⟩:=hp;obtain⟨A,hA,hk⟩:=aJ hp;refine⟨_,hk,.stay fun c a n hc g he=>⟨_,?_,.ifc _ _ _ (aF he hA)⟩⟩
 have hd:=(hU ty).desc;cases hty:(U ty).k<;>rw[hty]at ht hd<;>simp only at ht hd<;>
  first
   |(exact ht.elim)
   |(simp[execOp,ho,Instr.makeInterface,run_underlying hd];done)
   |(obtain⟨fs,hd,_⟩:=hd;simp[execOp,ho,Instr.makeInterface,run_underlying hd];done)
theorem zg{fn}{first cap}(ho:o.op= .makeFunc fn first cap)(hp:pv U ρ h (.makeFunc fn first cap) k):∃X,k X∧cZ P o ρ h X:=by
 simp only[pv]at hp;split at hp
 ·rename_i f hf
  have hf' :first= #[]:=acL;subst hf';obtain⟨ys,hy,hk⟩:=fm hp;refine⟨_,hk,.stay fun c a n hc g he=>?_⟩
  obtain⟨h1,h2⟩:=wJ he _ _ hy;refine⟨.func (.func f) #[] (cap.map a.eval),by simp[execOp,ho,Instr.makeFunc],.fn f ys _ acL fun i hi=>?_⟩
  have hi' :i<cap.size:=acL;have:=h2 i acK hi;simpa[hi']using this
 grind
theorem tq(vs:Array Value)(off n i:Nat)(h1:i<n)(h2:off+n≤vs.size):(vs.extract off (off+n)).getD i undef=vs.getD (off+i) undef:=by have h3:i<(vs.extract off (off+n)).size:=acL;have h4:off+i<vs.size:=acK;rw[Array.getD,dif_pos h3,Array.getD,dif_pos h4];exact Array.getElem_extract h3
theorem Ji{t}(hU:∀t,aO P U t)(hz:(U t).sz≠0)(ht:(U t).k≠ .other){cs}{off}(hk:iB cs off (U t) k):
  ∃X,k X∧∀c (vs:Array Value),vs.size=cs.length→(∀i (h:i<cs.length),Rep c cs[i] (vs.getD i undef))→(∀i,i<cs.length→(vs.getD i undef).oneCell' =true)→
   ∃r,(part t vs off).run P c.w= .ok r c.w∧Rep c X r:=by
 unfold iB at hk;split at hk
 ·rename_i hag
  obtain⟨hle,hk⟩:=hk;refine⟨_,hk,fun c vs hn hr ho=>⟨.agg (vs.extract off (off+(U t).sz)),by simp[part,mu hU ht,hag,bE hU hz],?_⟩⟩
  refine .agg _ _ acL (fun i hi=>?_) (fun i hi=>?_)
  ·simp at hi
   have h1:off+i<cs.length:=acK;have:=hr (off+i) h1;rw[tq _ _ _ _ acK acK];simpa using this
  grind [tq]
 ·rename_i hag
  obtain⟨x,hx,hk⟩:=hk;obtain⟨hi,hx'⟩:=List.getElem?_eq_some_iff.1 hx;refine⟨x,hk,fun c vs hn hr ho=>?_⟩
  have h1:off<vs.size:=acK;have:=hr off hi;rw[hx']at this;exact⟨vs[off],by simp[part,mu hU ht,hag,h1],by simpa[h1]using this⟩
theorem Ee{ty}{x}{f}(hU:∀t,aO P U t)(ho:o.op= .field ty x f)(hp:pv U ρ h (.field ty x f) k):∃X,k X∧cZ P o ρ h X:=by
 obtain⟨A,hA,hk⟩:=aJ hp;split at hk
 ·rename_i fs cs hty
  split at hk
  ·rename_i off t hf
   obtain⟨hz,ht,hk⟩:=hk;obtain⟨X,hk,hX⟩:=Ji hU hz ht hk;refine⟨X,hk,.stay fun c a n hc g he=>?_⟩
   obtain⟨us,hu,hn,hr,h1⟩:=(aF he hA).oK;obtain⟨r,h2,h3⟩:=hX c us hn hr h1;have hd:=(hU ty).desc;rw[hty]at hd;obtain⟨fields,hd,hfs,_⟩:=hd;rw[←hfs]at hf;obtain⟨fd,hf1,hf2⟩:=List.getElem?_map .. ▸hf|>Option.map_eq_some_iff.1
   exact⟨r,by simp_all [execOp,Instr.field,run_underlying,asAgg],h3⟩
  grind
 grind
theorem cm{b}{args}{ts}(ho:o.op= .call {callee:=.builtin b,args:=args,argTypes:=ts})(ev):
  execOp ev o=builtin b ts o.type (args.map fun|.const _=>true|_=>false) (args.map ev):=by
 simp only[execOp,ho,resolve];rfl
theorem Jw(hU:∀t,aO P U t)(ho:o.op= .call {callee:=.builtin .len,args:=args,argTypes:=ts})
  (hp:pvB U ρ h .len args.toList ts.toList k):∃X,k X∧cZ P o ρ h X:=by
 obtain⟨args⟩:=args;obtain⟨ts⟩:=ts;simp only[pvB]at hp;split at hp
 ·rename_i x t
  obtain⟨A,hA,hk⟩:=aJ hp;have hd:=(hU t).desc;split at hk
  ·rename_i hty
   rw[hty]at hd;refine⟨_,hk,.stay fun c a n hc g he=>⟨_,?_,.v _⟩⟩
   rw[cm ho];simp[builtin,Builtin.len_,run_underlying hd,(aF he hA).nF.1,goInt];rfl
  ·rename_i hty
   rw[hty]at hd;refine⟨_,hk,.stay fun c a n hc g he=>⟨_,?_,.v _⟩⟩
   obtain⟨q,cap,sz,val,hu,_⟩:=(aF he hA).iD;rw[cm ho]
   simp_all [builtin,Builtin.len_,run_underlying,goInt]
  ·rename_i hty
   rw[hty]at hd;refine⟨_,hk,.stay fun c a n hc g he=>⟨_,?_,.v _⟩⟩
   obtain⟨cap,o',hu,_⟩:=(aF he hA).o9;rw[cm ho]
   simp_all [builtin,Builtin.len_,run_underlying,goInt]
  ·rename_i hty
   rw[hty]at hd;refine⟨_,hk,.stay fun c a n hc g he=>⟨_,?_,.v _⟩⟩
   obtain⟨o',hu,_⟩:=(aF he hA).jq;rw[cm ho]
   simp_all [builtin,Builtin.len_,run_underlying,goInt]
  ·rename_i id hty
   rw[hty]at hd;split at hk
   ·rename_i m hid
    refine⟨_,hk,fun c a n hs g he=>?_⟩
    have hcid:=hs _ _ hid;obtain⟨hu,_⟩:=(aF he hA).FA;obtain⟨es,cl,e1,e2,e3⟩:=g.mp id m hcid;refine⟨_,c,?_,g,.refl c,rfl,.v _⟩;rw[cm ho];simp[builtin,Builtin.len_,run_underlying hd,hu,MapKept.run_getObj_map e1,goInt,e2]
   ·exact ac7
  ·exact ac7
 grind
theorem Jv(hU:∀t,aO P U t)(ho:o.op= .call {callee:=.builtin .cap,args:=args,argTypes:=ts})
  (hp:pvB U ρ h .cap args.toList ts.toList k):∃X,k X∧cZ P o ρ h X:=by
 obtain⟨args⟩:=args;obtain⟨ts⟩:=ts;simp only[pvB]at hp;split at hp
 ·rename_i x t
  obtain⟨A,hA,hk⟩:=aJ hp;have hd:=(hU t).desc;split at hk
  ·rename_i hty
   rw[hty]at hd;refine⟨_,hk,.stay fun c a n hc g he=>⟨_,?_,.v _⟩⟩
   obtain⟨q,cap,sz,val,hu,hs⟩:=(aF he hA).iD;have hp:cap=_:=hs.hp;rw[cm ho];simp[builtin,Builtin.cap_,run_underlying hd,hu,goInt,hp]
  ·rename_i hty
   rw[hty]at hd;refine⟨_,hk,.stay fun c a n hc g he=>⟨_,?_,.v _⟩⟩
   obtain⟨o',hu,_⟩:=(aF he hA).jq;rw[cm ho]
   simp_all [builtin,Builtin.cap_,run_underlying,goInt]
  ·exact ac7
 grind
theorem wK{xs}{A B}(h:evs ρ xs=some [A,B]):∃x y,xs= [x,y]∧ev ρ x=some A∧ev ρ y=some B:=by
 match xs,h with
 | [x,y],h=>
  simp only[evs]at h;split at h
  ·rename_i h1 h2
   split at h2
   ·rename_i h3 h4
    simp only[Option.some.injEq]at h4 h2 h;subst h4;subst h2
    obtain⟨rfl,rfl⟩:=h;exact⟨x,y,rfl,h1,h3⟩
   ·cases h2
  ·cases h
 | [x],h=>simp only[evs]at h;split at h<;>simp_all
 | [],h=>simp[evs]at h
 |x::y::z::r,h=>
  simp only[evs]at h;split at h
  ·rename_i h1 h2
   split at h2
   ·rename_i h3 h4
    split at h4<;>simp_all
   ·cases h2
  ·cases h
theorem Jy{args}{ts}(ho:o.op= .call {callee:=.builtin .min,args,argTypes:=ts})
  (hp:withvs ρ args.toList fun ys=>Dv ys k):∃X,k X∧cZ P o ρ h X:=by
 obtain⟨ys,hy,hk⟩:=fm hp;unfold Dv at hk;split at hk
 ·obtain⟨rfl,hk⟩:=hk
  obtain⟨x,y,e,hx,hy2⟩:=wK hy;have e' :args= #[x,y]:=acL;subst e';refine⟨_,hk,.stay fun c a n hc g he=>⟨_,?_,.v _⟩⟩
  rw[cm ho];simp[builtin,Builtin.min_,Builtin.min2,(aF he hx).bS,(aF he hy2).bS]
 grind
theorem Jx{args}{ts}(ho:o.op= .call {callee:=.builtin .max,args,argTypes:=ts})
  (hp:withvs ρ args.toList fun ys=>zI ys k):∃X,k X∧cZ P o ρ h X:=by
 obtain⟨ys,hy,hk⟩:=fm hp;unfold zI at hk;split at hk
 ·obtain⟨rfl,hk⟩:=hk
  obtain⟨x,y,e,hx,hy2⟩:=wK hy;have e' :args= #[x,y]:=acL;subst e';refine⟨_,hk,.stay fun c a n hc g he=>⟨_,?_,.v _⟩⟩
  rw[cm ho];simp[builtin,Builtin.max_,Builtin.max2,(aF he hx).bS,(aF he hy2).bS]
 ·obtain⟨r,h1,hk⟩:=hk
  obtain⟨x,y,e,hx,hy2⟩:=wK hy;have e' :args= #[x,y]:=acL;subst e';refine⟨_,hk,.stay fun c a n hc g he=>⟨_,?_,.v r⟩⟩
  rw[cm ho];have h2:=h1 P ts o.type c.w;rw[←(aF he hx).bS,←(aF he hy2).bS]at h2;simp[builtin,h2]
 grind
theorem Gu{l}{y}(h:evs ρ l=some [y]):∃x,l= [x]∧ev ρ x=some y:=by
 cases l with
 |nil=>cases h
 |cons x r=>
  simp only[evs]at h;split at h
  ·rename_i u us h1 h2
   cases r with
   |nil=>grind
   |cons z r=>grind [evs]
  grind
theorem L7(ts)(ty)(k)(a b):Builtin.real_ ts ty #[.complex k a b]=pure (.float k a):=rfl
theorem KY(ts)(ty)(k)(a b):Builtin.imag_ ts ty #[.complex k a b]=pure (.float k b):=rfl
theorem Kw(ts)(ty)(k)(a b):Builtin.complex_ ts ty #[.float k a,.float k b]=pure (.complex k a b):=by
 show(if k=k then(pure (Value.complex k a b):Sem Value)else _)=_
 simp
theorem FZ{args}{ts}(ho:o.op= .call {callee:=.builtin .real,args,argTypes:=ts})
  (hp:withvs ρ args.toList fun ys=>yW ys k):∃X,k X∧cZ P o ρ h X:=by
 obtain⟨ys,hy,hk⟩:=fm hp;unfold yW at hk;split at hk
 ·rename_i kf p q
  obtain⟨x,e,hx⟩:=Gu hy;have e' :args= #[x]:=acL;subst e';refine⟨_,hk,.stay fun c a n hc g he=>⟨_,?_,.v _⟩⟩
  rw[cm ho];have h2:=L7 ts o.type kf p q;rw[←(aF he hx).bS]at h2;simp[builtin,h2]
 grind
theorem FW{args}{ts}(ho:o.op= .call {callee:=.builtin .imag,args,argTypes:=ts})
  (hp:withvs ρ args.toList fun ys=>ya ys k):∃X,k X∧cZ P o ρ h X:=by
 obtain⟨ys,hy,hk⟩:=fm hp;unfold ya at hk;split at hk
 ·rename_i kf p q
  obtain⟨x,e,hx⟩:=Gu hy;have e' :args= #[x]:=acL;subst e';refine⟨_,hk,.stay fun c a n hc g he=>⟨_,?_,.v _⟩⟩
  rw[cm ho];have h2:=KY ts o.type kf p q;rw[←(aF he hx).bS]at h2;simp[builtin,h2]
 grind
theorem FV{args}{ts}(ho:o.op= .call {callee:=.builtin .complex,args,argTypes:=ts})
  (hp:withvs ρ args.toList fun ys=>xA ys k):∃X,k X∧cZ P o ρ h X:=by
 obtain⟨ys,hy,hk⟩:=fm hp;unfold xA at hk;split at hk
 ·rename_i kf p kf' q
  obtain⟨rfl,hk⟩:=hk;obtain⟨x,y,e,hx,hy2⟩:=wK hy;have e' :args= #[x,y]:=acL;subst e';refine⟨_,hk,.stay fun c a n hc g he=>⟨_,?_,.v _⟩⟩
  rw[cm ho];have h2:=Kw ts o.type kf p q;rw[←(aF he hx).bS,←(aF he hy2).bS]at h2;simp[builtin,h2]
 grind
end
section
variable {P : Program} {U : TypeId → TI} {ρ : Env} {h : Heap} {k : AV → Prop} {o : Oper}
theorem cC(b o n):(⟨b,o,none⟩:Addr).add n=⟨b,o+n,none⟩:=by grind [Addr.add]
theorem Ef{ty}{x i}(hU:∀t,aO P U t)(ho:o.op= .index ty x i)(hp:pv U ρ h (.index ty x i) k):∃X,k X∧cZ P o ρ h X:=by
 obtain⟨A,hA,hk⟩:=aJ hp;obtain⟨B,hB,hk2⟩:=aJ hk;clear hk;have hk:=hk2;split at hk
 ·rename_i l kk n hty
  obtain⟨h0,b,hb,hk⟩:=hk;refine⟨_,hk,.stay fun c a m hc g he=>⟨_,?_,.v _⟩⟩
  have hd:=(hU ty).desc;rw[hty]at hd;obtain⟨hi,hb'⟩:=List.getElem?_eq_some_iff.1 hb;have e:(⟨l.toArray⟩:ByteArray)[n.toNat]? =some b:=by rw[getElem?_pos (⟨l.toArray⟩:ByteArray) n.toNat hi,←hb'];rfl
  simp[execOp,ho,(aF he hA).nF.1,(aF he hB).bS,Instr.index,asIntOf,run_underlying hd,h0,e]
 ·exact ac7
theorem xP{a:Addr}{f:Field}(hU:∀t,aO P U t)(hz:(U f.type).sz≠0)(w:World):(fieldPlace a f).run P w= .ok (a.add f.offset) w:=by simp[fieldPlace,bE hU hz,hz]
theorem E6{ty}{fs}{f off:Nat}{t}(hU:∀t,aO P U t)(hty:(U ty).k= .strct fs)(hf:fs[f]? =some (off,t)):
  ∃(fields:Array Field) (fd:Field),P.underlying ty=some (.struct fields)∧fields[f]? =some fd∧fd.offset=off∧fd.type=t:=by
 have hd:=(hU ty).desc;rw[hty]at hd;obtain⟨fields,hd,hfs,_⟩:=hd;rw[←hfs]at hf;obtain⟨fd,hf1,hf2⟩:=List.getElem?_map .. ▸hf|>Option.map_eq_some_iff.1
 simp only[Prod.mk.injEq]at hf2;exact⟨fields,fd,hd,acL,hf2.1,hf2.2⟩
theorem wC{ty:TypeId}{x:Operand}{f:Nat}(hU:∀t,aO P U t)(ho:o.op= .fieldAddr ty x f)(hp:pv U ρ h (.fieldAddr ty x f) k):∃X,k X∧cZ P o ρ h X:=by
 obtain⟨A,hA,hk⟩:=aJ hp;split at hk
 ·rename_i fs hty
  split at hk
  ·rename_i off t hf
   obtain⟨hz,hk⟩:=hk;obtain⟨fields,fd,hd,hf3,rfl,rfl⟩:=E6 hU hty hf;have hrun:∀(b q:Nat) (w:World),(Instr.fieldAt ty (.pointer (some ⟨b,q,none⟩)) f).run P w= .ok (.pointer (some ⟨b,q+fd.offset,none⟩)) w:=fun b q w=>by simp[Instr.fieldAt,run_underlying hd,hf3,Instr.sureAddr,xP hU hz,cC]
   split at hk
   ·rename_i id q
    refine⟨_,hk,.stay fun c a m hc g he=>?_⟩
    obtain⟨hu,cs,t,hcs⟩:=(aF he hA).kT;exact⟨_,by simp_all [execOp],.ptr _ _ cs t hcs⟩
   ·rename_i z q
    refine⟨_,hk,.stay fun c a m hc g he=>?_⟩
    obtain⟨b,p,val,hu,h1,h2,h3,h4⟩:=(aF he hA).uT;refine⟨_,by simp[execOp,ho,hu,hrun];rfl,?_⟩
    rw[Nat.add_assoc];exact .pe z _ b p val h1 h2 h3 h4
   ·exact ac7
  grind
 grind
theorem wD{ty}{x i}(hU:∀t,aO P U t)(ho:o.op= .indexAddr ty x i)(hp:pv U ρ h (.indexAddr ty x i) k):∃X,k X∧cZ P o ρ h X:=by
 obtain⟨A,hA,hk⟩:=aJ hp;obtain⟨B,hB,hk2⟩:=aJ hk;clear hk;have hk:=hk2;clear hk2;have hd:=(hU ty).desc;split at hk
 ·rename_i e xs p kk n hty
  rw[hty]at hd;obtain⟨hz,h0,b,hb,hsz,hk⟩:=hk;refine⟨_,hk,.stay fun c a m hc g he=>?_⟩
  obtain⟨q,cap,sz,val,hu,hs⟩:=(aF he hA).iD;obtain⟨hi,hb'⟩:=List.getElem?_eq_some_iff.1 hb;have hcap:=hs.hc;obtain⟨q,rfl⟩:∃q',q=some q' :=by
   cases q with
   |none=>have:=hs.h0 rfl;omega
   |some q' =>simp
  obtain⟨hspot,hblk⟩:=hs.hs q rfl acK;have hz' :=hs.hz n.toNat hi;rw[hb',hsz]at hz';have hlt:n<xs.length:=acK;obtain⟨bq,oq,sq⟩:=q;simp only at hspot hblk;subst hspot
  refine⟨.pointer (some ⟨bq,oq+n.toNat*sz+0,none⟩),by simp[execOp,ho,hu,(aF he hB).bS,Instr.indexAt,asIntOf,run_underlying hd,h0,hlt,bE hU hz,cC,hz'],?_⟩
  refine .pe b 0 bq (oq+n.toNat*sz) (fun j=>val n.toNat j) hblk (fun j hj=>?_) (fun j hj=>?_) (fun j hj=>?_)
  ·have:=hs.hf _ rfl n.toNat j hi acK
   rwa [←Nat.add_assoc]at this
  ·have:=hs.hr n.toNat hi j acL
   simpa only[hb']using this
  ·exact hs.ho n.toNat j hi acK
 ·rename_i e id off len kk n hty
  rw[hty]at hd;obtain⟨hz,h0,h1,hk⟩:=hk;refine⟨_,hk,.stay fun c a m hc g he=>?_⟩
  obtain⟨cap,o',hu,h2,h3,ho',cs,t,h4,h5⟩:=(aF he hA).o9;obtain rfl:=ho' acK;exact⟨_,ad6,.ptr _ _ cs t h4⟩
 ·rename_i len e id off kk n hty
  rw[hty]at hd;obtain⟨hz,h0,h1,hk⟩:=hk;refine⟨_,hk,.stay fun c a m hc g he=>?_⟩
  obtain⟨hu,cs,t,h4⟩:=(aF he hA).kT;exact⟨_,by simp[execOp,ho,hu,(aF he hB).bS,Instr.indexAt,asIntOf,run_underlying hd,h0,h1,bE hU hz,cC,Instr.sureAddr],.ptr _ _ cs t h4⟩
 ·rename_i e id off len cap sz kk n hty
  rw[hty]at hd;obtain⟨hz,rfl,h0,h1,hk⟩:=hk;refine⟨_,hk,.stay fun c a m hc g he=>?_⟩
  obtain⟨o',hu,h2,h3,cs,t,h4,h5⟩:=(aF he hA).jq;obtain⟨rfl,_⟩:=h5 acK;exact⟨_,ad6,.ptr _ _ cs t h4⟩
 ·exact ac7
theorem qI{ty}(hU:∀t,aO P U t)(hz:(U ty).sz≠0)(ht:(U ty).k≠ .other)(w)(b q)(f)
  (hf:∀j,j<(if(U ty).k.agg then(U ty).sz else 1)→w.cell? ⟨b,q+j,none⟩=some (f j)):
  (loadVar ty ⟨b,q,none⟩).run P w= .ok (if(U ty).k.agg then .agg ((List.range (U ty).sz).map f).toArray else f 0) w:=by
 by_cases hag:(U ty).k.agg=true
 ·simp only[hag,if_true]at hf⊢
  simp[loadVar,mu hU ht,hag,bE hU hz,run_loadCells w ⟨b,q,none⟩ _ f (fun j hj=>by rw[cC];exact hf j hj)]
 ·simp only[hag]at hf⊢
  have:=hf 0 acS;simp at this;simp[loadVar,mu hU ht,hag,this]
theorem J8{c}{cs}{f}{n}(hn:n=cs.length)(hr:∀j (h:j<cs.length),Rep c cs[j] (f j))(ho:∀j,j<cs.length→(f j).oneCell' =true):
  Rep c (.agg cs) (.agg ((List.range n).map f).toArray):=by
 subst hn;refine .agg _ _ acS (fun i hi=>?_) (fun i hi=>?_)
 ·simpa[hi]using hr i hi
 simp_all
theorem sv{ty}(hU:∀t,aO P U t)(hz:(U ty).sz≠0)(ht:(U ty).k≠ .other){cs}{off}(hk:iB cs off (U ty) k):
  ∃X,k X∧∀c b q (val:Nat→Value),(∀j,j<cs.length→c.w.cell? ⟨b,q+j,none⟩=some (val j))→(∀j (h:j<cs.length),Rep c cs[j] (val j))→
   (∀j,j<cs.length→(val j).oneCell' =true)→∃r,(loadVar ty ⟨b,q+off,none⟩).run P c.w= .ok r c.w∧Rep c X r:=by
 unfold iB at hk;split at hk
 ·rename_i hag
  obtain⟨hle,hk⟩:=hk;refine⟨_,hk,fun c b q val h1 h2 h3=>⟨_,qI hU hz ht c.w b (q+off) (fun j=>val (off+j)) (fun j hj=>?_),?_⟩⟩
  ·grind
  ·simp only[hag,if_true]
   refine J8 acL (fun j hj=>?_) (fun j hj=>?_)
   ·simp at hj
    simpa using h2 (off+j) acK
   grind
 ·rename_i hag
  obtain⟨x,hx,hk⟩:=hk;obtain⟨hi,hx'⟩:=List.getElem?_eq_some_iff.1 hx;refine⟨x,hk,fun c b q val h1 h2 h3=>⟨_,qI hU hz ht c.w b (q+off) (fun j=>val (off+j)) (fun j hj=>?_),?_⟩⟩
  ·grind
  ·have:=h2 off hi
   rw[hx']at this;simpa[hag]using this
theorem Nj{ty}(hU:∀t,aO P U t)(hz:(U ty).sz≠0)(ht:(U ty).k≠ .other){y}{off}(hk:atA y off (U ty) k):
  ∃X,k X∧∀c b q (val:Nat→Value),(∀j,j<y.cells.length→c.w.cell? ⟨b,q+j,none⟩=some (val j))→(∀j (h:j<y.cells.length),Rep c y.cells[j] (val j))→
   (∀j,j<y.cells.length→(val j).oneCell' =true)→∃r,(loadVar ty ⟨b,q+off,none⟩).run P c.w= .ok r c.w∧Rep c X r:=by
 unfold atA at hk;split at hk
 ·rename_i hc
  obtain⟨rfl,hlen,hag⟩:=hc;refine⟨y,hk,fun c b q val h1 h2 h3=>⟨_,qI hU hz ht c.w b (q+0) val (fun j hj=>?_),?_⟩⟩
  ·grind
  ·by_cases hagg:(U ty).k.agg=true
   ·rw[hagg]at hag
    simp only[hagg,if_true];cases y<;>simp[bC]at hag
    exact J8 hlen.symm h2 h3
   ·simp only[hagg]
    have hn:bC y=false:=acL;have:y.cells= [y]:=by cases y<;>simp[bC]at hn<;>rfl
    have h4:=h2 0 acK;simpa[this]using h4
 ·exact sv hU hz ht hk
theorem FX{ty}{x}(hU:∀t,aO P U t)(ho:o.op= .load ty x)(hp:pv U ρ h (.load ty x) k):∃X,k X∧cZ P o ρ h X:=by
 obtain⟨hz,ht,hp⟩:=hp;obtain⟨A,hA,hk⟩:=aJ hp;split at hk
 ·rename_i id off
  split at hk
  ·rename_i cs t hid
   obtain⟨X,hk,hX⟩:=sv (P:=P) hU hz ht hk;refine⟨X,hk,.stay fun c a m hc g he=>?_⟩
   obtain⟨hu,_⟩:=(aF he hA).kT;obtain⟨vs,h1,h2,h3⟩:=g.obj id cs t (hc _ _ hid);obtain⟨r,h5,h6⟩:=hX c (c.φ id).block 0 (fun j=>vs.getD j undef) (by simp_all [World.cell?]) acL acL
   simp_all [Nat.zero_add,execOp,Instr.loadAt,Instr.sureAddr]
  grind
 ·obtain⟨X,hk,hX⟩:=Nj (P:=P) hU hz ht hk
  refine⟨X,hk,.stay fun c a m hc g he=>?_⟩
  obtain⟨b,p,val,hu,h1,h2,h3,h4⟩:=(aF he hA).uT;obtain⟨r,h5,h6⟩:=hX c b p val (fun j hj=>(h2 j hj).1) h3 h4
  simp_all [execOp,Instr.loadAt,Instr.sureAddr]
 grind
end
section
variable {P : Program} {U : TypeId → TI} {ρ : Env} {h : Heap} {k : AV → Prop} {o : Oper}
theorem eJ{x}{d}{k}(hp:dZ ρ x d k):∃n,k n∧(x=none∧n=d∨∃q kk,x=some q∧ev ρ q=some (.v (.int kk n))):=by
 unfold dZ at hp;split at hp
 ·grind
 ·obtain⟨A,hA,hk⟩:=aJ hp
  grind
def Na(x:Option Value)(d:Nat)(n:Int):Prop:=x=none∧n=d∨∃kk,x=some (.int kk n)
theorem kS{c}{m:Nat}{a}(he:cr c m ρ a){x}{d:Nat}{n:Int}(hx:x=none∧n=d∨∃q kk,x=some q∧ev ρ q=some (.v (.int kk n))):Na (x.map a.eval) d n:=by
 rcases hx with⟨rfl,rfl⟩|⟨q,kk,rfl,hq⟩
 ·exact .inl ⟨rfl,rfl⟩
 ·exact .inr ⟨kk,by simp[(aF he hq).bS]⟩
theorem pH{s}{len cap:Nat}{lo hi}{a b:Int}(hl:Na lo 0 a)(hh:Na hi len b)(h0:0≤a)(h1:a≤b)(h2:b≤cap)(w):
  (Instr.sliceBounds s len cap lo hi none).run P w= .ok (a.toNat,b.toNat,cap) w:=by
 have hb:0≤b∧b≤(cap:Int):=acK;have ha:0≤a∧a≤((b.toNat:Nat):Int):=acK;rcases hh with⟨rfl,rfl⟩|⟨kh,rfl⟩<;>rcases hl with⟨rfl,rfl⟩|⟨kl,rfl⟩<;>simp[Instr.sliceBounds,Instr.sliceBound,asIntOf,ha,hb]<;>(try (intro hh;omega))
theorem vS{s}{len cap:Nat}{lo}{a b m:Int}{kh km}(hl:Na lo 0 a)(h0:0≤a)(h1:a≤b)(h2:b≤m)(h3:m≤cap)(w):
  (Instr.sliceBounds s len cap lo (some (.int kh b)) (some (.int km m))).run P w= .ok (a.toNat,b.toNat,m.toNat) w:=by
 have hm:0≤m∧m≤(cap:Int):=acK;have hb:0≤b∧b≤((m.toNat:Nat):Int):=acK;have ha:0≤a∧a≤((b.toNat:Nat):Int):=acK;rcases hl with⟨rfl,rfl⟩|⟨kl,rfl⟩<;>simp[Instr.sliceBounds,Instr.sliceBound,asIntOf,ha,hb,hm]
 ·intro hh;omega
 ·rw[if_pos acK,if_pos acK]
theorem BG{α:Type}(xs:List α)(a b:Int)(lo hi)(h1:lo=false→a=0)(h2:hi=false→b=xs.length)(_h0:0≤a):
  oN xs a b lo hi=(xs.drop a.toNat).take (b.toNat - a.toNat):=by
 cases lo<;>cases hi<;>simp only[oN]
 ·simp_all
 ·simp_all
 ·rw[h2 rfl,List.take_of_length_le acS]
theorem Cl.cut{c}{xs}{p}{a}{cap sz}{val}(hs:Cl c xs p a cap sz val)(i j m)(h1:i≤j)(h2:j≤xs.length)
  (h3:j≤m) (h4:m≤cap) (p') (hp:p' = .no∨p' = .full∧m=j) (s) (hsz:i*s=i*sz):
  Rep c (.sl ((xs.drop i).take (j - i)) p') (.slice (if m=i then a else a.map (·.add (i*s))) (j - i) (m - i)):=by
 have hlen:((xs.drop i).take (j - i)).length=j - i:=acL;have hperm:∀q,uk c q ((xs.drop i).take (j - i)).length (m - i) sz p' :=fun q=>by
  rcases hp with rfl|⟨rfl,rfl⟩
  ·trivial
  ·show m - i=_;omega
 have hcap:=hs.hm;rw[hsz]
 by_cases hmi:m=i
 ·subst hmi
  have e:j=m:=acK;subst e;have:=Rep.sl (c:=c) ((xs.drop j).take (j - j)) p' a 0 sz val acS acK acK acK acK acK
   acK acK acL
  simpa using this
 ·rw[if_neg hmi]
  obtain⟨q,rfl⟩:∃q,a=some q:=by
   cases a with
   |none=>have:=hs.h0 rfl;omega
   |some q=>simp
  obtain⟨hq1,hq2⟩:=hs.hs q rfl acK;obtain⟨bq,oq,sq⟩:=q;simp only at hq1 hq2;subst hq1
  simp only[Option.map_some,cC];have:=Rep.sl (c:=c) ((xs.drop i).take (j - i)) p' (some ⟨bq,oq+i*sz,none⟩) (m - i) sz (fun x y=>val (i+x) y) acK acK acS
   acL
   (fun x hx=>by have hx' :i+x<xs.length:=acK;simpa using hs.hz (i+x) hx')
   (fun q hq x y hx hy=>by cases hq;have hx' :i+x<xs.length:=acK;have:=hs.hf _ rfl (i+x) y hx' hy;rw[Nat.add_mul]at this;have e:oq+i*sz+(x*sz+y)=oq+(i*sz+x*sz+y):=acK;simp only[e];exact this)
   (fun x hx y hy=>by have hx' :i+x<xs.length:=acK;have hg:((xs.drop i).take (j - i))[x]=xs[i+x]:=acS;rw[hg]at hy;have:=hs.hr (i+x) hx' y hy;simpa only[hg]using this)
   (fun x y hx hy=>hs.ho (i+x) y acK hy)
   (hperm _)
  rwa [hlen]at this
theorem Eg{ty}{x}{lo hi mx}(hU:∀t,aO P U t)(ho:o.op= .slice ty x lo hi mx)(hp:pv U ρ h (.slice ty x lo hi mx) k):∃X,k X∧cZ P o ρ h X:=by
 obtain⟨A,hA,hk⟩:=aJ hp;have hd:=(hU ty).desc;unfold rA at hk;split at hk
 ·rename_i l
  obtain⟨hty,rfl,hk⟩:=hk;rw[hty]at hd;obtain⟨i,hk1,hlo⟩:=eJ hk;obtain⟨j,hk2,hhi⟩:=eJ hk1;obtain⟨h0,h1,h2,hk3⟩:=hk2;refine⟨_,hk3,.stay fun c a m hc g he=>?_⟩
  obtain⟨hu,hl⟩:=(aF he hA).nF;have hb:=pH (P:=P) (s:=false) (cap:=l.length) (kS he hlo) (kS he hhi) h0 h1 h2 c.w;have e:oN l i j lo.isSome hi.isSome=(l.drop i.toNat).take (j.toNat - i.toNat):=BG l i j _ _
   (fun e=>aei) (fun e=>afg) h0
  rw[e];refine⟨_,?_,.s _ ade⟩;have hsz:(⟨l.toArray⟩:ByteArray).size=l.length:=rfl;simp[execOp,ho,hu,Instr.sliceAt,Instr.slice,run_underlying hd,hsz,hb,ByteArray.extract_mk]
 ·rename_i xs p
  split at hk
  ·rename_i e hty
   rw[hty]at hd;obtain⟨hz,hcond,hk⟩:=hk;split at hk
   ·obtain⟨i,hk1,hlo⟩:=eJ hk
    obtain⟨j,hk2,hhi⟩:=eJ hk1;obtain⟨h0,h1,h2,hk3⟩:=hk2;refine⟨_,hk3,.stay fun c a m hc g he=>?_⟩
    obtain⟨q,cap,sz,val,hu,hs⟩:=(aF he hA).iD;have hcap:=hs.hc;have hb:=pH (P:=P) (s:=true) (cap:=cap) (kS he hlo) (kS he hhi) h0 h1 acK c.w;have e1:oN xs i j lo.isSome hi.isSome=(xs.drop i.toNat).take (j.toNat - i.toNat):=BG xs i j _ _
     (fun e=>aei) (fun e=>afg) h0
    have hss:i.toNat*(U e).sz=i.toNat*sz:=by
     rcases hlo with⟨rfl,h⟩|⟨q',kk,rfl,_⟩
     ·subst h;simp
     ·by_cases hx:xs= []
      ·subst hx
       have:i.toNat=0:=by simp at h2;omega
       simp[this]
      ·exact ah3
    have hrun:(execOp a.eval o).run P c.w= .ok (.value (.slice (if cap=i.toNat then q else q.map (·.add (i.toNat*(U e).sz))) (j.toNat - i.toNat) (cap - i.toNat))) c.w:=by simp[execOp,ho,hu,Instr.sliceAt,Instr.slice,run_underlying hd,hb,bE hU hz]
    by_cases hnn:lo.isSome=false∧hi.isSome=false
    ·obtain⟨hn1,hn2⟩:=hnn
     have hi0:i=0:=by rcases hlo with⟨rfl,h⟩|⟨q,kk,rfl,_⟩;exact h;cases hn1
     have hj0:j=xs.length:=by rcases hhi with⟨rfl,h⟩|⟨q,kk,rfl,_⟩;exact h;cases hn2
     subst hi0;subst hj0
     refine⟨_,hrun,?_⟩;have e3:xB xs p false false=p:=by cases xs<;>cases p<;>rfl
     simp only[hn1,hn2,oN,e3];have e2:(if cap=(0:Int).toNat then q else q.map (·.add ((0:Int).toNat*(U e).sz)))=q:=by
      split
      ·rfl
      ·cases q<;>simp[Addr.add]
     rw[e2];simpa using hs.rep
    ·refine⟨_,hrun,?_⟩
     rw[e1];refine hs.cut i.toNat j.toNat cap acK acK acK (Nat.le_refl _) _ ?_ _ hss
     by_cases hE:xs= []∧p= .full
     ·obtain⟨hx,hp⟩:=hE
      have hcp:cap=0:=by have:=hs.hp;rw[hp]at this;have:cap=xs.length:=this;rw[this,hx];rfl
      have hl0:xs.length=0:=by rw[hx];rfl
      refine .inr ⟨by rw[hx,hp];rfl,acK⟩
     have e4:xB xs p lo.isSome hi.isSome=Qv p lo.isSome hi.isSome:=by
      cases xs with
      |nil=>cases p with
       |full=>exact(hE ⟨rfl,rfl⟩).elim
       |no=>rfl
       |own id=>rfl
      |cons=>rfl
     rw[e4];cases h5:lo.isSome<;>cases h6:hi.isSome<;>simp only[Qv]
     ·exact(hnn ⟨h5,h6⟩).elim
     ·exact .inl trivial
     ·have hj0:j=xs.length:=by rcases hhi with⟨rfl,h⟩|⟨q,kk,rfl,_⟩;exact h;cases h6
      cases p with
      |full=>have:cap=xs.length:=hs.hp;exact .inr ⟨rfl,acK⟩
      |no=>exact .inl rfl
      |own id=>exact .inl rfl
     ·exact .inl trivial
   ·rename_i mm
    obtain⟨hhs,hk⟩:=hk;obtain⟨i,hk1,hlo⟩:=eJ hk;obtain⟨j,hk2,hhi⟩:=eJ hk1;obtain⟨m3,hk3,hmx⟩:=eJ hk2;obtain⟨h0,h1,rfl,h3,hk4⟩:=hk3;refine⟨_,hk4,.stay fun c a m hc g he=>?_⟩
    obtain⟨q,cap,sz,val,hu,hs⟩:=(aF he hA).iD;have hcap:=hs.hc;obtain⟨qh,kh,rfl,hqh⟩:∃q kk,hi=some q∧ev ρ q=some (.v (.int kk j)):=by
     rcases hhi with⟨rfl,_⟩|h
     ·cases hhs
     ·exact h
    obtain⟨qm,km,hqm',hqm⟩:∃q kk,some mm=some q∧ev ρ q=some (.v (.int kk j)):=by
     rcases hmx with⟨e,_⟩|h
     ·cases e
     ·exact h
    cases hqm';have hb:=vS (P:=P) (s:=true) (len:=xs.length) (cap:=cap) (kh:=kh) (km:=km) (kS he hlo) h0 h1 (Int.le_refl j) acK c.w;have e1:oN xs i j lo.isSome true=(xs.drop i.toNat).take (j.toNat - i.toNat):=BG xs i j _ _
     (fun e=>aei) (fun e=>adb) h0
    have hss:i.toNat*(U e).sz=i.toNat*sz:=by
     rcases hlo with⟨rfl,h⟩|⟨q',kk,rfl,_⟩
     ·subst h;simp
     ·by_cases hx:xs= []
      ·subst hx
       have:i.toNat=0:=by simp at h3;omega
       simp[this]
      ·exact ah3
    rw[e1];refine⟨_,?_,hs.cut i.toNat j.toNat j.toNat acK acK (Nat.le_refl _) acK .full (.inr ⟨rfl,rfl⟩) _ hss⟩;simp[execOp,ho,hu,Instr.sliceAt,Instr.slice,run_underlying hd,(aF he hqh).bS,(aF he hqm).bS,hb,bE hU hz]
  ·exact ac7
 ·rename_i id off len
  split at hk
  ·rename_i e hty
   rw[hty]at hd;obtain⟨hz,h1z,rfl,hk⟩:=hk;obtain⟨i,hk1,hlo⟩:=eJ hk;obtain⟨j,hk2,hhi⟩:=eJ hk1;obtain⟨h0,h1,h2,hk3⟩:=hk2;refine⟨_,hk3,.stay fun c a m hc g he=>?_⟩
   obtain⟨cap,o',hu,hc1,hc2,ho',cs,t,hcs,hcp⟩:=(aF he hA).o9;have hb:=pH (P:=P) (s:=true) (cap:=cap) (kS he hlo) (kS he hhi) h0 h1 acK c.w;refine⟨.slice (some ⟨(c.φ id).block,if cap=i.toNat then o' else o' +i.toNat*(U e).sz,none⟩) (j.toNat - i.toNat) (cap - i.toNat),?_,.oa _ _ _ _ _ cs t hcs acK acK (fun hne=>?_)⟩
   ·exact aiw
   ·obtain⟨e1,e2⟩:=hcp acK
    rw[if_neg acK,e1];refine⟨rfl,?_⟩;rcases hlo with⟨_,rfl⟩|⟨q,kk,rfl,_⟩
    ·simpa using e2
    ·rw[h1z rfl];omega
  ·exact ac7
 ·rename_i id off len cap sz
  split at hk
  ·rename_i e hty
   rw[hty]at hd;obtain⟨hz,rfl,hk⟩:=hk;split at hk
   ·obtain⟨i,hk1,hlo⟩:=eJ hk
    obtain⟨j,hk2,hhi⟩:=eJ hk1;obtain⟨h0,h1,h2,hk3⟩:=hk2;refine⟨_,hk3,.stay fun c a m hc g he=>?_⟩
    obtain⟨o',hu,hc1,hc2,cs,t,hcs,hcp⟩:=(aF he hA).jq;have hb:=pH (P:=P) (s:=true) (cap:=cap) (kS he hlo) (kS he hhi) h0 h1 acK c.w;refine⟨.slice (some ⟨(c.φ id).block,if cap=i.toNat then o' else o' +i.toNat*(U e).sz,none⟩) (j.toNat - i.toNat) (cap - i.toNat),?_,.ob _ _ _ _ _ _ cs t hcs acK acK (fun hne=>?_)⟩
    ·exact aiw
    ·obtain⟨e1,e2⟩:=hcp acK
     rw[if_neg acK,e1];refine⟨rfl,?_⟩;have:cap*(U e).sz=i.toNat*(U e).sz+(cap - i.toNat)*(U e).sz:=by rw[←Nat.add_mul];congr 1;omega
     omega
   ·rename_i mm
    obtain⟨hhs,hk⟩:=hk;obtain⟨i,hk1,hlo⟩:=eJ hk;obtain⟨j,hk2,hhi⟩:=eJ hk1;obtain⟨m3,hk3,hmx⟩:=eJ hk2;obtain⟨h0,h1,h2,h3,hk4⟩:=hk3;refine⟨_,hk4,.stay fun c a m hc g he=>?_⟩
    obtain⟨o',hu,hc1,hc2,cs,t,hcs,hcp⟩:=(aF he hA).jq;obtain⟨qh,kh,rfl,hqh⟩:∃q kk,hi=some q∧ev ρ q=some (.v (.int kk j)):=by
     rcases hhi with⟨rfl,_⟩|h
     ·cases hhs
     ·exact h
    obtain⟨qm,km,hqm',hqm⟩:∃q kk,some mm=some q∧ev ρ q=some (.v (.int kk m3)):=by
     rcases hmx with⟨e,_⟩|h
     ·cases e
     ·exact h
    cases hqm';have hb:=vS (P:=P) (s:=true) (len:=len) (cap:=cap) (kh:=kh) (km:=km) (kS he hlo) h0 h1 h2 acK c.w;refine⟨.slice (some ⟨(c.φ id).block,if m3.toNat=i.toNat then o' else o' +i.toNat*(U e).sz,none⟩) (j.toNat - i.toNat) (m3.toNat - i.toNat),?_,.ob _ _ _ _ _ _ cs t hcs acK acK (fun hne=>?_)⟩
    ·simp[execOp,ho,hu,Instr.sliceAt,Instr.slice,run_underlying hd,(aF he hqh).bS,(aF he hqm).bS,hb,bE hU hz,cC]
     split<;>rfl
    ·obtain⟨e1,e2⟩:=hcp acK
     rw[if_neg acK,e1];refine⟨rfl,?_⟩;have:i.toNat*(U e).sz+(m3.toNat - i.toNat)*(U e).sz≤cap*(U e).sz:=by rw[←Nat.add_mul];exact Nat.mul_le_mul_right _ acK
     omega
  ·exact ac7
 ·exact ac7
end
section
variable {P : Program} {U : TypeId → TI} {ρ : Env} {h : Heap} {k : AV → Prop} {o : Oper}
theorem tC(hU:∀t,aO P U t){kt}{b}(hb:gG (U kt).k b):Maps.Keyed P kt∧∃l,keyOf P kt (jc b)=some l:=by
 have hd:=(hU kt).desc;unfold gG at hb;split at hb
 ·rename_i l hk
  rw[hk]at hd;exact⟨Maps.string_keyed hd,_,WideMaps.keyOf_string_mk hd (s:=⟨l.toArray⟩) (by show l.toArray.size≤_;omega)⟩
 ·rename_i q q' n hk
  rw[hk]at hd;obtain⟨rfl,hw⟩:=hb;exact⟨Maps.int_keyed hd,_,Maps.keyOf_int_mk hd hw⟩
 ·exact hb.elim
theorem Dj{tk}{b}(hb:gG tk b){c}{u}(hr:Rep c b u):u=jc b:=by
 unfold gG at hb;split at hb
 ·exact hr.nF.1
 ·exact hr.bS
 grind
theorem qF{tk}{a b}(ha:gG tk a)(hb:gG tk b):si a b=true↔jc a=jc b:=by
 unfold gG at ha hb;split at ha
 ·rename_i l
  split at hb
  ·rename_i l' _
   simp only[si,jc,beq_iff_eq];simp
  ·grind
  grind
 ·rename_i q q' n
  split at hb
  ·grind
  ·rename_i q2 q2' n2 heq
   cases heq;obtain⟨rfl,_⟩:=ha;obtain⟨rfl,_⟩:=hb;simp only[si,jc,beq_iff_eq];simp
  grind
 grind
theorem getM_none{tk}{m}{b}(hb:gG tk b)(hm:∀p∈m,gG tk p.1)(hn:∀p∈m,jc p.1≠jc b):getM m b=none:=by grind [getM,Option.map_eq_none_iff,List.find?_eq_none,qF]
theorem BN{tk}{b}(hb:gG tk b):∀ {m:List (AV×AV)},(∀p∈m,gG tk p.1)→m.Pairwise (fun p q=>jc p.1≠jc q.1)→∀(j:Nat) (hj:j<m.length),jc m[j].1=jc b→getM m b=some m[j].2
 |p::m,hm,hd,0,hj,he=>by
  have:si p.1 b=true:=by grind [qF]
  simp[getM,this]
 |p::m,hm,hd,j+1,hj,he=>by
  have hd' :=List.pairwise_cons.1 hd;have hj' :j<m.length:=acL;have he' :jc m[j].1=jc b:=he;have hne:si p.1 b=false:=by
   cases h:si p.1 b with
   |false=>rfl
   |true=>grind [qF,acF]
  have ih:=BN hb acL hd'.2 j hj' he';simp only[getM,List.find?_cons,hne,List.getElem_cons_succ]at ih⊢;exact ih
theorem CX(hU:∀t,aO P U t){kt:TypeId}{b:AV}(hb:gG (U kt).k b){m:List (AV×AV)}(hm:∀p∈m,gG (U kt).k p.1){es:Array MapEntry}(hs:es.size=m.length)
  (hk:∀i (h:i<m.length) (h' :i<es.size),es[i].key=jc m[i].1) (w:World):
  ((Instr.findKey kt (jc b) es.toList).run P w= .ok none w∧∀p∈m,jc p.1≠jc b)∨∃(j:Nat) (hj:j<m.length) (hj' :j<es.size),(Instr.findKey kt (jc b) es.toList).run P w= .ok (some (j,es[j].val)) w∧jc m[j].1=jc b:=by
 obtain⟨K,l,hl⟩:=tC hU hb;have hes:∀e∈es.toList,∃l,keyOf P kt e.key=some l:=fun e he=>by obtain⟨i,hi,rfl⟩:=List.mem_iff_getElem.1 he;have hi' :i<es.size:=acK;have:=hk i acK hi';simp only[Array.getElem_toList];rw[this];exact(tC hU (hm _ (acF _))).2
 rcases K.find w hl es.toList hes with⟨h1,h2⟩|⟨j,e,h1,h2,h3⟩
 ·refine .inl ⟨h1,fun p hp=>?_⟩
  obtain⟨i,hi,rfl⟩:=List.mem_iff_getElem.1 hp
  grind
 ·have hj' :j<es.size:=by grind
  grind
theorem JV(hU:∀t,aO P U t){e}(hz:(U e).sz≠0∨(U e).k= .strct [])(w):∃z,(zeroValue e).run P w= .ok z w∧∀c,Rep c (jF U e) z:=by
 by_cases h0:(U e).sz=0
 ·obtain⟨i,h1,h2,_⟩:=(hU e).unit acL
  refine⟨.agg #[],adK,fun c=>?_⟩
  simp only[jF,h0,if_true];exact .agg [] #[] rfl acS acS
 ·obtain⟨i,h1,_,_,z,h2,_,h3⟩:=(hU e).info h0
  simp_all [zeroValue,typeInfo,jF,if_false]
theorem B9(hU:∀t,aO P U t){mt:TypeId}{x y:Operand}{ok:Bool}(ho:o.op= .lookup mt x y ok)(hp:pv U ρ h (.lookup mt x y ok) k):∃X,k X∧cZ P o ρ h X:=by
 simp only[pv]at hp;obtain⟨A,hA,hp⟩:=aJ hp;obtain⟨b,hB,hp⟩:=aJ hp;have hd:=(hU mt).desc;split at hp
 ·rename_i kt e id hty hp'
  clear hp';rw[hty]at hd;obtain⟨hb,hz,hp⟩:=hp;split at hp
  ·rename_i m hid
   obtain⟨hm,hk⟩:=hp;refine⟨_,hk,fun c a n hs g he=>?_⟩
   have hcid:=hs _ _ hid;obtain⟨hu,_⟩:=(aF he hA).FA;have hv:=Dj hb (aF he hB);obtain⟨es,cl,e1,e2,e3⟩:=g.mp id m hcid;obtain⟨K,l,hl⟩:=tC hU hb;obtain⟨z,hz1,hz2⟩:=JV hU hz c.w;have hchk:=K.check c.w es.isEmpty hl;have hg:=g.keys id m hcid;rcases CX hU hb hm e2 acL c.w with⟨f1,f2⟩|⟨j,hj,hj',f1,f2⟩
   ·have hget:=getM_none hb hm f2
    refine⟨if ok then .tuple #[z,.bool false]else z,c,?_,g,.refl c,rfl,?_⟩
    ·simp[execOp,ho,hu,hv,Instr.lookup,run_underlying hd,MapKept.run_getObj_map e1,hchk,f1,hz1]
     try rfl
    ·simp only[yw,hget]
     cases ok with
     |false=>exact hz2 c
     |true=>
      refine .tup _ _ rfl fun i hi=>?_
      have:i=0∨i=1:=acL;rcases this with rfl|rfl
      ·exact hz2 c
      ·exact ae3
   ·have hget:=BN hb hm hg j hj f2
    refine⟨if ok then .tuple #[es[j].val,.bool true]else es[j].val,c,?_,g,.refl c,rfl,?_⟩
    ·simp[execOp,ho,hu,hv,Instr.lookup,run_underlying hd,MapKept.run_getObj_map e1,hchk,f1]
     try rfl
    ·simp only[yw,hget]
     cases ok with
     |false=>exact(e3 j hj hj').2
     |true=>
      refine .tup _ _ rfl fun i hi=>?_
      have:i=0∨i=1:=acL;rcases this with rfl|rfl
      ·exact(e3 j hj hj').2
      ·exact ae3
  ·exact agF
 ·exact agF
end
section
variable {P : Program} {U : TypeId → TI} {ρ : Env} {h : Heap} {k : AV → Prop} {o : Oper}
theorem zJ{c}(g:Good c)(o)(x):¬owned {c with w:=c.w.alloc o} c.w.heap.size x:=by
 rintro⟨id,k,h1,h2,_⟩
 have:=g.lt h1;simp only at h2;omega
theorem PB{c:Cx}(g:Good c)(t:TypeId)(fr:Nat×Nat)(vs:Array Value)(xs:List AV)(sz cap:Nat)(val:Nat→Nat→Value)(hc:xs.length≤cap)(hm:cap<lim)
  (hz:∀i (h:i<xs.length),xs[i].cells.length=sz) (hv:∀i j,i<xs.length→j<sz→vs[i*sz+j]? =some (val i j))
  (hr:∀i (h:i<xs.length) j (h' :j<xs[i].cells.length),Rep c xs[i].cells[j] (val i j)) (ho:∀i j,i<xs.length→j<sz→(val i j).oneCell' =true)
  (p:Perm) (hp:p= .no∨p= .full∧cap=xs.length):
  Rep {c with w:=c.w.alloc (.cells vs t fr)} (.sl xs p) (.slice (some ⟨c.w.heap.size,0,none⟩) xs.length cap):=by
 refine .sl xs p _ cap sz val hc hm (fun e=>adb) (fun q hq _=>by cases hq;simp) hz (fun q hq i j hi hj=>?_) (fun i hi j hj=>(hr i hi j hj).mono (.alloc c _)) ho ?_
 ·cases hq
  refine⟨?_,zJ g _ _⟩
  simp_all [Nat.zero_add,World.cell?_alloc_mark,trans]
 ·rcases hp with rfl|⟨rfl,rfl⟩
  ·trivial
  ·rfl
theorem xw(w)(n old)(e)(h:n<lim):n≤grownCap w n old e∧grownCap w n old e<lim:=by unfold grownCap;simp only[Question.cut,lim]at*;have:w.tape w.drawn (.appendCap n old e) % (2 ^ 63 - n)<2 ^ 63 - n:=Nat.mod_lt _ acK;omega
theorem zU{src dst}{x}(hU:∀t,aO P U t)(ho:o.op= .convert src dst x)(hp:pv U ρ h (.convert src dst x) k):∃X,k X∧cZ P o ρ h X:=by
 obtain⟨A,hA,hk⟩:=aJ hp;have hd:=(hU dst).desc;have hs:=(hU src).desc;split at hk
 ·rename_i k1 kk k2 n h1 h2
  rw[h1]at hs;rw[h2]at hd
  refine⟨_,hk,.stay fun c a m hc g he=>⟨_,?_,.v _⟩⟩
  simp[execOp,ho,(aF he hA).bS,convert,run_underlying hs,run_underlying hd,Conv.intToInt]
 ·rename_i l h1 h2
  rw[h1]at hs;rw[h2]at hd
  refine⟨_,hk,.stay fun c a m hc g he=>⟨_,?_,aF he hA⟩⟩
  simp[execOp,ho,(aF he hA).nF.1,convert,run_underlying hs,run_underlying hd]
 ·rename_i e xs p h1 h2
  rw[h1]at hs;rw[h2]at hd
  split at hk
  ·rename_i h3
   have hE:=(hU e).desc;rw[h3]at hE;obtain⟨l,rfl,hk⟩:=hk;refine⟨_,hk,.stay fun c a m hc g he=>?_⟩
   obtain⟨q,cap,sz,val,hu,hs'⟩:=(aF he hA).iD;have hlen:(l.map aI).length=l.length:=acS;have hl:l.length<lim:=by have:=hs'.hc;have:=hs'.hm;simp only[lim]at*;omega
   cases q with
   |none=>
    have h5:=hs'.h0 rfl;have h6:=hs'.hc;have:l= []:=by simp_all
    subst this;refine⟨.string ⟨#[]⟩,?_,.s [] hl⟩;simp[execOp,ho,hu,convert,run_underlying hs,run_underlying hd,run_underlying hE,Conv.bytesToString];rfl
   |some q=>
    refine⟨.string ⟨l.toArray⟩,?_,.s l hl⟩;have hrun:=run_convert_bytes_back (P:=P) c.w src dst e q cap l hs hE hd (fun j hj=>by
     have hj' :j<(l.map aI).length:=acK;have hz:=hs'.hz j hj';simp only[acB,aI,AV.cells,List.length_singleton]at hz;have hf:=hs'.hf q rfl j 0 hj' acK;have hr:=hs'.hr j hj' 0 (by simp[aI,AV.cells])
     simp only[acB,aI,AV.cells,List.getElem_singleton]at hr;rw[hr.bS]at hf;obtain⟨bq,oq,sq⟩:=q;have hsp:=(hs'.hs _ rfl (by have:=hs'.hc;omega)).1
     simp only at hsp;subst hsp
     rw[cC];have:=hf.1
     rwa [←hz,Nat.mul_one,Nat.add_zero]at this)
    rw[hlen]at hu;simp[execOp,ho,hu,hrun]
  ·exact ac7
 ·rename_i e l h1 h2
  rw[h1]at hs;rw[h2]at hd
  split at hk
  ·rename_i h3
   have hE:=(hU e).desc;rw[h3]at hE;refine⟨_,hk,fun c a m hc g he=>?_⟩
   obtain⟨hu,hl⟩:=(aF he hA).nF;have hrun:=run_bytes_of_string (P:=P) c.w src dst e ⟨l.toArray⟩ hs hd hE;have hsz:(⟨l.toArray⟩:ByteArray).size=l.length:=rfl;rw[hsz]at hrun;obtain⟨hcap1,hcap2⟩:=xw c.w l.length 0 e hl;generalize hcp:grownCap c.w l.length 0 e=cap at hrun hcap1 hcap2;have g1:Good {c with w:=c.w.drew}:=g.draw rfl rfl rfl rfl
   have e1:Ext c {c with w:=c.w.drew}:=Ext.draw rfl rfl rfl rfl
   refine⟨_,{c with w:=c.w.drew.alloc (.cells (bytesRow ⟨l.toArray⟩ cap) e ((bytesRow ⟨l.toArray⟩ cap).size,(bytesRow ⟨l.toArray⟩ cap).size+1))},by simp[execOp,ho,hu,hrun];rfl,
    g1.alloc _,e1.trans (Ext.alloc _ _),rfl,?_⟩
   have:=PB g1 e ((bytesRow ⟨l.toArray⟩ cap).size,(bytesRow ⟨l.toArray⟩ cap).size+1) (bytesRow ⟨l.toArray⟩ cap) (l.map aI) 1 cap (fun i _=> .int .u8 ((l.getD i 0).toNat:Int)) acL hcap2
    (by grind [aI,AV.cells]) (by grind [bytesRow_at]) (fun i hi j hj=>by
     have hi' :i<l.length:=acL;simp only[acB,aI,AV.cells,List.length_singleton]at hj;have ej:j=0:=acK;subst ej;simp only[acB,aI,AV.cells,List.getElem_singleton];rw[show l.getD i 0=l[i] by grind]
     exact .v _) (fun i j _ _=>rfl) .no (.inl rfl)
   simpa using this
  ·exact ac7
 ·rename_i k1 kk kf x y h1 h2
  rw[h1]at hs;rw[h2]at hd
  obtain⟨rfl,hk⟩:=hk;refine⟨_,hk,.stay fun c a m hc g he=>⟨_,?_,.v _⟩⟩
  simp[execOp,ho,(aF he hA).bS,convert,run_underlying hs,run_underlying hd,Conv.complexToComplex,Conv.floatToFloat]
 ·exact ac7
theorem GA(off):∀(l:List Value) (k:Nat) (cells:Array Value),
  let r:=(l.zipIdx k).foldl (fun cs (x:Value×Nat)=>cs.setIfInBounds (off+x.2) x.1) cells
  r.size=cells.size∧(∀j,j<l.length→off+k+j<cells.size→r.getD (off+k+j) undef=l.getD j undef)∧
   ∀x,(x<off+k∨off+k+l.length≤x)→r.getD x undef=cells.getD x undef
 | [],k,cells=>by
  refine⟨rfl,fun j hj=>?_,fun _ _=>rfl⟩
  grind
 |v::l,k,cells=>by
  obtain⟨h1,h2,h3⟩:=GA off l (k+1) (cells.setIfInBounds (off+k) v);simp only[List.zipIdx_cons,List.foldl_cons]at*;refine⟨acL,fun j hj hb=>?_,fun x hx=>?_⟩
  ·cases j with
   |zero=>
    rw[h3 _ (.inl acK)]
    simp_all
   |succ j=>grind
  ·rw[h3 x acL]
   have:off+k≠x:=acL;simp[Array.getElem?_setIfInBounds_ne this]
theorem Ax{place}{cells}{i off size}{v}{rest}(hp:place i=some (off,size))(hv:v.cells.size=size)(hb:off+size≤cells.size):
  ∃r:Array Value,Instr.fill place cells ((i,v)::rest)=Instr.fill place r rest∧r.size=cells.size∧(∀j,j<size→r.getD (off+j) undef=v.cells.getD j undef)∧
   ∀x,(x<off∨off+size≤x)→r.getD x undef=cells.getD x undef:=by
 obtain⟨h1,h2,h3⟩:=GA off v.cells.toList 0 cells;refine⟨v.cells.zipIdx.foldl (fun cs (c,j)=>cs.setIfInBounds (off+j) c) cells,?_,?_,?_,?_⟩
 ·simp_all [Instr.fill,if_neg]
 ·grind [Array.toList_zipIdx]
 ·intro j hj
  rw[←Array.foldl_toList,Array.toList_zipIdx];have:=h2 j acL acK;simp only[Nat.add_zero]at this;rw[this];simp[List.getD]
 grind [Array.toList_zipIdx]
theorem CW(size):∀(vs:List Value) (s:Nat) (cells:Array Value),(∀v∈vs,v.cells.size=size)→(s+vs.length)*size≤cells.size→
  ∃r:Array Value,Instr.fill (fun i=>some (i*size,size)) cells ((List.range' s vs.length).zip vs)=some r∧r.size=cells.size∧
   (∀i (h:i<vs.length) j,j<size→r.getD ((s+i)*size+j) undef=vs[i].cells.getD j undef)∧∀x,x<s*size→r.getD x undef=cells.getD x undef
 | [],s,cells,_,_=>⟨cells,acY,rfl,fun i h=>adB,fun _ _=>rfl⟩
 |v::vs,s,cells,hv,hb=>by
  have e1:(s+(v::vs).length)*size=s*size+size+vs.length*size:=by grind
  obtain⟨r1,h1,h2,h3,h4⟩:=Ax (place:=fun i=>some (i*size,size)) (cells:=cells) (i:=s) (v:=v) (rest:=(List.range' (s+1) vs.length).zip vs) rfl (hv v acS) acK
  obtain⟨r,h5,h6,h7,h8⟩:=CW size vs (s+1) r1 acL acL;refine⟨r,?_,acK,fun i hi j hj=>?_,fun x hx=>?_⟩
  ·grind [List.length_cons,List.range'_succ,List.zip_cons_cons]
  ·cases i with
   |zero=>grind
   |succ i=>grind
  grind
theorem Rep.fits{c}{x}{u}{n}(h:Rep c x u)(hf:fit x n):u.cells.size=n∧x.cells.length=n∧(∀j (hj:j<x.cells.length),Rep c x.cells[j] (u.cells.getD j undef))∧
  ∀j,j<n→(u.cells.getD j undef).oneCell' =true:=by
 have one:n=1→x.cells= [x]→u.oneCell' =true→u.cells.size=n∧x.cells.length=n∧(∀j (hj:j<x.cells.length),Rep c x.cells[j] (u.cells.getD j undef))∧
  ∀j,j<n→(u.cells.getD j undef).oneCell' =true:=by
  rintro rfl h1 h2
  have e:u.cells= #[u]:=by cases u<;>simp[Value.oneCell']at h2<;>rfl
  refine⟨acL,acL,fun j hj=>?_,fun j hj=>?_⟩
  ·have ej:j=0:=by grind
   subst ej;simpa[h1,e]using h
  simp_all
 cases x with
 |agg cs=>obtain⟨vs,rfl,hn,hr,ho⟩:=h.oK;have hl:cs.length=n:=hf;exact⟨hn.trans hl,hl,hr,fun j hj=>ho j acK⟩
 |v x=>obtain⟨h1,h2⟩:=hf;exact one h2 rfl (by rw[h.bS];omega)
 |s l=>exact one hf rfl (by rw[h.nF.1];rfl)
 |tup vs=>exact hf.elim
 |sl xs p=>obtain⟨a,cap,sz,val,hu,_⟩:=h.iD;exact one hf rfl agO
 |pe y off=>obtain⟨b,p,val,hu,_⟩:=h.uT;exact one hf rfl agO
 |ptr id off=>exact one hf rfl (by rw[h.kT.1];rfl)
 |oa id off len=>obtain⟨cap,p,hu,_⟩:=h.o9;exact one hf rfl agO
 |ob id off len cap sz=>obtain⟨p,hu,_⟩:=h.jq;exact one hf rfl agO
 |ifc t y=>exact one hf rfl (by cases h;rfl)
 |mp id=>exact one hf rfl (by cases h;rfl)
 |fn f cap=>obtain⟨vs,hu,_⟩:=h.E7;exact one hf rfl agO
theorem qB{n}:∀ {xs:List AV},fits n xs→∀i (h:i<xs.length),fit xs[i] n
 |y::r,h,0,_=>h.1
 |y::r,h,i+1,hi=>qB h.2 i acL
theorem u7{ty}{len:Nat}{parts}(hU:∀t,aO P U t)(ho:o.op= .buildSlice ty len parts)(hp:pv U ρ h (.buildSlice ty len parts) k):∃X,k X∧cZ P o ρ h X:=by
 simp only[pv]at hp;have hd:=(hU ty).desc;split at hp
 ·rename_i e hty
  rw[hty]at hd;obtain⟨hz,hle,hidx,hp⟩:=hp;obtain⟨xs,hxs,hft,hk⟩:=fm hp;refine⟨_,hk,fun c a m hc g he=>?_⟩
  obtain⟨hl1,hl2⟩:=wJ he _ _ hxs;obtain⟨i,hi1,hi2,_,z,hz1,hz2,_⟩:=(hU e).info hz;have hplen:parts.toList.length=len:=by have:=congrArg List.length hidx;simpa using this
  have hxlen:xs.length=len:=by rw[←hl1];simpa using hplen
  let vs:List Value:=parts.toList.map (fun p=>a.eval p.2)
  have hvlen:vs.length=len:=by simp[vs];simpa using hplen
  have hv:∀i (h1:i<xs.length) (h2:i<vs.length),Rep c xs[i] vs[i]:=fun i h1 h2=>by
   have:=hl2 i (by simp;simpa[vs]using h2) h1
   simpa[vs]using this
  have hvs:∀v∈vs,v.cells.size=(U e).sz:=fun v hv' =>by obtain⟨i,hi,rfl⟩:=List.mem_iff_getElem.1 hv';exact((hv i acK hi).fits (qB hft i acK)).1
  obtain⟨r,h1,h2,h3,_⟩:=CW (U e).sz vs 0 ((Array.range (len*(U e).sz)).map (fun j=>(if len*(U e).sz=0 then #[]else z.cells)[j % (if len*(U e).sz=0 then #[]else z.cells).size]!)) hvs (by simp[hvlen])
  have hparts:(parts.map fun(i,x)=>(i,a.eval x)).toList=(List.range' 0 vs.length).zip vs:=by rw[hvlen,←List.range_eq_range',←hidx];simp only[Array.toList_map,vs];rw[List.zip_map',List.map_eq_map_iff];intro p hp;rfl
  rw[←hparts]at h1;have hrun:(execOp a.eval o).run P c.w= .ok (.value (.slice (some ⟨c.w.heap.size,0,none⟩) len len)) (c.w.alloc (.cells r e)):=by
   by_cases h0:len*(U e).sz=0
   ·simp only[h0,if_true]at h1
    simp[execOp,ho,Instr.buildSlice,run_underlying hd,bE hU hz,h0];simp at h1;simp[h1,newRow]
    try rfl
   ·simp only[h0,if_false]at h1
    have hz0:(zeroValue e).run P c.w= .ok z c.w:=by simp[zeroValue,typeInfo,hi1,hz1]
    have h24:¬(len*(U e).sz>2 ^ 24):=acK;simp only[execOp,ho,Instr.buildSlice,Sem.run_bind,run_underlying hd,bE hU hz,Result.andThen_ok,h24,h0,if_false,hz0,Sem.run_pure];rw[h1];simp[newRow]
    try rfl
  refine⟨_,{c with w:=c.w.alloc (.cells r e)},hrun,g.alloc _,Ext.alloc _ _,rfl,?_⟩
  have:=PB g e (0,0) r xs (U e).sz len (fun i j=>r.getD (i*(U e).sz+j) undef) acK (by simp only[lim];have:len≤len*(U e).sz:=Nat.le_mul_of_pos_right _ acK;omega)
   (fun i hi=>by
    have:=(hv i hi acK).fits (qB hft i hi);exact this.2.1) (fun i j hi hj=>by
    have hlt:i*(U e).sz+j<r.size:=by rw[h2];simp;have:(i+1)*(U e).sz≤len*(U e).sz:=Nat.mul_le_mul_right _ acK;rw[Nat.add_mul,Nat.one_mul]at this;omega
    simp[hlt]) (fun i hi j hj=>by
    have hf:=(hv i hi acK).fits (qB hft i hi);have hj' :j<(U e).sz:=by rw[←hf.2.1];exact hj
    have:=h3 i acK j hj';rw[Nat.zero_add]at this;rw[this];exact hf.2.2.1 j hj) (fun i j hi hj=>by
    have hf:=(hv i hi acK).fits (qB hft i hi);have:=h3 i acK j hj;rw[Nat.zero_add]at this;rw[this];exact hf.2.2.2 j hj) .full (.inr ⟨rfl,hxlen.symm⟩)
  rwa [hxlen]at this
 ·exact agF
theorem yN(hU:∀t,aO P U t)(w):∀(l:List Field),(∀f∈l,(U f.type).sz≠0)→
  (l.mapM fun(f:Field)=>do pure (f.offset,←sizeOf f.type)).run P w= .ok (l.map fun f=>(f.offset,(U f.type).sz)) w
 | [],_=>acS
 |f::l,h=>by have ih:=yN hU w l acL;simp only[List.mapM_cons,Sem.run_bind,bE hU (h f acS),Result.andThen_ok,Sem.run_pure,ih,List.map_cons]
theorem vZ(hz:∀p∈([]:List (Nat×TypeId)),True){fs}(n:Nat):∀(ps:List (Nat×Operand)) (cs:List AV) (k:List AV→Prop),withps U ρ fs ps cs k→
  ∃cs',k cs'∧cs'.length=cs.length∧∀c a m,cr c m ρ a→∀cells:Array Value,cells.size=cs.length→(∀i (h:i<cs.length),Rep c cs[i] (cells.getD i undef))→(∀i,i<cs.length→(cells.getD i undef).oneCell' =true)→
   ∃r:Array Value,Instr.fill ((fs.map fun p=>(p.1,(U p.2).sz)).toArray[·]?) cells (ps.map fun p=>(p.1,a.eval p.2))=some r∧r.size=cs'.length∧
    (∀i (h:i<cs'.length),Rep c cs'[i] (r.getD i undef))∧∀i,i<cs'.length→(r.getD i undef).oneCell' =true
 | [],cs,k,hp=>⟨cs,hp,rfl,fun c a m he cells h1 h2 h3=>⟨cells,by simp[Instr.fill],h1,h2,h3⟩⟩
 |(i,x)::ps,cs,k,hp=>by
  simp only[withps]at hp;split at hp
  ·rename_i off t hf
   obtain⟨hz0,hp⟩:=hp;obtain⟨y,hy,hfit,hb,hp⟩:=aJ hp;obtain⟨cs',hk,hl,hrest⟩:=vZ hz n ps _ k hp;have hyl:y.cells.length=(U t).sz:=by
    cases y with
    |agg cs=>exact hfit
    |v x=>exact hfit.2.symm
    |tup vs=>exact hfit.elim
    |_=>exact(show _=_ from hfit).symm
   have hov:(over cs off y.cells).length=cs.length:=iu acK;refine⟨cs',hk,acK,fun c a m he cells h1 h2 h3=>?_⟩
   obtain⟨f1,f2,f3,f4⟩:=(aF he hy).fits hfit;have hpl:((fs.map fun p=>(p.1,(U p.2).sz)).toArray[i]?)=some (off,(U t).sz):=by simp[hf]
   obtain⟨r1,g1,g2,g3,g4⟩:=Ax (place:=((fs.map fun p=>(p.1,(U p.2).sz)).toArray[·]?)) (cells:=cells) (i:=i) (v:=a.eval x) (rest:=ps.map fun p=>(p.1,a.eval p.2)) hpl f1 acK
   have key:∀j (hj:j<cs.length) (hj' :j<(over cs off y.cells).length),Rep c (over cs off y.cells)[j] (r1.getD j undef)∧(r1.getD j undef).oneCell' =true:=fun j hj hj' =>by
    by_cases hin:off≤j∧j<off+y.cells.length
    ·obtain⟨q,rfl⟩:∃q,j=off+q:=⟨j - off,acK⟩
     have hq:q<y.cells.length:=acK;rw[Hf acK hq,g3 q acK];exact⟨f3 q hq,f4 q acK⟩
    ·rw[DH acK hj acK,g4 j acK]
     exact⟨h2 j hj,h3 j hj⟩
   obtain⟨r,k1,k2,k3,k4⟩:=hrest c a m he r1 acK (fun j hj=>(key j acK hj).1) (fun j hj=>(key j acK hj).2)
   exact⟨r,by rw[List.map_cons,g1];exact k1,k2,k3,k4⟩
  ·exact agF
theorem Ed{ty}{parts}(hU:∀t,aO P U t)(ho:o.op= .build ty parts)(hp:pv U ρ h (.build ty parts) k):∃X,k X∧cZ P o ρ h X:=by
 simp only[pv]at hp;have hd:=(hU ty).desc
 by_cases hun:isUnit (U ty).k=true
 ·rw[if_pos hun]at hp
  have hty:=uF hun;rw[hty]at hd;obtain⟨fields,hd,hfs,_⟩:=hd;obtain⟨i,hi1,hi2,_⟩:=(hU ty).unit hty;have hf0:fields= #[]:=by simp_all
  have hp0:parts= #[]:=acL;refine⟨_,hp.2,.stay fun c a m hc g he=>⟨.agg #[],?_,.agg [] #[] rfl acS acS⟩⟩
  have hz4:(zeroValue ty).run P c.w= .ok (.agg #[]) c.w:=adK;subst hf0;subst hp0
  simp[execOp,ho,Instr.build,run_underlying hd,hz4,Value.cells,Instr.fill]
 rw[if_neg hun]at hp;split at hp
 ·rename_i fs hty
  rw[hty]at hd;obtain⟨fields,hd,hfs,hnz⟩:=hd;obtain⟨hz,cs0,hz0,hp⟩:=hp;obtain⟨cs,hk,hl,hX⟩:=vZ acS 0 _ _ _ hp;refine⟨_,hk,.stay fun c a m hc g he=>?_⟩
  obtain⟨i,hi1,hi2,_,z,hz1,hz2,hz3⟩:=(hU ty).info hz;have hzr:=hz3 c;rw[hz0]at hzr;obtain⟨us,rfl,u1,u2,u3⟩:=hzr.oK;obtain⟨r,r1,r2,r3,r4⟩:=hX c a m he us u1 u2 u3;refine⟨.agg r,?_,.agg _ _ r2 r3 r4⟩;have hz4:(zeroValue ty).run P c.w= .ok (.agg us) c.w:=adK;have hpl:=yN (P:=P) hU c.w fields.toList (fun f hf=>by have:=hnz (f.offset,f.type) acL;exact this)
  have he1:(fs.map fun p=>(p.1,(U p.2).sz))=fields.toList.map fun f=>(f.offset,(U f.type).sz):=by rw[←hfs,List.map_map];rfl
  rw[he1]at r1;have he2:(parts.map fun(i,x)=>(i,a.eval x)).toList=parts.toList.map fun p=>(p.1,a.eval p.2):=acS
  simp only[execOp,ho,Instr.build,Sem.run_bind,run_underlying hd,hz4,Result.andThen_ok,Array.mapM_eq_mapM_toList,Sem.run_map,hpl,Value.cells,he2];rw[r1];simp
 ·exact agF
theorem yR(hU:∀t,aO P U t)(hp:pv U ρ h o.op k):∃X,k X∧cZ P o ρ h X:=by
 generalize ho:o.op=op at hp;cases op
 case move x=>exact zh (.inl ho) hp
 case assign x=>exact zh (.inr ho) hp
 case pick c a b=>exact FY ho hp
 case nilCheck x=>exact zi ho hp
 case binOp=>exact Ec hU ho hp
 case unOp=>exact F0 ho hp
 case convert=>exact zU hU ho hp
 case field=>exact Ee hU ho hp
 case extract=>exact zV ho hp
 case index=>exact Ef hU ho hp
 case fieldAddr=>exact wC hU ho hp
 case indexAddr=>exact wD hU ho hp
 case load=>exact FX hU ho hp
 case slice=>exact Eg hU ho hp
 case lookup=>exact B9 hU ho hp
 case buildSlice=>exact u7 hU ho hp
 case build=>exact Ed hU ho hp
 case makeInterface=>exact rL hU ho hp
 case makeFunc=>exact zg ho hp
 case call c=>
  obtain⟨callee,args,ts⟩:=c;simp only[pv]at hp;split at hp
  ·rename_i x b
   cases b
   case len=>exact Jw hU ho hp
   case cap=>exact Jv hU ho hp
   case min=>exact Jy ho hp
   case max=>exact Jx ho hp
   case real=>exact FZ ho hp
   case imag=>exact FW ho hp
   case complex=>exact FV ho hp
   all_goals exact hp.elim
  grind
 all_goals exact hp.elim
end
section
variable {ts tx ty e:TypeId}{n cap m:Nat}{v z:Value}{news:List Value}
variable {P : Program} {U : TypeId → TI}
def Sized(n:Nat)(xs:List AV):Prop:=∀z∈xs,z.cells.length=n
structure Row (c:Cx) (ys:List AV) (sz:Nat) (val:Nat→Nat→Value):Prop where
 hz:∀i (h:i<ys.length),ys[i].cells.length=sz
 hr:∀i (h:i<ys.length) j (h' :j<ys[i].cells.length),Rep c ys[i].cells[j] (val i j)
 ho:∀i j,i<ys.length→j<sz→(val i j).oneCell' =true
def bZ(sz n:Nat)(val:Nat→Nat→Value):List Value:=(List.range (n*sz)).map fun q=>val (q / sz) (q % sz)
theorem aT(sz n)(val):(bZ sz n val).length=n*sz:=by simp[bZ]
theorem gJ{sz n}{val}{i j}(hi:i<n)(hj:j<sz):(bZ sz n val)[i*sz+j]? =some (val i j):=by
 have hlt:i*sz+j<n*sz:=by have:(i+1)*sz≤n*sz:=Nat.mul_le_mul_right _ acK;rw[Nat.add_mul,Nat.one_mul]at this;omega
 have h1:(i*sz+j) / sz=i:=by rw[Nat.mul_comm,Nat.mul_add_div acK,Nat.div_eq_of_lt hj,Nat.add_zero]
 have h2:(i*sz+j) % sz=j:=by rw[Nat.mul_comm,Nat.mul_add_mod,Nat.mod_eq_of_lt hj]
 simp[bZ,hlt,h1,h2]
theorem IA{c}{ys}{sz}{val}(h:Row c ys sz val)(hs:0<sz):∀v∈bZ sz ys.length val,v.oneCell' =true:=by intro v hv;simp only[bZ,List.mem_map,List.mem_range]at hv;obtain⟨q,hq,rfl⟩:=hv;exact h.ho _ _ ((Nat.div_lt_iff_lt_mul hs).2 hq) (Nat.mod_lt _ hs)
def au(xs:List AV):List AV:=(xs.map AV.cells).flatten
theorem kD(x)(xs):au (x::xs)=x.cells++au xs:=acY
theorem mo(xs ys):au (xs++ys)=au xs++au ys:=af5
theorem bg{sz}:∀ {xs:List AV},Sized sz xs→(au xs).length=xs.length*sz
 | [],_=>af5
 |x::r,h=>by rw[kD,acE,bg (fun z hz=>h z acL),h x acS,List.length_cons,Nat.add_mul,Nat.one_mul,Nat.add_comm]
theorem oP{sz}:∀ {xs:List AV} (_:Sized sz xs) (i:Nat) (hi:i<xs.length),((au xs).drop (i*sz)).take sz=xs[i].cells
 |x::r,h,0,_=>by rw[kD,Nat.zero_mul,List.drop_zero];have:=h x (List.mem_cons_self ..);rw[←this];simp
 |x::r,h,i+1,hi=>by
  have h1:=h x (List.mem_cons_self ..);have e:(x.cells++au r).drop ((i+1)*sz)=(au r).drop (i*sz):=by
   rw[Nat.add_mul,Nat.one_mul,Nat.add_comm,←List.drop_drop]
   grind
  rw[kD,e];exact oP (fun z hz=>h z (List.mem_cons_of_mem _ hz)) i acL
theorem uy{sz}{xs}(h:Sized sz xs){i j}(hi:i<xs.length)(hj:j<sz):(au xs)[i*sz+j]? =xs[i].cells[j]? :=by
 have:=congrArg (fun q=>q[j]?) (oP h i hi)
 simp only[List.getElem?_take,hj,if_true,List.getElem?_drop]at this;exact adr
theorem Row.flat{c}{ys}{sz}{val}(r:Row c ys sz val)(hs:0<sz):
  (au ys).length=ys.length*sz∧∀j (h:j<(au ys).length),Rep c (au ys)[j] ((bZ sz ys.length val).getD j undef)∧((bZ sz ys.length val).getD j undef).oneCell' =true:=by
 have hsz:Sized sz ys:=fun z hz=>by obtain⟨i,hi,rfl⟩:=List.mem_iff_getElem.1 hz;exact r.hz i hi
 have hl:=bg hsz;refine⟨hl,fun j h=>?_⟩
 have h1:j / sz<ys.length:=by simp_all [Nat.div_lt_iff_lt_mul]
 have h2:j % sz<sz:=Nat.mod_lt _ hs;have e:j / sz*sz+j % sz=j:=aff;have g1:=uy hsz h1 h2;have g2:=gJ (val:=val) h1 h2;rw[e]at g1 g2;have hc:j % sz<(ys[j / sz]).cells.length:=acL;rw[List.getElem?_eq_getElem h,List.getElem?_eq_getElem hc]at g1;rw[Option.some.inj g1,List.getD_eq_getElem?_getD,g2];exact⟨r.hr _ h1 _ hc,r.ho _ _ h1 h2⟩
def gX(U:TypeId→TI)(e:TypeId)(h:Heap)(y:AV)(k:List AV→Prop):Prop:=
 match y with
 |.sl ys _=>k ys
 |.s l=>(U e).k= .int .u8∧(U e).sz=1∧k (l.map aI)
 |.oa id off len=>(U e).sz=1∧match h id with
  |some (.obj cs _)=>off+len≤cs.length∧(∀x∈(cs.drop off).take len,x.cells.length=1)∧(∀x∈(cs.drop off).take len,bC x=false)∧k ((cs.drop off).take len)
  |_=>False
 |.ob id off len _ sz=>sz=(U e).sz∧match h id with
  |some (.obj cs _)=>∃ys:List AV,ys.length=len∧off+len*sz≤cs.length∧au ys=(cs.drop off).take (len*sz)∧k ys
  |_=>False
 |_=>False
theorem qU{e}{h}{y}{k}(hz:(U e).sz≠0)(hk:gX U e h y k):
  ∃ys,k ys∧∀c u,Sub h c.h→Good c→Rep c y u→Sized (U e).sz ys→ys.length<lim∧∃val,Row c ys (U e).sz val∧(∀w,(Builtin.lenOf u).run P w= .ok ys.length w)∧
   (Builtin.firstCells (U e).sz ys.length u).run P c.w= .ok (bZ (U e).sz ys.length val).toArray c.w:=by
 unfold gX at hk;split at hk
 ·rename_i ys p
  refine⟨ys,hk,fun c u hs g hr hsz=>?_⟩
  obtain⟨a,cap,sz,val,hu,hsl⟩:=hr.iD;have hcm:=hsl.hc;have hmm:=hsl.hm;refine⟨acK,?_⟩;rw[hu]
  by_cases hy:ys= []
  ·subst hy
   refine⟨val,⟨fun i hi=>acL,fun i hi=>acL,fun i j hi=>acL⟩,fun w=>acY,?_⟩
   cases a with
   |none=>simp[Builtin.firstCells,bZ]
   |some q=>simp[Builtin.firstCells,bZ,loadCells,loadCellsFrom]
  ·have hne:0<ys.length:=List.length_pos_iff.2 hy
   have hsz' :sz=(U e).sz:=by rw[←hsl.hz 0 hne];exact hsz _ (acF hne)
   subst hsz';obtain⟨q,rfl⟩:∃q,a=some q:=by
    cases a with
    |none=>have:=hsl.h0 rfl;omega
    |some q=>simp
   obtain⟨hq1,hq2⟩:=hsl.hs q rfl acK;obtain⟨bq,oq,sq⟩:=q;simp only at hq1 hq2;subst hq1
   refine⟨val,⟨hsl.hz,hsl.hr,hsl.ho⟩,fun w=>acY,?_⟩
   have:=run_loadCells (P:=P) c.w ⟨bq,oq,none⟩ (ys.length*(U e).sz) (fun q=>val (q / (U e).sz) (q % (U e).sz)) (fun j hj=>by
    have h1:j / (U e).sz<ys.length:=(Nat.div_lt_iff_lt_mul acK).2 hj;have h2:j % (U e).sz<(U e).sz:=Nat.mod_lt _ acK;have:=(hsl.hf _ rfl _ _ h1 h2).1;rw[cC]
    rwa [show j / (U e).sz*(U e).sz+j % (U e).sz=j from aff]at this)
   simpa[Builtin.firstCells,bZ]using this
 ·rename_i l
  obtain⟨hty,h1,hk⟩:=hk;refine⟨_,hk,fun c u hs g hr hsz=>?_⟩
  obtain⟨rfl,hl⟩:=hr.nF;refine⟨acL,fun i _=> .int .u8 ((l.getD i 0).toNat:Int),⟨fun i hi=>?_,fun i hi j hj=>?_,fun _ _ _ _=>rfl⟩,fun w=>by simp[Builtin.lenOf];rfl,?_⟩
  ·exact hsz _ (acF hi)
  ·have hi' :i<l.length:=by grind
   simp only[acB,aI,AV.cells,List.length_singleton]at hj;have ej:j=0:=acK;subst ej;simp only[acB,aI,AV.cells,List.getElem_singleton];rw[show l.getD i 0=l[i] by grind]
   exact ae3
  ·rw[h1]
   simp only[Builtin.firstCells,acA,Sem.run_pure]
   congr 1
   grind [Array.ext,bZ,ByteArray.extract_mk]
 ·rename_i id off len
  obtain⟨h1,hk⟩:=hk;split at hk
  ·rename_i cs t hid
   obtain⟨hle,hone,hna,hk⟩:=hk;refine⟨_,hk,fun c u hs g hr hsz=>?_⟩
   obtain⟨cap,o',rfl,hc1,hc2,hoff,_⟩:=hr.o9;obtain⟨vs,v1,v2,v3⟩:=g.obj id cs t (hs _ _ hid);have hlen:((cs.drop off).take len).length=len:=acL;refine⟨acK,fun i _=>vs.getD (off+i) undef,⟨fun i hi=>hsz _ (acF hi),fun i hi j hj=>?_,fun i j hi hj=>(v3 (off+i) acK).2⟩,fun w=>by simp_all [Builtin.lenOf],?_⟩
   ·have hcell:((cs.drop off).take len)[i].cells= [((cs.drop off).take len)[i]]:=by have hx:=hna _ (acF hi);generalize ((cs.drop off).take len)[i]=x at hx;cases x<;>simp[bC]at hx<;>rfl
    have hj' :=hj;rw[hcell]at hj';have ej:j=0:=acL;subst ej;have e1:((cs.drop off).take len)[i].cells[0]=cs[off+i]'acK:=by grind
    rw[e1];exact(v3 (off+i) acK).1
   ·rw[h1,hlen]
    by_cases h0:len=0
    ·simp_all [Builtin.firstCells,bZ,loadCells,loadCellsFrom]
    ·obtain rfl:=hoff h0
     have:=run_loadCells (P:=P) c.w ⟨(c.φ id).block,o',none⟩ (len*1) (fun q=>vs.getD (o' +q / 1) undef) (fun j hj=>by rw[cC];have:o' +j<vs.size:=acK;simp[World.cell?,v1,this])
     simpa[Builtin.firstCells,bZ]using this
  grind
 ·rename_i id off len cap0 sz
  obtain⟨rfl,hk⟩:=hk;split at hk
  ·rename_i cs t hid
   obtain⟨ys,rfl,hle,hfl,hk⟩:=hk;refine⟨ys,hk,fun c u hs g hr hsz=>?_⟩
   obtain⟨o',rfl,hc1,hc2,cs',t',hcs',hcp⟩:=hr.jq;have hcid:=hs _ _ hid;rw[hcid]at hcs';cases hcs';obtain⟨vs,v1,v2,v3⟩:=g.obj id cs t hcid;have hbd:∀i j,i<ys.length→j<(U e).sz→i*(U e).sz+j<ys.length*(U e).sz:=fun i j hi hj=>by have:(i+1)*(U e).sz≤ys.length*(U e).sz:=Nat.mul_le_mul_right _ acK;rw[Nat.add_mul,Nat.one_mul]at this;omega
   refine⟨acK,fun i j=>vs.getD (off+(i*(U e).sz+j)) undef,⟨fun i hi=>hsz _ (acF hi),fun i hi j hj=>?_,fun i j hi hj=>(v3 (off+(i*(U e).sz+j)) acL).2⟩,fun w=>acY,?_⟩
   ·have hj' :j<(U e).sz:=by rw[←hsz _ (acF hi)];omega
    have hb:=hbd i j hi hj';have g1:=uy hsz hi hj';rw[hfl,List.getElem?_take,if_pos hb,List.getElem?_drop,List.getElem?_eq_getElem acK,List.getElem?_eq_getElem hj]at g1;rw[←Option.some.inj g1];exact(v3 _ acK).1
   ·by_cases h0:ys.length=0
    ·simp_all [Builtin.firstCells,bZ,loadCells,loadCellsFrom]
    ·obtain⟨rfl,_⟩:=hcp acK
     have:=run_loadCells (P:=P) c.w ⟨(c.φ id).block,o',none⟩ (ys.length*(U e).sz) (fun q=>vs.getD (o' +(q / (U e).sz*(U e).sz+q % (U e).sz)) undef) (fun j hj=>by
      rw[cC,show j / (U e).sz*(U e).sz+j % (U e).sz=j from aff]
      have:o' +j<vs.size:=acK;simp[World.cell?,v1,this])
     simpa[Builtin.firstCells,bZ]using this
  grind
 grind
def cJ(z:AV)(n sz:Nat):List AV:=(List.range (n*sz)).map fun q=>z.cells.getD (q % sz) default
def j9(h:Heap)(cs:List AV)(n sz:Nat)(e:TypeId)(Q:AV→Heap→Prop):Prop:=
 ∀id cap rest,h id=none→n≤cap→rest.length=(cap - n)*sz→Q (.ob id 0 n cap sz) (upd h id (some (.obj (cs++rest) e)))
def qZ(U:TypeId→TI)(h:Heap)(ts:TypeId)(x y:AV)(Q:AV→Heap→Prop):Prop:=
 match (U ts).k with
 |.slice e=>(U e).sz≠0∧(U e).bytes≠0∧match x with
  |.sl xs p=>gX U e h y fun ys=>Sized (U e).sz xs∧Sized (U e).sz ys∧(xs.length+ys.length)*(U e).bytes≤140737488355328∧match p with
   |.no=>False
   |.full=>(ys= []→Q (.sl xs .full) h)∧(ys≠ []→(∀id,h id=none→Q (.sl (xs++ys) (.own id)) (upd h id (some (.spare (xs.length+ys.length) (U e).sz))))∨
     ((U e).sz=1∧fit (U e).zero 1∧bC (U e).zero=false∧(∀z∈xs++ys,bC z=false)∧∀id m,h id=none→Q (.oa id 0 (xs.length+ys.length)) (upd h id (some (.obj (xs++ys++List.replicate m (U e).zero) e))))∨
     (fit (U e).zero (U e).sz∧j9 h (au xs++au ys) (xs.length+ys.length) (U e).sz e Q))
   |.own id=>h id=some (.spare xs.length (U e).sz)∧Q (.sl (xs++ys) (.own id)) (upd h id (some (.spare (xs.length+ys.length) (U e).sz)))
  |.oa id off len=>(U e).sz=1∧gX U e h y fun ys=>Sized 1 ys∧(∀z∈ys,bC z=false)∧(len+ys.length)*(U e).bytes≤140737488355328∧match h id with
   |some (.obj cs t)=>off+len≤cs.length∧(∀z∈(cs.drop off).take len,bC z=false)∧fit (U e).zero 1∧bC (U e).zero=false∧
     (off+(len+ys.length)≤cs.length→Q (.oa id off (len+ys.length)) (upd h id (some (.obj (over cs (off+len) ys) t))))∧
     (∀id' m,h id' =none→Q (.oa id' 0 (len+ys.length)) (upd h id' (some (.obj ((cs.drop off).take len++ys++List.replicate m (U e).zero) e))))
   |_=>False
  |.ob id off len cap sz=>sz=(U e).sz∧gX U e h y fun ys=>Sized (U e).sz ys∧(len+ys.length)*(U e).bytes≤140737488355328∧match h id with
   |some (.obj cs t)=>off+len*(U e).sz≤cs.length∧fit (U e).zero (U e).sz∧
     (len+ys.length≤cap→Q (.ob id off (len+ys.length) cap (U e).sz) (upd h id (some (.obj (over cs (off+len*(U e).sz) (au ys)) t))))∧
     (cap<len+ys.length→j9 h ((cs.drop off).take (len*(U e).sz)++au ys) (len+ys.length) (U e).sz e Q)
   |_=>False
  |_=>False
 |_=>False
def Ep(U:TypeId→TI)(h:Heap)(ts:TypeId)(x y:AV)(Q:AV→Heap→Prop):Prop:=
 match (U ts).k with
 |.slice e=>match x with
  |.ob id off len cap sz=>match y with
   |.v (.int _ n)=>(U e).sz≠0∧(U e).bytes≠0∧sz=(U e).sz∧0<n∧(len+n.toNat)*(U e).bytes≤140737488355328∧fit (U e).zero (U e).sz∧cap<len+n.toNat∧match h id with
    |some (.obj cs _)=>off+len*(U e).sz≤cs.length∧j9 h ((cs.drop off).take (len*(U e).sz)++cJ (U e).zero n.toNat (U e).sz) (len+n.toNat) (U e).sz e Q
    |_=>False
   |_=>False
  |_=>False
 |_=>False
def apT(A B:Prop)(tk:TK):Prop:=match tk with
 |.int _=>B
 |.slice _|.str=>A
 |_=>False
theorem Sub.upd{h h'}(hs:Sub h h')(id)(k):Sub (upd h id k) (upd h' id k):=by
 intro j l hj
 by_cases e:j=id
 ·grind [ah]
 ·rw[ag _ _ e]at hj⊢;exact hs _ _ hj
def Lz:TK→Bool
 |.slice _|.str=>true
 |_=>false
theorem kY{i:TypeInfo}{w:World}{base:Option Addr}
  (ht:P.underlying ts=some (.slice e)) (hx:(∃d,P.underlying tx=some (.slice d))∨P.underlying tx=some .string) (hi:P.info? e=some i)
  (hlen:(Builtin.lenOf v).run P w= .ok m w) (hf:(Builtin.firstCells i.size m v).run P w= .ok news.toArray w) (hroom:n+m≤cap):
  (Builtin.append_ #[ts,tx] ty #[.slice base n cap,v]).run P w=((match base with|some a=>storeCells (a.add (n*i.size)) news|none=>pure ()).run P w).andThen fun _ w' => .ok (.slice base (n+m) cap) w' :=by
 rcases hx with⟨d,hx⟩|hx<;>cases base<;>simp[Builtin.append_,run_underlying ht,run_underlying hx,sizeOf,typeInfo,hi,hlen,hroom,hf]
theorem mW{i:TypeInfo}{w:World}{base:Option Addr}{olds:List Value}
  (ht:P.underlying ts=some (.slice e)) (hx:(∃d,P.underlying tx=some (.slice d))∨P.underlying tx=some .string) (hi:P.info? e=some i) (hz:i.zero=some z)
  (hlen:(Builtin.lenOf v).run P w= .ok m w) (h3:(Builtin.firstCells i.size m v).run P w.drew= .ok news.toArray w.drew)
  (h4:(Builtin.firstCells i.size n (.slice base n cap)).run P w.drew= .ok olds.toArray w.drew)
  (hgrow:cap<n+m) (hb:(n+m)*i.bytes≤140737488355328) (hb0:i.bytes≠0):
  (Builtin.append_ #[ts,tx] ty #[.slice base n cap,v]).run P w=
   .ok (.slice (some ⟨w.heap.size,0,none⟩) (n+m) (grownCap w (n+m) cap e)) (w.drew.alloc (.cells (olds.toArray++news.toArray++Builtin.zeroCells z.cells (grownCap w (n+m) cap e - (n+m))) e)):=by
 have h1:¬(n+m≤cap):=acK;have h2:¬(Builtin.nextslicecap (n+m) cap*i.bytes>2 ^ 48):=by simp_all [growslice_fits]
 have hz0:(zeroValue e).run P w.drew= .ok z w.drew:=adK;have hfo:(Question.appendCap (n+m) cap e).forced=false:=rfl;rcases hx with⟨d,hx⟩|hx<;>
 ·simp[Builtin.append_,run_underlying ht,run_underlying hx,sizeOf,typeInfo,hi,hlen,h1,h2,hb0,h3,h4,hz0,newRow,hfo,grownCap, -Array.append_assoc]
  try rfl
end
section
variable {e ts tx ty:TypeId}{Q:AV→Heap→Prop}{z:Value}{cx dy ys:List AV}{ox:List Value}{m cap:Nat}{y x:AV}{a:Option Addr}{ki:IntKind}
variable {P : Program} {U : TypeId → TI}
def eT(c:Cx)(Q:AV→Heap→Prop)(u:Value)(w' :World):Prop:=
 ∃c' x h',c'.w=w'∧Good c'∧Ext c c'∧Rep c' x u∧Sub h' c'.h∧Q x h'
theorem kZ{z}(h:bC z=false):z.cells= [z]:=by cases z<;>simp[bC]at h<;>rfl
theorem iY{c}{h}{id off}{cs xs}{t}{vs}{u}{X}{Q}(hs:Sub h c.h)(g:Good c)(hid:h id=some (.obj cs t))(hl:vs.length=xs.length)(hb:off+xs.length≤cs.length)
  (hr:∀j (h:j<xs.length),Rep c xs[j] (vs.getD j undef)∧(vs.getD j undef).oneCell' =true) (hX:∀c',Ext c c'→Rep c' X u) (hQ:Q X (upd h id (some (.obj (over cs off xs) t)))):
  (storeCells ⟨(c.φ id).block,off,none⟩ vs).run P c.w= .ok () (c.w.setCells (c.φ id).block off vs)∧eT c Q u (c.w.setCells (c.φ id).block off vs):=by
 have hcid:=hs _ _ hid;obtain⟨us,u1,u2,u3⟩:=g.obj id cs t hcid;have hE:=Ext.fill (c:=c) id off vs (.obj cs t) (.obj (over cs off xs) t) hcid (Nat.zero_le _) (.inl ⟨_,_,_,rfl,rfl,iu acK⟩);refine⟨?_,c.fill id off vs (.obj (over cs off xs) t),X,_,rfl,g.ND id off vs cs xs t hcid hl hb hr,hE,hX _ hE,hs.upd id _,hQ⟩;have:=run_storeCells_cells (P:=P) (c.φ id).block off vs 0 c.w (by grind [World.cell?]) (by grind [World.frozen?]) (fun v hv=>by
   obtain⟨j,hj,rfl⟩:=List.mem_iff_getElem.1 hv
   grind)
 simpa using this
theorem zG{h}{ts tx ty e}{y}{Q}{i}{z}{xs ys}{vx}{a}{cap}
  (hd:P.underlying ts=some (.slice e)) (htx' :(∃d,P.underlying tx=some (.slice d))∨P.underlying tx=some .string) (i1:P.info? e=some i) (i2:i.size=(U e).sz) (i3:i.bytes=(U e).bytes)
  (z1:i.zero=some z) (z2:z.cells.size=(U e).sz) (z3:∀c,Rep c (U e).zero z) (c) (v) (hs:Sub h c.h) (g:Good c) (hy:Rep c y v)
  (hsrc:∀c u,Sub h c.h→Good c→Rep c y u→Sized (U e).sz ys→ys.length<lim∧∃val,Row c ys (U e).sz val∧(∀w,(Builtin.lenOf u).run P w= .ok ys.length w)∧
   (Builtin.firstCells (U e).sz ys.length u).run P c.w= .ok (bZ (U e).sz ys.length val).toArray c.w)
  (hsy:Sized (U e).sz ys) (hb:(xs.length+ys.length)*(U e).bytes≤140737488355328) (hby:(U e).bytes≠0) (hbyte:xs.length+ys.length<lim) (rowx:Row c xs (U e).sz vx)
  (holds:(Builtin.firstCells i.size xs.length (.slice a xs.length cap)).run P c.w.drew= .ok (bZ (U e).sz xs.length vx).toArray c.w.drew) (hgr:cap<xs.length+ys.length)
  (hz1:(U e).sz=1) (hzf:fit (U e).zero 1) (hza:bC (U e).zero=false) (hna:∀z∈xs++ys,bC z=false)
  (hQ:∀id m,h id=none→Q (.oa id 0 (xs.length+ys.length)) (upd h id (some (.obj (xs++ys++List.replicate m (U e).zero) e)))):
  ∃r w',(Builtin.append_ #[ts,tx] ty #[.slice a xs.length cap,v]).run P c.w= .ok r w'∧eT c Q r w' :=by
 have hfr:∀id,c.h id=none→h id=none:=fun id hid=>by exact ahB
 obtain⟨id,hid⟩:=g.fresh;have g1:Good {c with w:=c.w.drew}:=g.draw rfl rfl rfl rfl
 have e1:Ext c {c with w:=c.w.drew}:=Ext.draw rfl rfl rfl rfl
 obtain⟨_,vy,rowy,hlen,hfirst⟩:=hsrc {c with w:=c.w.drew} v hs g1 (hy.mono e1) hsy
 rw[←i2]at hfirst;have hr:=mW (ty:=ty) hd htx' i1 z1 (hlen c.w) hfirst holds acK acL acK;obtain⟨hcap1,hcap2⟩:=xw c.w (xs.length+ys.length) cap e hbyte;generalize hcp:grownCap c.w (xs.length+ys.length) cap e=ncap at hr hcap1 hcap2;generalize hcells:(bZ (U e).sz xs.length vx).toArray++(bZ i.size ys.length vy).toArray++Builtin.zeroCells z.cells (ncap - (xs.length+ys.length))=cells at hr;rw[i2,hz1]at hcells;rw[hz1]at rowx rowy z2;have hcs:cells.size=ncap:=by grind [Array.size_append,List.size_toArray,aT,size_zeroCells]
 obtain⟨f1,f2,f3,f4⟩:=(z3 {c with w:=c.w.drew}).fits hzf
 have hzc:=kZ hza;refine⟨_,_,hr,({c with w:=c.w.drew}:Cx).ay (.cells cells e) id ⟨c.w.heap.size,0,none⟩ (.obj (xs++ys++List.replicate (ncap - (xs.length+ys.length)) (U e).zero) e),_,_,rfl,?_,
  e1.trans (Ext.ay _ _ id _ _ rfl (.inl hid)),?_,hs.upd id _,hQ id _ (hfr id hid)⟩
 ·refine g1.ay _ _ (0,0) id _ _ rfl (.inl hid) (fun cs t' hh=>?_) (fun n sz hh=>acS)
  cases hh;refine⟨rfl,rfl,acL,fun j hj=>?_⟩
  have hj' :j<ncap:=acL
  by_cases hj1:j<xs.length
  ·have e2:(xs++ys++List.replicate (ncap - (xs.length+ys.length)) (U e).zero)[j]=xs[j]:=by grind
   have e3:cells.getD j undef=vx j 0:=by
    have h5:=gJ (val:=vx) hj1 (show 0<1 by omega)
    rw[Nat.mul_one,Nat.add_zero]at h5;rw[←hcells,Array.getD_eq_getD_getElem?,Array.getElem?_append_left acL,Array.getElem?_append_left acL];simp[h5]
   rw[e2,e3];have hc1:=kZ (hna xs[j] (List.mem_append_left _ (acF hj1)));have:=rowx.hr j hj1 0 acL;simp only[hc1,List.getElem_cons_zero]at this;exact⟨this.mono e1,rowx.ho j 0 hj1 acK⟩
  ·by_cases hj2:j<xs.length+ys.length
   ·have hj3:j - xs.length<ys.length:=by omega
    have e2:(xs++ys++List.replicate (ncap - (xs.length+ys.length)) (U e).zero)[j]=ys[j - xs.length]:=by grind
    have e3:cells.getD j undef=vy (j - xs.length) 0:=by
     have h5:=gJ (val:=vy) hj3 (show 0<1 by omega)
     rw[Nat.mul_one,Nat.add_zero]at h5;rw[←hcells,Array.getD_eq_getD_getElem?,Array.getElem?_append_left (by grind [aT]),Array.getElem?_append_right (by grind [aT])]
     simp[aT,h5]
    rw[e2,e3];have hc1:=kZ (hna ys[j - xs.length] (List.mem_append_right _ (acF hj3)));have:=rowy.hr (j - xs.length) hj3 0 acL;simp only[hc1,List.getElem_cons_zero]at this;exact⟨this,rowy.ho _ 0 hj3 acK⟩
   ·have e2:(xs++ys++List.replicate (ncap - (xs.length+ys.length)) (U e).zero)[j]=(U e).zero:=by grind
    have e3:cells.getD j undef=z.cells.getD 0 undef:=by
     rw[←hcells,Array.getD_eq_getD_getElem?,Array.getElem?_append_right (by grind [aT])]
     exact ahb
    rw[e2,e3];have:=f3 0 acK;simp only[hzc,List.getElem_cons_zero]at this;exact⟨this,f4 0 acK⟩
 ·have:=Rep.oa (c:=({c with w:=c.w.drew}:Cx).ay (.cells cells e) id ⟨c.w.heap.size,0,none⟩ (.obj (xs++ys++List.replicate (ncap - (xs.length+ys.length)) (U e).zero) e)) id 0 (xs.length+ys.length) ncap 0 _ e
   (by simp[Cx.ay,ah];rfl) acK hcap2 (fun _=>⟨rfl,acL⟩)
  simpa[Cx.ay,ah]using this
theorem vG{h:Heap}{news:List Value}{k:Nat}
  (z2:z.cells.size=(U e).sz) (z3:∀c,Rep c (U e).zero z) (c:Cx) (hs:Sub h c.h) (g:Good c)
  (hbyte:m+k<lim)
  (hl:cx.length=m*(U e).sz) (hl2:ox.length=m*(U e).sz) (hro:∀j (h:j<cx.length),Rep c cx[j] (ox.getD j undef)∧(ox.getD j undef).oneCell' =true)
  (hly:dy.length=k*(U e).sz) (hln:news.length=k*(U e).sz) (hry:∀j (h:j<dy.length),Rep {c with w:=c.w.drew} dy[j] (news.getD j undef)∧(news.getD j undef).oneCell' =true)
  (hzs:(U e).sz≠0) (hzf:fit (U e).zero (U e).sz) (hQ:j9 h (cx++dy) (m+k) (U e).sz e Q):
  eT c Q (.slice (some ⟨c.w.heap.size,0,none⟩) (m+k) (grownCap c.w (m+k) cap e)) (c.w.drew.alloc (.cells (ox.toArray++news.toArray++Builtin.zeroCells z.cells (grownCap c.w (m+k) cap e - (m+k))) e)):=by
 have hfr:∀id,c.h id=none→h id=none:=fun id hid=>by exact ahB
 obtain⟨id,hid⟩:=g.fresh;have g1:Good {c with w:=c.w.drew}:=g.draw rfl rfl rfl rfl
 have e1:Ext c {c with w:=c.w.drew}:=Ext.draw rfl rfl rfl rfl
 obtain⟨hcap1,hcap2⟩:=xw c.w (m+k) cap e hbyte;generalize hcp:grownCap c.w (m+k) cap e=ncap at hcap1 hcap2⊢;generalize hcells:ox.toArray++news.toArray++Builtin.zeroCells z.cells (ncap - (m+k))=cells;have hmul:ncap*(U e).sz=m*(U e).sz+k*(U e).sz+(ncap - (m+k))*(U e).sz:=by rw[←Nat.add_mul,←Nat.add_mul];grind
 have hcs:cells.size=ncap*(U e).sz:=by grind [Array.size_append,List.size_toArray,size_zeroCells]
 obtain⟨f1,f2,f3,f4⟩:=(z3 {c with w:=c.w.drew}).fits hzf
 have hzl:(cJ (U e).zero (ncap - (m+k)) (U e).sz).length=(ncap - (m+k))*(U e).sz:=by simp[cJ]
 refine⟨({c with w:=c.w.drew}:Cx).ay (.cells cells e) id ⟨c.w.heap.size,0,none⟩ (.obj (cx++dy++cJ (U e).zero (ncap - (m+k)) (U e).sz) e),_,_,rfl,?_,
  e1.trans (Ext.ay _ _ id _ _ rfl (.inl hid)),?_,hs.upd id _,hQ id ncap _ (hfr id hid) hcap1 hzl⟩
 ·refine g1.ay _ _ (0,0) id _ _ rfl (.inl hid) (fun cs t' hh=>?_) (fun n sz hh=>acS)
  cases hh;have hcz:cells.size=(cx++dy++cJ (U e).zero (ncap - (m+k)) (U e).sz).length:=by grind
  refine⟨rfl,rfl,hcz,fun j hj=>?_⟩
  have hj' :j<cells.size:=acK
  by_cases hj1:j<cx.length
  ·have e2:(cx++dy++cJ (U e).zero (ncap - (m+k)) (U e).sz)[j]=cx[j]:=by grind
   have e3:cells.getD j undef=ox.getD j undef:=by rw[←hcells,Array.getD_eq_getD_getElem?,Array.getElem?_append_left acL,Array.getElem?_append_left acL];simp
   rw[e2,e3];exact⟨(hro j hj1).1.mono e1,(hro j hj1).2⟩
  ·by_cases hj2:j<cx.length+dy.length
   ·have hj3:j - cx.length<dy.length:=by omega
    have e2:(cx++dy++cJ (U e).zero (ncap - (m+k)) (U e).sz)[j]=dy[j - cx.length]:=by grind
    have e3:cells.getD j undef=news.getD (j - cx.length) undef:=by
     rw[←hcells,Array.getD_eq_getD_getElem?,Array.getElem?_append_left acL,Array.getElem?_append_right acL]
     grind
    rw[e2,e3];exact hry _ hj3
   ·have hj4:j - (cx.length+dy.length)<(ncap - (m+k))*(U e).sz:=by omega
    have hmod:(j - (cx.length+dy.length)) % (U e).sz<(U e).sz:=Nat.mod_lt _ acK;have e2:(cx++dy++cJ (U e).zero (ncap - (m+k)) (U e).sz)[j]=(U e).zero.cells[(j - (cx.length+dy.length)) % (U e).sz]'acK:=by grind [List.getElem_append_right,cJ]
    have e3:cells.getD j undef=z.cells.getD ((j - (cx.length+dy.length)) % (U e).sz) undef:=by rw[←hcells,Array.getD_eq_getD_getElem?,Array.getElem?_append_right acL];have h5:j - (ox.toArray++news.toArray).size=j - (cx.length+dy.length):=acL;rw[h5];have h6:(j - (cx.length+dy.length)) % (U e).sz<z.cells.size:=acK;simp only[Builtin.zeroCells,z2,Array.getElem?_map,Array.getElem?_range,hj4,if_true,Option.map_some,Option.getD_some];rw[getElem!_pos z.cells _ h6,Array.getD,dif_pos h6];rfl
    rw[e2,e3];exact⟨f3 _ acK,f4 _ hmod⟩
 ·have:=Rep.ob (c:=({c with w:=c.w.drew}:Cx).ay (.cells cells e) id ⟨c.w.heap.size,0,none⟩ (.obj (cx++dy++cJ (U e).zero (ncap - (m+k)) (U e).sz) e)) id 0 (m+k) ncap (U e).sz 0 _ e
   (by simp[Cx.ay,ah];rfl) hcap1 hcap2 (fun _=>⟨rfl,acL⟩)
  simpa[Cx.ay,ah]using this
theorem tr{h:Heap}{i:TypeInfo}
  (hd:P.underlying ts=some (.slice e)) (htx' :(∃d,P.underlying tx=some (.slice d))∨P.underlying tx=some .string) (i1:P.info? e=some i) (i2:i.size=(U e).sz) (i3:i.bytes=(U e).bytes)
  (z1:i.zero=some z) (z2:z.cells.size=(U e).sz) (z3:∀c,Rep c (U e).zero z) (c:Cx) (v:Value) (hs:Sub h c.h) (g:Good c) (hy:Rep c y v)
  (hsrc:∀c u,Sub h c.h→Good c→Rep c y u→Sized (U e).sz ys→ys.length<lim∧∃val,Row c ys (U e).sz val∧(∀w,(Builtin.lenOf u).run P w= .ok ys.length w)∧
   (Builtin.firstCells (U e).sz ys.length u).run P c.w= .ok (bZ (U e).sz ys.length val).toArray c.w)
  (hsy:Sized (U e).sz ys) (hb:(m+ys.length)*(U e).bytes≤140737488355328) (hby:(U e).bytes≠0) (hbyte:m+ys.length<lim)
  (hl:cx.length=m*(U e).sz) (hl2:ox.length=m*(U e).sz) (hro:∀j (h:j<cx.length),Rep c cx[j] (ox.getD j undef)∧(ox.getD j undef).oneCell' =true)
  (holds:(Builtin.firstCells i.size m (.slice a m cap)).run P c.w.drew= .ok ox.toArray c.w.drew) (hgr:cap<m+ys.length)
  (hzs:(U e).sz≠0) (hzf:fit (U e).zero (U e).sz) (hQ:j9 h (cx++au ys) (m+ys.length) (U e).sz e Q):
  ∃r w',(Builtin.append_ #[ts,tx] ty #[.slice a m cap,v]).run P c.w= .ok r w'∧eT c Q r w' :=by
 have g1:Good {c with w:=c.w.drew}:=g.draw rfl rfl rfl rfl
 have e1:Ext c {c with w:=c.w.drew}:=Ext.draw rfl rfl rfl rfl
 obtain⟨hfy,vy,rowy,hlen,hfirst⟩:=hsrc {c with w:=c.w.drew} v hs g1 (hy.mono e1) hsy
 obtain⟨hly,hry⟩:=rowy.flat acK;rw[←i2]at hfirst;have hr:=mW (ty:=ty) hd htx' i1 z1 (hlen c.w) hfirst holds acK acL acK;rw[i2]at hr;exact⟨_,_,hr,vG z2 z3 c hs g hbyte hl hl2 hro hly (aT ..) hry hzs hzf hQ⟩
theorem C6{h:Heap}{i:TypeInfo}{n:Nat}{kk:IntKind}
  (hd:P.underlying ts=some (.slice e)) (htx:P.underlying tx=some (.int ki)) (i1:P.info? e=some i) (i2:i.size=(U e).sz) (i3:i.bytes=(U e).bytes)
  (z1:i.zero=some z) (z2:z.cells.size=(U e).sz) (z3:∀c,Rep c (U e).zero z) (c:Cx) (hs:Sub h c.h) (g:Good c)
  (hn0:n≠0) (hb:(m+n)*(U e).bytes≤140737488355328) (hby:(U e).bytes≠0) (hbyte:m+n<lim)
  (hl:cx.length=m*(U e).sz) (hl2:ox.length=m*(U e).sz) (hro:∀j (h:j<cx.length),Rep c cx[j] (ox.getD j undef)∧(ox.getD j undef).oneCell' =true)
  (holds:(Builtin.firstCells i.size m (.slice a m cap)).run P c.w.drew= .ok ox.toArray c.w.drew) (hgr:cap<m+n)
  (hzs:(U e).sz≠0) (hzf:fit (U e).zero (U e).sz) (hQ:j9 h (cx++cJ (U e).zero n (U e).sz) (m+n) (U e).sz e Q):
  ∃r w',(Builtin.append_ #[ts,tx] ty #[.slice a m cap,.int kk n]).run P c.w= .ok r w'∧eT c Q r w' :=by
 have hw:IntKind.i64.wrap (n:Int)=n:=IntWalk.i64_in _ (by grind [lim])
 have h1:¬(m+n≤cap):=acK;have hbm:(m+n)*i.bytes≤140737488355328:=acL;have h2:¬(Builtin.nextslicecap (m+n) cap*i.bytes>2 ^ 48):=by simp_all [growslice_fits]
 have h3:¬((n:Int)<0):=acK;have h4:¬(281474976710656<(n:Int)*(i.bytes:Int)):=by grind
 have h5:¬(9223372036854775807<(m:Int)+(n:Int)):=by grind [lim]
 have hz0:(zeroValue e).run P c.w.drew= .ok z c.w.drew:=adK;have hfo:(Question.appendCap (m+n) cap e).forced=false:=rfl;have hby' :i.bytes≠0:=acK;have hsz' :¬(n*i.size=0):=by grind [Nat.mul_ne_zero]
 have hr:(Builtin.append_ #[ts,tx] ty #[.slice a m cap,.int kk n]).run P c.w=
   .ok (.slice (some ⟨c.w.heap.size,0,none⟩) (m+n) (grownCap c.w (m+n) cap e)) (c.w.drew.alloc (.cells (ox.toArray++(Builtin.zeroCells z.cells n).toList.toArray++Builtin.zeroCells z.cells (grownCap c.w (m+n) cap e - (m+n))) e)):=by
  simp[Builtin.append_,run_underlying hd,run_underlying htx,sizeOf,typeInfo,i1,asInt,asIntOf,hw,h1,h2,h3,h4,h5,hsz',holds,hz0,newRow,hfo,grownCap, -Array.append_assoc]
  try rfl
 obtain⟨f1,f2,f3,f4⟩:=(z3 {c with w:=c.w.drew}).fits hzf
 refine⟨_,_,hr,vG z2 z3 c hs g hbyte hl hl2 hro (by simp[cJ]) (by grind [Builtin.zeroCells]) (fun j hj=>?_) hzs hzf hQ⟩
 have hj' :j<n*(U e).sz:=by grind [cJ]
 have hmod:j % (U e).sz<(U e).sz:=Nat.mod_lt _ acK;have e2:(cJ (U e).zero n (U e).sz)[j]=(U e).zero.cells[j % (U e).sz]'acK:=by grind [cJ]
 have e3:(Builtin.zeroCells z.cells n).toList.getD j undef=z.cells.getD (j % (U e).sz) undef:=by simp_all [Builtin.zeroCells,List.getD_eq_getElem?_getD,Array.getElem?_toList,Array.getElem?_map,Array.getElem?_range,if_true,Option.map_some,Option.getD_some]
 rw[e2,e3];exact⟨f3 _ acK,f4 _ hmod⟩
theorem sO(hU:∀t,aO P U t){h:Heap}(htx:Lz (U tx).k=true)(hk:qZ U h ts x y Q)(c:Cx)(u v:Value)
  (hs:Sub h c.h) (g:Good c) (hx:Rep c x u) (hy:Rep c y v):
  ∃r w',(Builtin.append_ #[ts,tx] ty #[u,v]).run P c.w= .ok r w'∧eT c Q r w' :=by
 unfold qZ at hk;have hd:=(hU ts).desc;split at hk
 ·rename_i e hty
  rw[hty]at hd;obtain⟨hz,hby,hk⟩:=hk;have htx' :(∃d,P.underlying tx=some (.slice d))∨P.underlying tx=some .string:=by
   have:=(hU tx).desc;cases hk:(U tx).k<;>rw[hk]at htx this<;>simp[Lz]at htx
   ·exact .inr this
   ·exact .inl ⟨_,this⟩
  obtain⟨i,i1,i2,i3,z,z1,z2,z3⟩:=(hU e).info hz;split at hk
  ·rename_i xs p
   obtain⟨ys,hk',hsrc⟩:=qU (P:=P) hz hk;clear hk;have hk:=hk';clear hk';obtain⟨hsx,hsy,hb,hk⟩:=hk;obtain⟨hyl,vy,rowy,hlen,hfirst⟩:=hsrc c v hs g hy hsy;obtain⟨a,cap,sz,vx,rfl,sl⟩:=hx.iD;have hcap:=sl.hc;have hcm:=sl.hm;have hbyte:(xs.length+ys.length)<lim:=by have:(xs.length+ys.length)≤(xs.length+ys.length)*(U e).bytes:=Nat.le_mul_of_pos_right _ acK;simp only[lim];omega
   have holds:(Builtin.firstCells i.size xs.length (.slice a xs.length cap)).run P c.w.drew= .ok (bZ (U e).sz xs.length vx).toArray c.w.drew:=by
    by_cases hxn:xs= []
    ·subst hxn
     cases a<;>simp[Builtin.firstCells,bZ,loadCells,loadCellsFrom]
    ·have hne:0<xs.length:=List.length_pos_iff.2 hxn
     have e1:sz=(U e).sz:=by rw[←sl.hz 0 hne];exact hsx _ (acF hne)
     subst e1;obtain⟨q,rfl⟩:∃q,a=some q:=by
      cases a with
      |none=>have:=sl.h0 rfl;omega
      |some q=>exact⟨q,rfl⟩
     obtain⟨hq1,hq2⟩:=sl.hs q rfl acK;obtain⟨bq,oq,sq⟩:=q;simp only at hq1 hq2;subst hq1
     have:=run_loadCells (P:=P) c.w.drew ⟨bq,oq,none⟩ (xs.length*(U e).sz) (fun q=>vx (q / (U e).sz) (q % (U e).sz)) (fun j hj=>by
      have h1:j / (U e).sz<xs.length:=(Nat.div_lt_iff_lt_mul acK).2 hj;have h2:j % (U e).sz<(U e).sz:=Nat.mod_lt _ acK;have:=(sl.hf _ rfl _ _ h1 h2).1;rw[cC];rw[show j / (U e).sz*(U e).sz+j % (U e).sz=j from by rw[Nat.mul_comm];exact Nat.div_add_mod j _]at this
      exact this)
     rw[i2];simpa[Builtin.firstCells,bZ]using this
   have rowx:Row c xs (U e).sz vx:=by
    by_cases hxn:xs= []
    ·subst hxn
     exact⟨fun i hi=>(by cases hi),fun i hi=>(by cases hi),fun i j hi=>(by cases hi)⟩
    ·have hne:0<xs.length:=List.length_pos_iff.2 hxn
     have e1:sz=(U e).sz:=by rw[←sl.hz 0 hne];exact hsx _ (acF hne)
     subst e1;exact⟨sl.hz,sl.hr,sl.ho⟩
   have grow:cap<xs.length+ys.length→∀id,(c.h id=none∨∃n m sz,c.h id=some (.spare n sz)∧Blk.spare (xs.length+ys.length) (U e).sz= .spare m sz∧n<m)→
     Q (.sl (xs++ys) (.own id)) (upd h id (some (.spare (xs.length+ys.length) (U e).sz)))→
     ∃r w',(Builtin.append_ #[ts,tx] ty #[.slice a xs.length cap,v]).run P c.w= .ok r w'∧eT c Q r w' :=by
    intro hg id hid hQ;have g1:Good {c with w:=c.w.drew}:=g.draw rfl rfl rfl rfl
    have e1:Ext c {c with w:=c.w.drew}:=Ext.draw rfl rfl rfl rfl
    obtain⟨_,vy,rowy,hlen,hfirst⟩:=hsrc {c with w:=c.w.drew} v hs g1 (hy.mono e1) hsy
    rw[←i2]at hfirst;have hr:=mW (ty:=ty) hd htx' i1 z1 (hlen c.w) hfirst holds hg (by rw[i3];exact hb) (by rw[i3];exact hby)
    obtain⟨hcap1,hcap2⟩:=xw c.w (xs.length+ys.length) cap e hbyte;generalize hcp:grownCap c.w (xs.length+ys.length) cap e=ncap at hr hcap1 hcap2;generalize hcells:(bZ (U e).sz xs.length vx).toArray++(bZ i.size ys.length vy).toArray++Builtin.zeroCells z.cells (ncap - (xs.length+ys.length))=cells at hr;rw[i2]at hcells;have hcs:cells.size=ncap*(U e).sz:=by
     rw[←hcells];simp only[Array.size_append,List.size_toArray,aT,size_zeroCells,z2,←Nat.add_mul]
     congr 1
     omega
    refine⟨_,_,hr,({c with w:=c.w.drew}:Cx).ay (.cells cells e) id ⟨c.w.heap.size,0,none⟩ (.spare (xs.length+ys.length) (U e).sz),_,_,rfl,?_,?_,?_,hs.upd id _,hQ⟩
    ·exact g1.ay _ _ _ id _ _ rfl hid (fun cs t' hh=>aea) (fun n sz hh=>⟨rfl,fun o ho=>acS⟩)
    ·exact e1.trans (Ext.ay _ _ id _ _ rfl hid)
    ·have hE:=Ext.ay {c with w:=c.w.drew} (.cells cells e) id ⟨c.w.heap.size,0,none⟩ (.spare (xs.length+ys.length) (U e).sz) rfl hid
     have hE0:=e1.trans hE;have hl:(xs++ys).length=xs.length+ys.length:=acS;have e0:Value.slice (some ⟨c.w.heap.size,0,none⟩) (xs.length+ys.length) ncap=Value.slice (some ⟨c.w.heap.size,0,none⟩) (xs++ys).length ncap:=by rw[hl]
     rw[e0];refine .sl _ _ _ ncap (U e).sz (fun i j=>if i<xs.length then vx i j else vy (i - xs.length) j) acK hcap2 (fun hh=>aea)
      (fun q hq _=>by cases hq;exact⟨rfl,by simp[Cx.ay]⟩) (fun i hi=>?_) (fun q hq i j hi hj=>?_) (fun i hi j hj=>?_) (fun i j hi hj=>?_) ?_
     ·rw[List.getElem_append]
      split
      ·exact rowx.hz _ _
      ·exact rowy.hz _ _
     ·cases hq
      refine⟨?_,?_⟩
      ·have hnew:((({c with w:=c.w.drew}:Cx).ay (.cells cells e) id ⟨c.w.heap.size,0,none⟩ (.spare (xs.length+ys.length) (U e).sz)).w.cell? ⟨c.w.heap.size,0+(i*(U e).sz+j),none⟩)=cells[i*(U e).sz+j]? :=by rw[Nat.zero_add];exact World.cell?_alloc_mark c.w.drew _ _ _ _
       rw[hnew,←hcells,Array.getElem?_append_left,Array.getElem?_append]
       ·simp only[List.size_toArray,aT,List.getElem?_toArray]
        by_cases hix:i<xs.length
        ·have:i*(U e).sz+j<xs.length*(U e).sz:=by have:(i+1)*(U e).sz≤xs.length*(U e).sz:=Nat.mul_le_mul_right _ acK;rw[Nat.add_mul,Nat.one_mul]at this;omega
         rw[if_pos this,if_pos hix];exact gJ hix hj
        ·have:¬(i*(U e).sz+j<xs.length*(U e).sz):=by have:xs.length*(U e).sz≤i*(U e).sz:=Nat.mul_le_mul_right _ acK;omega
         rw[if_neg this,if_neg hix];have e2:i*(U e).sz+j - xs.length*(U e).sz=(i - xs.length)*(U e).sz+j:=by have:xs.length*(U e).sz≤i*(U e).sz:=Nat.mul_le_mul_right _ acK;rw[Nat.sub_mul];omega
         rw[e2];exact gJ acK hj
       ·simp only[Array.size_append,List.size_toArray,aT,←Nat.add_mul]
        have:(i+1)*(U e).sz≤(xs.length+ys.length)*(U e).sz:=Nat.mul_le_mul_right _ acK;rw[Nat.add_mul,Nat.one_mul]at this;omega
      ·rintro⟨j',k',k1,k2,k3⟩
       by_cases ej:j' =id
       ·subst ej
        simp only[Cx.ay,ah,Option.some.injEq]at k1 k2 k3;subst k1;simp only[Blk.holds,Blk.start,Nat.zero_add]at k3;have:(i+1)*(U e).sz≤(xs.length+ys.length)*(U e).sz:=Nat.mul_le_mul_right _ acK;rw[Nat.add_mul i,Nat.one_mul]at this;omega
       ·simp only[Cx.ay,ag _ _ ej]at k1 k2
        have:=g.lt k1;omega
     ·have hi' :i<xs.length+ys.length:=by omega
      by_cases hix:i<xs.length
      ·simp only[if_pos hix]
       have e2:(xs++ys)[i]=xs[i]:=List.getElem_append_left hix;simp only[e2]at hj⊢;exact(rowx.hr i hix j hj).mono hE0
      ·simp only[if_neg hix]
       have e2:(xs++ys)[i]=ys[i - xs.length]:=List.getElem_append_right acK;simp only[e2]at hj⊢;exact(rowy.hr (i - xs.length) acK j hj).mono hE
     ·by_cases hix:i<xs.length
      ·simp only[if_pos hix];exact rowx.ho i j hix hj
      ·simp only[if_neg hix];exact rowy.ho (i - xs.length) j acK hj
     ·refine⟨xs.length+ys.length,ae6,acK,fun _=>⟨_,rfl,ae6,cells,e,(0,0),?_,?_⟩⟩
      ·exact heap_alloc_new c.w.drew _
      ·simp[hcs]
   split at hk
   ·exact ac7
   ·obtain⟨hk1,hk2⟩:=hk
    have hcapn:cap=xs.length:=sl.hp
    by_cases hyn:ys= []
    ·subst hyn
     have hr:=kY (ty:=ty) hd htx' i1 (hlen c.w) age (base:=a) (n:=xs.length) (cap:=cap) ade;refine⟨_,_,?_,c,_,h,rfl,g,.refl c,sl.rep,hs,hk1 rfl⟩;rw[hr];cases a<;>simp[bZ,storeCells]
    ·have hpos:0<ys.length:=List.length_pos_iff.2 hyn
     have hfr:∀id,c.h id=none→h id=none:=fun id hid=>by
      cases hh:h id with
      |none=>rfl
      |some k=>rw[hs _ _ hh]at hid;cases hid
     rcases hk2 hyn with hk2|⟨hz1,hzf,hza,hna,hQ⟩|⟨hzf,hQ⟩
     ·obtain⟨id,hid⟩:=g.fresh
      exact grow acK id (.inl hid) (hk2 id (hfr id hid))
     ·obtain⟨id,hid⟩:=g.fresh
      have g1:Good {c with w:=c.w.drew}:=g.draw rfl rfl rfl rfl
      have e1:Ext c {c with w:=c.w.drew}:=Ext.draw rfl rfl rfl rfl
      obtain⟨_,vy,rowy,hlen,hfirst⟩:=hsrc {c with w:=c.w.drew} v hs g1 (hy.mono e1) hsy
      rw[←i2]at hfirst;have hr:=mW (ty:=ty) hd htx' i1 z1 (hlen c.w) hfirst holds acK (by rw[i3];exact hb) (by rw[i3];exact hby)
      obtain⟨hcap1,hcap2⟩:=xw c.w (xs.length+ys.length) cap e hbyte;generalize hcp:grownCap c.w (xs.length+ys.length) cap e=ncap at hr hcap1 hcap2;generalize hcells:(bZ (U e).sz xs.length vx).toArray++(bZ i.size ys.length vy).toArray++Builtin.zeroCells z.cells (ncap - (xs.length+ys.length))=cells at hr;rw[i2,hz1]at hcells;rw[hz1]at rowx rowy z2;have hcs:cells.size=ncap:=by rw[←hcells];simp only[Array.size_append,List.size_toArray,aT,size_zeroCells,z2];omega
      obtain⟨f1,f2,f3,f4⟩:=(z3 {c with w:=c.w.drew}).fits hzf
      have hzc:=kZ hza;refine⟨_,_,hr,({c with w:=c.w.drew}:Cx).ay (.cells cells e) id ⟨c.w.heap.size,0,none⟩ (.obj (xs++ys++List.replicate (ncap - (xs.length+ys.length)) (U e).zero) e),_,_,rfl,?_,
       e1.trans (Ext.ay _ _ id _ _ rfl (.inl hid)),?_,hs.upd id _,hQ id _ (hfr id hid)⟩
      ·refine g1.ay _ _ (0,0) id _ _ rfl (.inl hid) (fun cs t' hh=>?_) (fun n sz hh=>aea)
       cases hh;refine⟨rfl,rfl,by simp[hcs];omega,fun j hj=>?_⟩
       have hj' :j<ncap:=by simp at hj;omega
       by_cases hj1:j<xs.length
       ·have e2:(xs++ys++List.replicate (ncap - (xs.length+ys.length)) (U e).zero)[j]=xs[j]:=by rw[List.getElem_append_left ade,List.getElem_append_left hj1]
        have e3:cells.getD j undef=vx j 0:=by
         have h5:=gJ (val:=vx) hj1 (show 0<1 by omega)
         rw[Nat.mul_one,Nat.add_zero]at h5;rw[←hcells,Array.getD_eq_getD_getElem?,Array.getElem?_append_left agt,Array.getElem?_append_left agt];simp[h5]
        rw[e2,e3];have hc1:=kZ (hna xs[j] (List.mem_append_left _ (acF hj1)));have:=rowx.hr j hj1 0 (by rw[hc1];simp)
        simp only[hc1,List.getElem_cons_zero]at this;exact⟨this.mono e1,rowx.ho j 0 hj1 acK⟩
       ·by_cases hj2:j<xs.length+ys.length
        ·have hj3:j - xs.length<ys.length:=by omega
         have e2:(xs++ys++List.replicate (ncap - (xs.length+ys.length)) (U e).zero)[j]=ys[j - xs.length]:=by rw[List.getElem_append_left ade,List.getElem_append_right acK]
         have e3:cells.getD j undef=vy (j - xs.length) 0:=by
          have h5:=gJ (val:=vy) hj3 (show 0<1 by omega)
          rw[Nat.mul_one,Nat.add_zero]at h5;rw[←hcells,Array.getD_eq_getD_getElem?,Array.getElem?_append_left agt,Array.getElem?_append_right agt];simp[aT,h5]
         rw[e2,e3];have hc1:=kZ (hna ys[j - xs.length] (List.mem_append_right _ (acF hj3)));have:=rowy.hr (j - xs.length) hj3 0 (by rw[hc1];simp)
         simp only[hc1,List.getElem_cons_zero]at this;exact⟨this,rowy.ho _ 0 hj3 acK⟩
        ·have e2:(xs++ys++List.replicate (ncap - (xs.length+ys.length)) (U e).zero)[j]=(U e).zero:=by rw[List.getElem_append_right ade];simp
         have e3:cells.getD j undef=z.cells.getD 0 undef:=by rw[←hcells,Array.getD_eq_getD_getElem?,Array.getElem?_append_right agt];exact ahb
         rw[e2,e3];have:=f3 0 (by rw[hzc];simp)
         simp only[hzc,List.getElem_cons_zero]at this;exact⟨this,f4 0 acK⟩
      ·have:=Rep.oa (c:=({c with w:=c.w.drew}:Cx).ay (.cells cells e) id ⟨c.w.heap.size,0,none⟩ (.obj (xs++ys++List.replicate (ncap - (xs.length+ys.length)) (U e).zero) e)) id 0 (xs.length+ys.length) ncap 0 _ e
        (by simp[Cx.ay,ah];rfl) acK hcap2 (fun _=>⟨rfl,ade⟩)
       simpa[Cx.ay,ah]using this
     ·obtain⟨hlx,hrx⟩:=rowx.flat acK
      exact tr (P:=P) (U:=U) (tx:=tx) (ty:=ty) (Q:=Q) (a:=a) (cap:=cap) hd htx' i1 i2 i3 z1 z2 z3 c v hs g hy hsrc hsy hb hby hbyte hlx (aT ..) hrx holds acK hz hzf hQ
   ·rename_i id
    obtain⟨hid,hk⟩:=hk;have hcid:=hs _ _ hid;obtain⟨m,p1,p2,p3⟩:=sl.hp;rw[hcid]at p1;simp only[Option.some.injEq,Blk.spare.injEq]at p1;obtain⟨rfl,rfl⟩:=p1;obtain⟨q,rfl,hφ,cs,t,fr,q1,q2⟩:=p3 rfl;have hq1:q.spot=none:=by rw[←hφ];exact(g.spare id _ _ hcid).1
    have hq2:q.block<c.w.heap.size:=(Array.getElem?_eq_some_iff.1 q1).1
    by_cases hroom:xs.length+ys.length≤cap
    ·have hr:=kY (ty:=ty) hd htx' i1 (hlen c.w) age (base:=some q) (n:=xs.length) (cap:=cap) hroom
     obtain⟨bq,oq,sq⟩:=q;simp only at hq1 hq2 q1 q2;subst hq1
     rw[i2]at hr;simp only[cC]at hr;have hcap' :(xs.length+ys.length)*(U e).sz≤cap*(U e).sz:=Nat.mul_le_mul_right _ hroom;rw[Nat.add_mul]at hcap';obtain⟨_,cs1,t1,fr1,s1,s2⟩:=g.spare id _ _ hcid;have hb1:(c.φ id).block=bq:=by rw[hφ]
     have ho1:(c.φ id).off=oq:=by rw[hφ]
     rw[hb1,q1]at s1;cases s1;rw[ho1]at s2;have hst:=run_storeCells_cells (P:=P) bq (oq+xs.length*(U e).sz) (bZ (U e).sz ys.length vy) 0 c.w (fun j hj=>by
      rw[aT]at hj;simp[World.cell?,q1];omega) (fun j hj=>by
      have:=s2 (oq+xs.length*(U e).sz+0+j) acK;simp only[World.frozen?,q1];simpa using this) (IA rowy acK)
     rw[Nat.add_zero]at hst;simp only[hst,Result.andThen_ok]at hr
     by_cases hyn:ys= []
     ·subst hyn
      refine⟨_,_,hr,c,_,_,by simp[bZ,World.setCells],g,.refl c,?_,?_,hk⟩
      ·simpa using sl.rep
      ·intro j l hj
       by_cases ej:j=id
       ·subst ej
        rw[ah]at hj;simp only[List.length_nil,Nat.add_zero]at hj;rw[hcid];exact hj
       ·rw[ag _ _ ej]at hj
        exact hs _ _ hj
     ·have hypos:0<ys.length:=List.length_pos_iff.2 hyn
      have hfill:(c.fill id (oq+xs.length*(U e).sz) (bZ (U e).sz ys.length vy) (.spare (xs.length+ys.length) (U e).sz)).w=c.w.setCells bq (oq+xs.length*(U e).sz) (bZ (U e).sz ys.length vy):=by simp only[Cx.fill,hb1]
      have hE:=Ext.fill (c:=c) id (oq+xs.length*(U e).sz) (bZ (U e).sz ys.length vy) (.spare xs.length (U e).sz) (.spare (xs.length+ys.length) (U e).sz) hcid
       (by simp only[Blk.holds,Blk.start];omega) (.inr ⟨_,_,_,rfl,rfl,acK⟩)
      have hG:=g.Iu id (oq+xs.length*(U e).sz) (bZ (U e).sz ys.length vy) xs.length (xs.length+ys.length) (U e).sz hcid acK acK;refine⟨_,_,hr,c.fill id (oq+xs.length*(U e).sz) (bZ (U e).sz ys.length vy) (.spare (xs.length+ys.length) (U e).sz),_,_,hfill,hG,hE,?_,hs.upd id _,hk⟩;have hl:(xs++ys).length=xs.length+ys.length:=acS;have e0:Value.slice (some ⟨bq,oq,none⟩) (xs.length+ys.length) cap=Value.slice (some ⟨bq,oq,none⟩) (xs++ys).length cap:=by rw[hl]
      rw[e0];have hown:∀x,(owned (c.fill id (oq+xs.length*(U e).sz) (bZ (U e).sz ys.length vy) (.spare (xs.length+ys.length) (U e).sz)) bq x)→oq+(xs.length+ys.length)*(U e).sz≤x:=by
       rintro x ⟨j',k',k1,k2,k3⟩
       by_cases ej:j' =id
       ·subst ej
        simp only[Cx.fill,ah,Option.some.injEq]at k1 k2 k3;subst k1;simp only[Blk.holds,Blk.start]at k3;rw[ho1]at k3;exact k3
       ·simp only[Cx.fill,ag _ _ ej]at k1 k2
        exact(g.inj j' id _ _ k1 hcid ej (k2.trans hb1.symm)).elim
      refine .sl _ _ _ cap (U e).sz (fun i j=>if i<xs.length then vx i j else vy (i - xs.length) j) acK hcm (fun hh=>aea)
       (fun q hq _=>by cases hq;exact⟨rfl,by rw[hfill,nY];exact hq2⟩) (fun i hi=>?_) (fun q hq i j hi hj=>?_) (fun i hi j hj=>?_) (fun i j hi hj=>?_) ?_
      ·rw[List.getElem_append]
       split
       ·exact rowx.hz _ _
       ·exact rowy.hz _ _
      ·cases hq
       have hi2:(i+1)*(U e).sz≤(xs.length+ys.length)*(U e).sz:=Nat.mul_le_mul_right _ acK;rw[Nat.add_mul i,Nat.one_mul]at hi2;refine⟨?_,fun ho=>?_⟩
       ·rw[hfill]
        by_cases hix:i<xs.length
        ·have:(i+1)*(U e).sz≤xs.length*(U e).sz:=Nat.mul_le_mul_right _ acK
         rw[Nat.add_mul,Nat.one_mul]at this;rw[if_pos hix,World.cell?_setCells_out _ _ _ _ _ (fun _ _=> .inl afN)]
         exact(sl.hf _ rfl i j hix hj).1
        ·have h5:xs.length*(U e).sz≤i*(U e).sz:=Nat.mul_le_mul_right _ acK
         have h6:oq+(i*(U e).sz+j)=oq+xs.length*(U e).sz+((i - xs.length)*(U e).sz+j):=by rw[Nat.sub_mul];omega
         have h7:(i - xs.length)*(U e).sz+j<ys.length*(U e).sz:=by have:(i - xs.length+1)*(U e).sz≤ys.length*(U e).sz:=Nat.mul_le_mul_right _ acK;rw[Nat.add_mul,Nat.one_mul]at this;omega
         rw[if_neg hix];simp only[h6];rw[World.cell?_setCells_in bq _ _ c.w (fun j hj=>by rw[aT]at hj;have:oq+xs.length*(U e).sz+j<cs.size:=acK;simp[World.cell?,q1,this]) _ (by rw[aT];exact h7)]
         have:=gJ (val:=vy) (show i - xs.length<ys.length by omega) hj
         rw[List.getElem?_eq_getElem (by rw[aT];exact h7)]at this
         exact adr
       ·have:=hown _ ho
        simp only at this;omega
      ·have hi' :i<xs.length+ys.length:=by omega
       by_cases hix:i<xs.length
       ·simp only[if_pos hix]
        have e2:(xs++ys)[i]=xs[i]:=List.getElem_append_left hix;simp only[e2]at hj⊢;exact(rowx.hr i hix j hj).mono hE
       ·simp only[if_neg hix]
        have e2:(xs++ys)[i]=ys[i - xs.length]:=List.getElem_append_right acK;simp only[e2]at hj⊢;exact(rowy.hr (i - xs.length) acK j hj).mono hE
      ·by_cases hix:i<xs.length
       ·simp only[if_pos hix];exact rowx.ho i j hix hj
       ·simp only[if_neg hix];exact rowy.ho (i - xs.length) j acK hj
      ·obtain⟨cs2,r1,r2⟩:=fB bq (bZ (U e).sz ys.length vy) (oq+xs.length*(U e).sz) c.w cs t fr q1
       exact⟨xs.length+ys.length,by simp[Cx.fill,ah],acK,fun _=>⟨_,rfl,by simp only[Cx.fill];exact hφ,cs2,t,fr,by rw[hfill];exact r1,afN⟩⟩
    ·exact grow acK id (.inr ⟨_,_,_,hcid,rfl,acK⟩) hk
  ·rename_i id off len
   obtain⟨hz1,hk⟩:=hk;obtain⟨ys,hk',hsrc⟩:=qU (P:=P) hz hk;clear hk;obtain⟨hsy,hna,hb,hk⟩:=hk';split at hk
   ·rename_i cs t hid
    obtain⟨hle,hnx,hzf,hza,hQ1,hQ2⟩:=hk;have hcid:=hs _ _ hid;have hsy' :Sized (U e).sz ys:=by rw[hz1];exact hsy
    obtain⟨cap,o',rfl,hc1,hc2,_,cs',t',hcs,hcp⟩:=hx.o9;rw[hcid]at hcs;simp only[Option.some.injEq,Blk.obj.injEq]at hcs;obtain⟨rfl,rfl⟩:=hcs;obtain⟨us,u1,u2,u3⟩:=g.obj id cs t hcid;obtain⟨hyl,vy,rowy,hlen,hfirst⟩:=hsrc c v hs g hy hsy';have hbyte:len+ys.length<lim:=by exact aid
    have hcellsy:∀i (hi:i<ys.length),ys[i].cells= [ys[i]]:=fun i hi=>kZ (hna _ (acF hi))
    by_cases hroom:len+ys.length≤cap
    ·have hr:=kY (ty:=ty) hd htx' i1 (hlen c.w) age (base:=some ⟨(c.φ id).block,o',none⟩) (n:=len) (cap:=cap) hroom
     rw[i2,hz1,Nat.mul_one]at hr;simp only[cC]at hr
     by_cases hyn:ys= []
     ·subst hyn
      refine⟨_,_,hr,c,.oa id off (len+0),_,?_,g,.refl c,.oa id off len cap o' cs t hcid acK hc2 hcp,?_,hQ1 (by simpa using hle)⟩
      ·simp
      ·intro j l hj
       by_cases ej:j=id
       ·subst ej
        rw[ah]at hj;rw[hcid,←hj];simp[over]
       ·rw[ag _ _ ej]at hj
        exact hs _ _ hj
     ·have hypos:0<ys.length:=List.length_pos_iff.2 hyn
      obtain⟨rfl,hcl⟩:=hcp acK;have hget:∀j,j<ys.length→(bZ 1 ys.length vy).getD j undef=vy j 0:=fun j hj=>by
       have:=gJ (sz:=1) (n:=ys.length) (val:=vy) hj (show 0<1 by omega)
       rw[Nat.mul_one,Nat.add_zero]at this;simp[List.getD,this]
      rw[hz1]at rowy;obtain⟨s1,s2⟩:=iY (P:=P) (off:=o' +len) (xs:=ys) (vs:=bZ 1 ys.length vy) (u:=.slice (some ⟨(c.φ id).block,o',none⟩) (len+ys.length) cap) (X:=.oa id o' (len+ys.length)) hs g hid (by simp[aT]) acK
       (fun j hj=>by
        rw[hget j hj];have:=rowy.hr j hj 0 (by rw[hcellsy j hj];simp)
        simp only[hcellsy j hj,List.getElem_singleton]at this;exact⟨this,rowy.ho j 0 hj acK⟩) (fun c' hE=>(Rep.oa id o' (len+ys.length) cap o' cs t hcid hroom hc2 (fun _=>⟨rfl,hcl⟩)).mono hE) (hQ1 acK)
      rw[s1]at hr;exact⟨_,_,hr,s2⟩
    ·
     have hxl:((cs.drop off).take len).length=len:=by rw[List.length_take,List.length_drop];omega
     have hcx:∀i (hi:i<((cs.drop off).take len).length),((cs.drop off).take len)[i].cells= [((cs.drop off).take len)[i]]:=fun i hi=>kZ (hnx _ (acF hi))
     have rowx:Row c ((cs.drop off).take len) (U e).sz (fun i _=>us.getD (off+i) undef):=by
      refine⟨fun i hi=>by rw[hcx i hi,hz1];rfl,fun i hi j hj=>?_,fun i j hi hj=>(u3 (off+i) acK).2⟩
      have hj' :=hj;rw[hcx i hi]at hj';have ej:j=0:=by simp only[List.length_singleton]at hj';omega
      subst ej;have e1:((cs.drop off).take len)[i].cells[0]=cs[off+i]'acK:=by simp only[hcx i hi,List.getElem_singleton];simp
      rw[e1];exact(u3 (off+i) acK).1
     have holds:(Builtin.firstCells i.size ((cs.drop off).take len).length (.slice (some ⟨(c.φ id).block,o',none⟩) ((cs.drop off).take len).length cap)).run P c.w.drew= .ok (bZ (U e).sz ((cs.drop off).take len).length (fun i _=>us.getD (off+i) undef)).toArray c.w.drew:=by
      rw[i2,hz1,hxl]
      by_cases h0:len=0
      ·subst h0
       simp[Builtin.firstCells,bZ,loadCells,loadCellsFrom]
      ·obtain⟨rfl,_⟩:=hcp acK
       have hd1:c.w.drew.heap=c.w.heap:=rfl;have:=run_loadCells (P:=P) c.w.drew ⟨(c.φ id).block,o',none⟩ (len*1) (fun q=>us.getD (o' +q / 1) undef) (fun j hj=>by rw[cC];have:o' +j<us.size:=acK;simp[World.cell?,hd1,u1,this])
       simpa[Builtin.firstCells,bZ]using this
     have:=zG (P:=P) (U:=U) (tx:=tx) (ty:=ty) (Q:=Q) (a:=some ⟨(c.φ id).block,o',none⟩) (cap:=cap) hd htx' i1 i2 i3 z1 z2 z3 c v hs g hy hsrc hsy' (by rw[hxl];exact hb) hby (by rw[hxl];exact hbyte) rowx holds (by rw[hxl];omega) hz1 hzf hza
      (fun z hz=>(List.mem_append.1 hz).elim (hnx z) (hna z)) (by rw[hxl];exact hQ2)
     rwa [hxl]at this
   ·exact ac7
  ·rename_i id off len cap0 sz0
   obtain⟨rfl,hk⟩:=hk;obtain⟨ys,hk',hsrc⟩:=qU (P:=P) hz hk;clear hk;obtain⟨hsy,hb,hk⟩:=hk';split at hk
   ·rename_i cs t hid
    obtain⟨hle,hzf,hQ1,hQ2⟩:=hk;have hcid:=hs _ _ hid;obtain⟨o',rfl,hc1,hc2,cs',t',hcs,hcp⟩:=hx.jq;rw[hcid]at hcs;simp only[Option.some.injEq,Blk.obj.injEq]at hcs;obtain⟨rfl,rfl⟩:=hcs;obtain⟨us,u1,u2,u3⟩:=g.obj id cs t hcid;obtain⟨hyl,vy,rowy,hlen,hfirst⟩:=hsrc c v hs g hy hsy;obtain⟨hly,hry⟩:=rowy.flat acK;have hbyte:len+ys.length<lim:=by exact aid
    by_cases hroom:len+ys.length≤cap0
    ·have hr:=kY (ty:=ty) hd htx' i1 (hlen c.w) age (base:=some ⟨(c.φ id).block,o',none⟩) (n:=len) (cap:=cap0) hroom
     rw[i2]at hr;simp only[cC]at hr
     by_cases hyn:ys= []
     ·subst hyn
      have e0:bZ (U e).sz ([]:List AV).length vy= []:=by simp[bZ]
      rw[e0]at hr;refine⟨_,_,hr,c,.ob id off (len+0) cap0 (U e).sz,_,?_,g,.refl c,.ob id off len cap0 (U e).sz o' cs t hcid acK hc2 hcp,?_,hQ1 (by simpa using hroom)⟩
      ·simp
      ·intro j l hj
       by_cases ej:j=id
       ·subst ej
        rw[ah]at hj;rw[hcid,←hj];simp[over,au]
       ·rw[ag _ _ ej]at hj
        exact hs _ _ hj
     ·have hypos:0<ys.length:=List.length_pos_iff.2 hyn
      obtain⟨rfl,hcl⟩:=hcp acK;have hfits:o' +len*(U e).sz+(au ys).length≤cs.length:=by have:(len+ys.length)*(U e).sz≤cap0*(U e).sz:=Nat.mul_le_mul_right _ hroom;rw[Nat.add_mul]at this;omega
      obtain⟨s1,s2⟩:=iY (P:=P) (off:=o' +len*(U e).sz) (xs:=au ys) (vs:=bZ (U e).sz ys.length vy) (u:=.slice (some ⟨(c.φ id).block,o',none⟩) (len+ys.length) cap0) (X:=.ob id o' (len+ys.length) cap0 (U e).sz) hs g hid (by rw[aT,hly]) hfits
       hry (fun c' hE=>(Rep.ob id o' (len+ys.length) cap0 (U e).sz o' cs t hcid hroom hc2 (fun _=>⟨rfl,hcl⟩)).mono hE) (hQ1 hroom)
      rw[s1]at hr;exact⟨_,_,hr,s2⟩
    ·have hxl:((cs.drop off).take (len*(U e).sz)).length=len*(U e).sz:=by rw[List.length_take,List.length_drop];omega
     have holds:(Builtin.firstCells i.size len (.slice (some ⟨(c.φ id).block,o',none⟩) len cap0)).run P c.w.drew= .ok ((List.range (len*(U e).sz)).map fun q=>us.getD (off+q) undef).toArray c.w.drew:=by
      rw[i2]
      by_cases h0:len=0
      ·subst h0
       simp[Builtin.firstCells,loadCells,loadCellsFrom]
      ·exact ahf
     exact tr (P:=P) (U:=U) (tx:=tx) (ty:=ty) (Q:=Q) (a:=some ⟨(c.φ id).block,o',none⟩) (cap:=cap0) (m:=len) hd htx' i1 i2 i3 z1 z2 z3 c v hs g hy hsrc hsy hb hby hbyte hxl acS (fun j hj=>by
       have hj2:j<len*(U e).sz:=acK;have e2:((cs.drop off).take (len*(U e).sz))[j]=cs[off+j]'acK:=acS;have e3:((List.range (len*(U e).sz)).map fun q=>us.getD (off+q) undef).getD j undef=us.getD (off+j) undef:=by simp[List.getD_eq_getElem?_getD,hj2]
       rw[e2,e3];exact u3 _ _) holds acK hz hzf (hQ2 acK)
   ·exact ac7
  ·exact ac7
 ·exact ac7
theorem HR(hU:∀t,aO P U t){h:Heap}(htx:(U tx).k= .int ki)(hk:Ep U h ts x y Q)(c:Cx)(u v:Value)
  (hs:Sub h c.h) (g:Good c) (hx:Rep c x u) (hy:Rep c y v):
  ∃r w',(Builtin.append_ #[ts,tx] ty #[u,v]).run P c.w= .ok r w'∧eT c Q r w' :=by
 unfold Ep at hk;have hd:=(hU ts).desc;have hdx:=(hU tx).desc;rw[htx]at hdx;split at hk
 ·rename_i e hty
  rw[hty]at hd;split at hk
  ·rename_i id off len cap0 sz0
   split at hk
   ·rename_i kk n
    obtain⟨hz,hby,rfl,hn,hb,hzf,hgr,hk⟩:=hk;split at hk
    ·rename_i cs t hid
     obtain⟨hle,hQ⟩:=hk;obtain⟨i,i1,i2,i3,z,z1,z2,z3⟩:=(hU e).info hz;have hcid:=hs _ _ hid;obtain⟨o',rfl,hc1,hc2,cs',t',hcs,hcp⟩:=hx.jq;rw[hcid]at hcs;simp only[Option.some.injEq,Blk.obj.injEq]at hcs;obtain⟨rfl,rfl⟩:=hcs;obtain⟨us,u1,u2,u3⟩:=g.obj id cs t hcid;have hbyte:len+n.toNat<lim:=by have:(len+n.toNat)≤(len+n.toNat)*(U e).bytes:=Nat.le_mul_of_pos_right _ acK;simp only[lim];omega
     have hxl:((cs.drop off).take (len*(U e).sz)).length=len*(U e).sz:=acL;have holds:(Builtin.firstCells i.size len (.slice (some ⟨(c.φ id).block,o',none⟩) len cap0)).run P c.w.drew= .ok ((List.range (len*(U e).sz)).map fun q=>us.getD (off+q) undef).toArray c.w.drew:=by
      rw[i2]
      by_cases h0:len=0
      ·simp_all [Builtin.firstCells,loadCells,loadCellsFrom]
      ·exact ahf
     obtain rfl:=hy.bS;have hn' :n=(n.toNat:Int):=acK;rw[hn'];exact C6 (P:=P) (U:=U) (tx:=tx) (ty:=ty) (Q:=Q) (a:=some ⟨(c.φ id).block,o',none⟩) (cap:=cap0) (m:=len) (n:=n.toNat) hd hdx i1 i2 i3 z1 z2 z3 c hs g acK hb hby hbyte hxl acS acL holds acK hz hzf hQ
    ·exact ac7
   ·exact ac7
  ·exact ac7
 ·exact ac7
end
end Go.Ab
