/- The law ShowApart: pack 4 of its texts. -/
import Derived.Shelf.Strings.OnBuilder
import Derived.Shelf.Small.Wraps
import Derived.Shelf.Strconv.Itoa3
import Derived.Test.YtcgcjihjhlenkaaDoorProg
import Derived.KernelRfl
import Derived.Lib.ItoaLen
import Derived.Shelf.Strings.BuilderK
import Derived.Test.YtcgcjihjhlenkaaDoorChecked
import Derived.WalkKit
import Derived.BigCall
import Derived.StillTailTactics
import Derived.Test.YtcgcjihjhlenkaaDoorPk1
import Derived.Test.YtcgcjihjhlenkaaDoorPk2
import Derived.Test.YtcgcjihjhlenkaaDoorPk3
set_option linter.unusedSimpArgs false
set_option linter.unusedVariables false
namespace Go.Bf
open Go Go.Ab
theorem tree_len {l:List NodeD} {b:Bool} {t:Txt} {k:List TokD} (h:Tree l b t k):l.length≤k.length:=by
 induction h with
 |lit v h hi=>simp
 |attr a h=>simp [attrK]
 |one ho h ih=>simp only [List.length_append,List.length_cons,List.length_nil]; omega
 |two ho h1 h2 ih1 ih2=>simp only [List.length_append,List.length_cons,List.length_nil]; omega
theorem rd_cond {st:PS} {l:List NodeD} {k:TokD} {ks:List TokD} (hl:exprE l=0) (hi:inL l) (h:At st (condK l++k::ks)) (h1:isK k [33]=false) (h2:isK k ifT=false):Reads (condP st) st l (k::ks):=by
 unfold condK at h
 unfold condP
 by_cases h0:l= []
 ·subst h0
  simp only [if_true,List.nil_append] at h
  rw [at_is h,if_neg (by rw [h2]; decide)]
  exact ⟨st,rfl,h, .refl _⟩
 ·rw [if_neg h0] at h
  simp only [List.cons_append,List.nil_append] at h
  have ht:=expr_tree hl h0 hi
  have hlen:=at_len h
  have htl:=tree_len ht
  simp only [List.length_append,List.length_cons] at hlen
  have h32:=(exprE_zero hl h0).1
  rw [at_is h,if_pos (by decide)]
  obtain ⟨a0,t0⟩:=at_next h
  obtain ⟨s1,e1,a1,t1⟩:=rd_tree ht st.ts.length (nextD st) [] k ks a0 h1 (by omega) (by simpa using h32)
  unfold operG
  rw [e1]
  exact ⟨s1,rfl,a1,t0.trans t1⟩
theorem hd_obls (l:List OblD) (x:TokD) (ks:List TokD):∃y r,oblsK l++x::ks=y::r∧(y=wdK [111,110]∨y=x):=by
 cases l with
 |nil=>exact ⟨_,_,rfl, .inr rfl⟩
 |cons o r=>exact ⟨_,_,rfl, .inl rfl⟩
theorem hd_cond (l:List NodeD) (x:TokD) (ks:List TokD):∃y r,condK l++x::ks=y::r∧(y=wdK [105,102]∨y=x):=by
 unfold condK
 by_cases h0:l= []
 ·rw [if_pos h0]; exact ⟨_,_,rfl, .inr rfl⟩
 ·rw [if_neg h0]; exact ⟨_,_,rfl, .inl rfl⟩
theorem rd_rule {st:PS} {r:RuleD} {ks:List TokD} (hr:ruleE r) (hi:inR r) (h:At st (wdK r.id::(tgtK r.tgt++condK r.cond++oblsK r.obls++ [mkK 59]++ks))):Reads (ruleP r.deny st) st r ks:=by
 obtain ⟨_,htg,hcn,hob⟩:=hr
 obtain ⟨s1,e1,a1,t1⟩:=rd_name h
 simp only [List.append_assoc,List.cons_append,List.nil_append] at a1
 obtain ⟨y,ry,ey,hy⟩:=hd_obls r.obls (mkK 59) ks
 obtain ⟨z,rz,ez,hz⟩:=hd_cond r.cond y ry
 rw [ey,ez] at a1
 have zc:isK z andT=false∧isK z whenT=false:=by
  rcases hz with rfl|rfl
  ·decide
  ·rcases hy with rfl|rfl<;>decide
 obtain ⟨s2,e2,a2,t2⟩:=rd_tgt htg a1 zc.1 zc.2
 rw [←ez] at a2
 have yc:isK y [33]=false∧isK y ifT=false:=by rcases hy with rfl|rfl<;>decide
 obtain ⟨s3,e3,a3,t3⟩:=rd_cond hcn hi.2 a2 yc.1 yc.2
 rw [←ey] at a3
 obtain ⟨s4,e4,a4,t4⟩:=rd_obls hob a3 (by decide)
 obtain ⟨a5,t5⟩:=rd_must (w:= [59]) a4 rfl
 refine ⟨mustD s4 [59], ?_,a5,(((t1.trans t2).trans t3).trans t4).trans t5⟩
 unfold ruleP
 rw [e1]; simp only
 rw [e2]; simp only
 rw [e3]; simp only
 rw [e4]
def ReadsR {α:Type} (r:α×PS) (st:PS) (x:α) (n:Nat) (ks:List TokD):Prop:=∃st',r=(x,st')∧At st' ks∧st'.rules=st.rules+n∧st'.ts=st.ts
theorem rd_some:∀(rs:List RuleD) (f:Nat) (st:PS) (l:List RuleD) (k:TokD) (ks:List TokD),(∀r∈rs,ruleE r∧inR r)→At st ((rs.map ruleK).flatten++k::ks)→isK k permitT=false→isK k denyT=false→rs.length<f→l.length+rs.length≤16→st.rules+rs.length≤64→
  ReadsR (someF f st l) st (l++rs) rs.length (k::ks)
 | [],f,st,l,k,ks,_,h,k1,k2,hf,_,_=>by
  obtain ⟨g,rfl⟩:∃g,f=g+1:=⟨f - 1,by simp at hf; omega⟩
  simp only [List.map_nil,List.flatten_nil,List.nil_append] at h
  unfold someF
  rw [at_is h,at_is h,if_neg (by rw [k1,k2]; decide)]
  exact ⟨st,by simp,h,by simp,rfl⟩
 |r::rs,f,st,l,k,ks,hr,h,k1,k2,hf,hl,hn=>by
  obtain ⟨g,rfl⟩:∃g,f=g+1:=⟨f - 1,by simp at hf; omega⟩
  simp only [List.length_cons] at hf hl hn
  simp only [List.map_cons,List.flatten_cons,ruleK,List.append_assoc,List.cons_append,List.nil_append] at h
  have b1:=at_is h permitT
  have b2:=at_is h denyT
  have hde:isK (wdK (effW r.deny)) denyT=r.deny∧(isK (wdK (effW r.deny)) permitT=true∨isK (wdK (effW r.deny)) denyT=true):=by
   cases r.deny<;>decide
  rw [hde.1] at b2
  have hor:isD st permitT=true∨isD st denyT=true:=by
   rw [b1,b2]
   rcases hde.2 with h|h
   ·exact .inl h
   ·rw [hde.1] at h; exact .inr h
  obtain ⟨a0,t0⟩:=at_next h
  have a0' :At {nextD st with rules:=st.rules+1} (wdK r.id::(tgtK r.tgt++condK r.cond++oblsK r.obls++ [mkK 59]++((rs.map ruleK).flatten++k::ks))):=by
   have:At (nextD st) (wdK r.id::(tgtK r.tgt++condK r.cond++oblsK r.obls++ [mkK 59]++((rs.map ruleK).flatten++k::ks))):=by simpa using a0
   exact this
  obtain ⟨s1,e1,a1,t1⟩:=rd_rule (hr r (by simp)).1 (hr r (by simp)).2 a0'
  have hru:s1.rules=st.rules+1:=t1.1
  have hts:s1.ts=st.ts:=t1.2
  obtain ⟨s2,e2,a2,t2,t3⟩:=rd_some rs g s1 (l++ [r]) k ks (fun x hx=>hr x (by simp [hx])) a1 k1 k2 (by omega) (by rw [List.length_append,List.length_singleton]; omega) (by omega)
  refine ⟨s2, ?_,a2,by rw [t2,hru]; simp only [List.length_cons]; omega,by rw [t3,hts]⟩
  unfold someF
  rw [if_pos hor,if_neg (by omega),b2,e1]
  simp only
  rw [e2,List.append_assoc]; rfl
mutual
def nR:PolD→Nat
 | .mk id set alg tgt rules kids obls=>rules.length+nRK kids
def nRK:List PolD→Nat
 | []=>0
 |k::r=>nR k+nRK r
end
theorem idx_alg {n:Int} (h1:1≤n) (h4:n≤6):∃i,idxT (algW n) algWs=some i∧(i:Int)+1=n:=by
 have:n=1∨n=2∨n=3∨n=4∨n=5∨n=6:=by omega
 rcases this with rfl|rfl|rfl|rfl|rfl|rfl
 ·exact ⟨0,rfl,rfl⟩
 ·exact ⟨1,rfl,rfl⟩
 ·exact ⟨2,rfl,rfl⟩
 ·exact ⟨3,rfl,rfl⟩
 ·exact ⟨4,rfl,rfl⟩
 ·exact ⟨5,rfl,rfl⟩
theorem rd_head {st:PS} {id:Txt} {set:Bool} {alg:Int} {tgt:TgtD} {ks:List TokD} (h1:1≤alg) (h6:alg≤6) (ht:tgtE tgt=0) (h:At st (wdK (kindW set)::wdK id::wdK (algW alg)::(tgtK tgt++mkK 123::ks))):Reads (headP st) st (set,id,alg,tgt) ks:=by
 have hk:∃i,idxT (kindW set) kindWs=some i∧(((i:Int)+1)==2)=set:=by
  cases set
  ·exact ⟨0,rfl,rfl⟩
  ·exact ⟨1,rfl,rfl⟩
 obtain ⟨i,hi,hi2⟩:=hk
 obtain ⟨j,hj,hj2⟩:=idx_alg h1 h6
 obtain ⟨s1,e1,a1,t1⟩:=rd_among h hi
 obtain ⟨s2,e2,a2,t2⟩:=rd_name a1
 obtain ⟨s3,e3,a3,t3⟩:=rd_among a2 hj
 obtain ⟨s4,e4,a4,t4⟩:=rd_tgt ht a3 (by decide) (by decide)
 obtain ⟨a5,t5⟩:=rd_must (w:= [123]) a4 rfl
 refine ⟨mustD s4 [123], ?_,a5,(((t1.trans t2).trans t3).trans t4).trans t5⟩
 unfold headP
 rw [e1]; simp only
 rw [e2]; simp only
 rw [e3]; simp only
 rw [e4]
 simp only [hi2,hj2]
theorem hd_pol (p:PolD) (ks:List TokD):∃set r,polK p++ks=wdK (kindW set)::r:=by
 cases p; exact ⟨_,_,rfl⟩
theorem rd_kids {pol:PoF} {dp:Bool}:∀(xs:List PolD) (f:Nat) (st:PS) (l:List PolD) (k:TokD) (ks:List TokD),
  (∀p∈xs,∀st k ks,At st (polK p++k::ks)→isK k onceT=false→st.rules+nR p≤64→ReadsR (pol st) st p (nR p) (k::ks))→
  At st (kidsTK xs++k::ks)→isK k policyT=false→isK k setT=false→isK k onceT=false→xs.length<f→l.length+xs.length≤16→st.rules+nRK xs≤64→(xs≠ []→dp=false)→ReadsR (kidsF pol dp f st l) st (l++xs) (nRK xs) (k::ks)
 | [],f,st,l,k,ks,_,h,k1,k2,_,hf,_,_,_=>by
  obtain ⟨g,rfl⟩:∃g,f=g+1:=⟨f - 1,by simp at hf; omega⟩
  simp only [kidsTK,List.nil_append] at h
  unfold kidsF
  rw [at_is h,at_is h,if_neg (by rw [k1,k2]; decide)]
  exact ⟨st,by simp,h,by simp [nRK],rfl⟩
 |p::xs,f,st,l,k,ks,hp,h,k1,k2,k3,hf,hl,hn,hd=>by
  obtain ⟨g,rfl⟩:∃g,f=g+1:=⟨f - 1,by simp at hf; omega⟩
  simp only [List.length_cons] at hf hl
  simp only [nRK] at hn
  have hdp:=hd (by simp)
  subst hdp
  simp only [kidsTK,List.append_assoc] at h
  have hor:isD st policyT=true∨isD st setT=true:=by
   obtain ⟨set,r,e⟩:=hd_pol p (kidsTK xs++k::ks)
   rw [e] at h
   rw [at_is h,at_is h]
   cases set<;>decide
  have hone:ReadsR (pol st) st p (nR p) (kidsTK xs++k::ks):=by
   cases xs with
   |nil=>exact hp p (by simp) st k ks h k3 (by omega)
   |cons q xs=>
    obtain ⟨set,r,e⟩:=hd_pol q (kidsTK xs++k::ks)
    have e2:kidsTK (q::xs)++k::ks=wdK (kindW set)::r:=by rw [←e]; simp [kidsTK]
    rw [e2] at h⊢
    exact hp p (by simp) st _ _ h (by cases set<;>decide) (by omega)
  obtain ⟨s1,e1,a1,r1,t1⟩:=hone
  obtain ⟨s2,e2,a2,r2,t2⟩:=rd_kids xs g s1 (l++ [p]) k ks (fun x hx=>hp x (by simp [hx])) a1 k1 k2 k3 (by omega) (by rw [List.length_append,List.length_singleton]; omega) (by omega) (fun _=>rfl)
  refine ⟨s2, ?_,a2,by rw [r2,r1]; simp only [nRK]; omega,by rw [t2,t1]⟩
  unfold kidsF
  rw [if_pos hor,if_neg (by simp; omega),e1]
  simp only
  rw [e2,List.append_assoc]; rfl
theorem rd_pol:∀(r:Nat) (p:PolD) (d:Nat),polE d p→inP p→d+r=5→∀st k ks,At st (polK p++k::ks)→isK k onceT=false→st.rules+nR p≤64→ReadsR (polF r st) st p (nR p) (k::ks)
 |0,p,d,h,_,hd,_,_,_,_,_,_=>by
  cases p
  simp only [polE] at h
  omega
 |r+1, .mk id set alg tgt rules kids obls,d,h,hi,hd,st,k,ks,ha,hk,hn=>by
  simp only [polE] at h
  obtain ⟨hd4,_,h1,h6,hset,hnset,htg,hob,hr16,hk16,hru,hki⟩:=h
  simp only [inP] at hi
  simp only [nR] at hn⊢
  simp only [polK,List.append_assoc,List.cons_append,List.nil_append] at ha
  obtain ⟨s1,e1,a1,t1⟩:=rd_head h1 h6 htg ha
  have hbody:∃s2,bodyP (polF r) (r==0) set s1=((rules,kids),s2)∧At s2 (mkK 125::(oblsK obls++k::ks))∧s2.rules=s1.rules+(rules.length+nRK kids)∧s2.ts=s1.ts:=by
   cases set
   ·obtain ⟨hk0,_⟩:=hnset rfl
    subst hk0
    simp only [kidsTK,List.nil_append] at a1
    obtain ⟨s2,e2,a2,r2,t2⟩:=rd_some rules 17 s1 [] (mkK 125) _ (fun x hx=>⟨hru x hx,hi.2.1 x hx⟩) a1 (by decide) (by decide) (by omega) (by simpa using hr16) (by rw [t1.1]; simp only [nRK] at hn; omega)
    refine ⟨s2, ?_,a2,by rw [r2]; simp [nRK],t2⟩
    unfold bodyP
    rw [if_neg (by decide),e2]; rfl
   ·have hr0:=hset rfl
    subst hr0
    simp only [List.map_nil,List.flatten_nil,List.nil_append] at a1
    have hke:=(kidsE_eq (d+1) kids).1 hki
    have hik:=(inK_eq kids).1 hi.2.2
    obtain ⟨s2,e2,a2,r2,t2⟩:=rd_kids (pol:=polF r) (dp:=(r==0)) kids 17 s1 [] (mkK 125) _ (fun p hp st k ks ha hk hn=>rd_pol r p (d+1) (hke p hp) (hik p hp) (by omega) st k ks ha hk hn) a1 (by decide) (by decide) (by decide) (by omega) (by simpa using hk16) (by rw [t1.1]; simp only [List.length_nil] at hn; omega) (fun hne=>by
     obtain ⟨q,hq⟩:=List.exists_mem_of_ne_nil _ hne
     have:=hke q hq
     cases q
     simp only [polE] at this
     simp; omega)
    refine ⟨s2, ?_,a2,by rw [r2]; simp,t2⟩
    unfold bodyP
    rw [if_pos rfl,e2]; rfl
  obtain ⟨s2,e2,a2,r2,t2⟩:=hbody
  obtain ⟨a3,t3⟩:=rd_must (w:= [125]) a2 rfl
  obtain ⟨s4,e4,a4,t4⟩:=rd_obls hob a3 hk
  refine ⟨s4, ?_,a4,by rw [t4.1,t3.1,r2,t1.1],by rw [t4.2,t3.2,t2,t1.2]⟩
  unfold polF
  rw [e1]
  simp only
  rw [e2]
  simp only
  rw [e4]
end Go.Bf

set_option linter.unusedVariables false
namespace Go.Bf
open Go Go.Ab
end Go.Bf

set_option linter.unusedSimpArgs false
set_option linter.unusedVariables false
namespace Go.Bf
open Go Go.Ab
theorem meetD_rules {m m' :MetD} {s:Txt} (h:meetD m s=some m'):m'.rules=m.rules:=by
 unfold meetD at h
 split at h
 ·cases h; rfl
 ·cases h
theorem ruleW_rules {m m' :MetD} {r:RuleD} (h:ruleW m r= .ok m'):m'.rules=m.rules+1∧m'.rules≤64:=by
 unfold ruleW at h
 split at h
 ·cases h
 ·rename_i m1 hm
  have:=meetD_rules hm
  split at h
  ·cases h
  ·obtain ⟨h1,h⟩:=need_ok' h
   obtain ⟨h2,h⟩:=need_ok' h
   obtain ⟨h3,h⟩:=need_ok' h
   cases h
   simp only
   omega
theorem rulesW_rules:∀(l:List RuleD) (m m' :MetD),rulesW m l= .ok m'→m.rules≤64→m'.rules=m.rules+l.length∧m'.rules≤64
 | [],m,m',h,h0=>by simp only [rulesW] at h; cases h; exact ⟨rfl,h0⟩
 |x::l,m,m',h,h0=>by
  simp only [rulesW] at h
  cases hx:ruleW m x with
  |bad e=>rw [hx] at h; cases h
  |ok m1=>
   rw [hx] at h
   obtain ⟨a1,a2⟩:=ruleW_rules hx
   obtain ⟨b1,b2⟩:=rulesW_rules l m1 m' h a2
   exact ⟨by rw [b1,a1,List.length_cons]; omega,b2⟩
mutual
theorem polW_cnt:∀(p:PolD) (d:Nat) (m m' :MetD),polW m d p= .ok m'→m.rules≤64→m'.rules=m.rules+nR p∧m'.rules≤64
 | .mk id set alg tgt rules kids obls,d,m,m',h,h0=>by
  simp only [polW] at h
  split at h
  ·cases h
  split at h
  ·cases h
  rename_i m1 h1
  split at h
  ·cases h
  rename_i m2 h2
  have e1:=meetD_rules (headW_ok' h1).1
  obtain ⟨a1,a2⟩:=rulesW_rules _ _ _ h2 (by omega)
  obtain ⟨b1,b2⟩:=kidsW_cnt kids (d+1) m2 m' h a2
  simp only [nR]
  exact ⟨by omega,b2⟩
theorem kidsW_cnt:∀(l:List PolD) (d:Nat) (m m' :MetD),kidsW m d l= .ok m'→m.rules≤64→m'.rules=m.rules+nRK l∧m'.rules≤64
 | [],d,m,m',h,h0=>by simp only [kidsW] at h; cases h; exact ⟨rfl,h0⟩
 |k::r,d,m,m',h,h0=>by
  simp only [kidsW] at h
  split at h
  ·cases h
  rename_i m1 h1
  obtain ⟨a1,a2⟩:=polW_cnt k d m m1 h1 h0
  obtain ⟨b1,b2⟩:=kidsW_cnt r d m1 m' h a2
  simp only [nRK]
  exact ⟨by omega,b2⟩
end
theorem rulesW_ne:∀(l:List RuleD) (m:MetD) (e:Int),rulesW m l= .bad e→e≠0
 | [],_,_,h=>by cases h
 |x::l,m,e,h=>by
  simp only [rulesW] at h
  cases hx:ruleW m x with
  |bad e' =>rw [hx] at h; cases h; exact ruleW_bad hx
  |ok m1=>rw [hx] at h; exact rulesW_ne l m1 e h
mutual
theorem polW_ne:∀(p:PolD) (d:Nat) (m:MetD) (e:Int),polW m d p= .bad e→e≠0
 | .mk id set alg tgt rules kids obls,d,m,e,h=>by
  simp only [polW] at h
  split at h
  ·cases h; decide
  split at h
  ·rename_i h1; cases h; exact headW_bad h1
  split at h
  ·rename_i h1; cases h; exact rulesW_ne _ _ _ h1
  ·exact kidsW_ne _ _ _ _ h
theorem kidsW_ne:∀(l:List PolD) (d:Nat) (m:MetD) (e:Int),kidsW m d l= .bad e→e≠0
 | [],_,_,_,h=>by simp only [kidsW] at h; cases h
 |k::r,d,m,e,h=>by
  simp only [kidsW] at h
  split at h
  ·rename_i h1; cases h; exact polW_ne k d m _ h1
  ·exact kidsW_ne _ _ _ _ h
end
theorem right_form {p:PolD} (h:rightE p=0):polE 1 p∧nR p≤64:=by
 unfold rightE at h
 cases hw:polW ⟨[],0⟩ 1 p with
 |bad e=>rw [hw] at h; exact absurd h (polW_ne p 1 _ _ hw)
 |ok m=>
  refine ⟨polW_ok p 1 _ m hw, ?_⟩
  have:=polW_cnt p 1 _ m hw (by decide)
  simp only [Nat.zero_add] at this
  omega
theorem parse_tokens {p:PolD} (h:rightE p=0) (hi:inP p) {ts:List TokD} (ht:ts.map er=polK p++ [endK]) (s:Txt):parseT s ts=(p,0,0):=by
 obtain ⟨hp,hn⟩:=right_form h
 have ha:At ⟨ts,0,0,0,0⟩ (polK p++endK:: []):=⟨rfl,by simpa using ht⟩
 obtain ⟨s1,e1,a1,_,_⟩:=rd_pol 4 p 1 hp hi rfl _ endK [] ha (by decide) (by simpa using hn)
 have hk:(hereD s1).kind=7:=(at_here a1).1
 have he:endP s (polF 4 ⟨ts,0,0,0,0⟩)=s1:=by
  rw [e1]
  unfold endP
  simp only [hk,if_true]
  rw [if_neg (fun hh=>hh.2 h)]
 unfold parseT
 rw [he,if_pos a1.1,e1]
theorem polT_inj {p q:PolD} (hp:rightE p=0) (hq:rightE q=0) (ip:inP p) (iq:inP q) (h:polT p=polT q):p=q:=by
 obtain ⟨ts,h1,h2⟩:=lex_pol (right_form hp).1 ip (f:=(polT p).length+1) (by omega)
 obtain ⟨ts',h3,h4⟩:=lex_pol (right_form hq).1 iq (f:=(polT p).length+1) (by rw [h]; omega)
 rw [←h,h1] at h3
 cases h3
 have a:=parse_tokens hp ip h2 []
 have b:=parse_tokens hq iq h4 []
 rw [a] at b
 exact (Prod.mk.inj b).1
end Go.Bf

set_option linter.unusedSimpArgs false
set_option linter.unusedVariables false
namespace Go.Bf
open Go Go.Ab
def withinD (m:Int) (b:Nat):Nat:=(if m.tmod (b+1)<0 then m.tmod (b+1)+(b+1) else m.tmod (b+1)).toNat
theorem withinD_le (m:Int) (b:Nat):withinD m b≤b:=by
 have t1:=Int.tmod_lt_of_pos m (show (0:Int)<b+1 by omega)
 have t2:=Int.lt_tmod_of_pos m (show (0:Int)<b+1 by omega)
 unfold withinD
 split<;>omega
end Go.Bf

set_option linter.unusedSimpArgs false
set_option linter.unusedVariables false
namespace Go.Proofs.YtcgcjihjhlenkaaDoor
open Go Go.Ab Go.Bf
theorem within_ok (m:Int) (b:Nat) (h:Heap) (hm' : -9223372036854775808≤m∧m≤9223372036854775807) (hb:b≤1000000):
  FnOK Tryd.prog 8 [.v (.int .i64 m), .v (.int .i64 0), .v (.int .i64 b)] h fun r h' =>r= .v (.int .i64 (withinD m b))∧h' =h:=by
 have w0:IntKind.i64.wrap ((b:Int) - 0)=b:=IntWalk.i64_in _ (by omega)
 have w1:IntKind.i64.wrap (b:Int)=b:=IntWalk.i64_in _ (by omega)
 have w2:IntKind.i64.wrap ((b:Int)+1)=(b:Int)+1:=IntWalk.i64_in _ (by omega)
 have t1:=Int.tmod_lt_of_pos m (show 0<(b:Int)+1 by omega)
 have t2:=Int.lt_tmod_of_pos m (show 0<(b:Int)+1 by omega)
 have hd:(withinD m b:Int)=if m.tmod (b+1)<0 then m.tmod (b+1)+(b+1) else m.tmod (b+1):=by
  unfold withinD; split<;>omega
 generalize hq:m.tmod ((b:Int)+1)=q at t1 t2 hd
 have w3:IntKind.i64.wrap (q+b)=q+b:=IntWalk.i64_in _ (by omega)
 have w4:IntKind.i64.wrap (q+b - 0)=q+b:=by rw [Int.sub_zero]; exact w3
 have w5:IntKind.i64.wrap (q+b+1)=q+b+1:=IntWalk.i64_in _ (by omega)
 refine FnOK.body hU hm Tryd.func8 rfl (by kernel_rfl) 24 rfl [.tmp 6] rfl (Nat.le_of_ble_eq_true rfl) (fun hwf=> ?_)
 simp -implicitDefEqProofs only [go_sem,w0,w1,w2,hq,Int.sub_zero]
 refine ⟨by omega, .intro (fun e=> ?_) (fun e=> ?_)⟩
 ·have e:=of_decide_eq_true e
  rw [if_pos e] at hd
  simp -implicitDefEqProofs only [go_sem,w3,w4,w5,Int.sub_zero]
  have w6:IntKind.i64.wrap (0+(q+b+1))=q+b+1:=by rw [Int.zero_add]; exact w5
  have w7:IntKind.i64.wrap (q+b+1)=q+b+1:=IntWalk.i64_in _ (by omega)
  simp -implicitDefEqProofs only [go_sem,w6,w7,Int.zero_add]
  exact .same (.refl _) ⟨by rw [hd]; simp only [oneOr]; rw [Int.add_assoc],rfl⟩
 ·have e:=of_decide_eq_false e
  rw [if_neg e] at hd
  have w7:IntKind.i64.wrap q=q:=IntWalk.i64_in q (by omega)
  have w6:IntKind.i64.wrap (0+q)=q:=by rw [Int.zero_add]; exact w7
  simp -implicitDefEqProofs only [go_sem,w6,w7,Int.zero_add]
  exact .same (.refl _) ⟨by rw [hd]; rfl,rfl⟩
end Go.Proofs.YtcgcjihjhlenkaaDoor

set_option linter.unusedSimpArgs false
set_option linter.unusedVariables false
namespace Go.Proofs.YtcgcjihjhlenkaaDoor
open Go Go.Ab Go.Bf
def LO (n:Int):Blk:= .obj [.v (.int .i64 n)] 43
def LC (f:FuncId) (args:List AV):Prop:=∀(h:Heap) (id:Nat) (n:Int),h id=some (LO n)→FnOK Tryd.prog f (.ptr id 0::args) h fun r h' =>(∃b,r= .v (.bool b))∧Keeps [id] h h'∧∃n',h' id=some (LO n')
theorem keeps_upd {h:Heap} {id:Nat} (b:Option Blk):Keeps [id] h (upd h id b):=fun j k hj hb=>by
 rw [upd_other _ _ (by simpa using hj)]; exact hb
theorem sl_len {ρ:Env} (hw:Wf ρ) {t:Nat} {xs:List AV} {p:Perm} (h:lk ρ t=some (.sl xs p)):xs.length<9223372036854775808:=by
 have:=hw t _ h
 simpa only [wfA,wf1,lim] using this
theorem take_up {i:Nat} {n:Nat} (h:i<n) (hn:n<9223372036854775808):IntKind.i64.wrap ((i:Int)+1)=((i+1:Nat):Int):=by rw [wr64 _ (by omega)]; omega
theorem takes_ok (m:Int):LC 18 [.v (.int .i64 m)]:=fun h id n hid=>by
 refine FnOK.body hU hm Tryd.func18 rfl (by kernel_rfl) 20 rfl [.tmp 4] rfl (Nat.le_of_ble_eq_true rfl) (fun hwf=> ?_)
 have g:=hid
 unfold LO at g
 cases d1:decide (n<m)
 ·simp -implicitDefEqProofs only [go_sem,g,d1]
  exact .same (.refl _) ⟨⟨_,rfl⟩,keeps_upd _,_,upd_same ..⟩
 ·simp -implicitDefEqProofs only [go_sem,g,d1]
  exact .same (.refl _) ⟨⟨_,rfl⟩, .of (.refl _),n,hid⟩
theorem ltext_ok (s:Txt):LC 19 [.s s]:=fun h id n hid=>by
 refine FnOK.body hU hm Tryd.func19 rfl (by kernel_rfl) 11 rfl [.tmp 4] rfl (Nat.le_of_ble_eq_true rfl) (fun hwf=> ?_)
 simp -implicitDefEqProofs only [go_sem]
 refine ⟨by decide, ?_⟩
 refine (takes_ok _ h id n hid).mono fun r h1 ⟨⟨b,hb⟩,hk,n1,hid1⟩=> ?_
 subst hb
 simp -implicitDefEqProofs only [go_sem]
 exact .same (.refl _) ⟨⟨_,rfl⟩,hk,n1,hid1⟩
theorem lobls_ok (l:List OblD):LC 21 [oblsA l]:=fun h id n hid=>by
 refine FnOK.body hU hm Tryd.func21 rfl (by kernel_rfl) 24 rfl [.tmp 4] rfl (Nat.le_of_ble_eq_true rfl) (fun hwf=> ?_)
 simp -implicitDefEqProofs only [go_sem,oblsA,List.length_map]
 refine (takes_ok _ h id n hid).mono fun r h1 ⟨⟨b,hb⟩,hk,n1,hid1⟩=> ?_
 subst hb
 cases b
 ·simp -implicitDefEqProofs only [go_sem]
  exact .same (.refl _) ⟨⟨_,rfl⟩,hk,n1,hid1⟩
 simp -implicitDefEqProofs only [go_sem,List.length_map]
 refine .wf fun hw=> ?_
 have hml:=sl_len (t:=12) (xs:=l.map oblA) (p:= .no) hw (by simp -implicitDefEqProofs only [go_sem])
 rw [List.length_map] at hml
 refine .intro (fun m ρ H=>(Keeps [id] h H∧∃n',H id=some (LO n'))∧∃i:Nat,i≤l.length∧m=l.length - i∧lk ρ 0=some (.ptr id 0)∧lk ρ 12=some (.sl (l.map oblA) .no)∧lk ρ 13=some (.v (.int .i64 l.length))∧lk ρ 14=some (.v (.int .i64 i))) l.length ?_ ?_
 ·refine ⟨⟨hk,n1,hid1⟩,0,Nat.zero_le _,rfl, ?_, ?_, ?_, ?_⟩<;>simp -implicitDefEqProofs only [go_sem]<;>rfl
 rintro m ρ H ⟨⟨hkH,n2,hidH⟩,i,hi,rfl,r0,r12,r13,r14⟩
 simp -implicitDefEqProofs only [go_sem,r0,r12,r13,r14]
 refine .intro (fun e=> ?_) (fun e=> ?_)
 ·have hlt:i<l.length:=Int.ofNat_lt.1 (of_decide_eq_true e)
  simp -implicitDefEqProofs only [go_sem,r0,r12,r13,r14]
  refine .at i (by simpa using hlt) (by rw [List.getElem_map]; rfl) ?_
  simp -implicitDefEqProofs only [go_sem,r0,r12,r13,r14,List.getElem_map,oblA]
  intro i6 h6
  have n6:id≠i6:=fun e=>by rw [e,h6] at hidH; cases hidH
  simp -implicitDefEqProofs only [go_sem,r0,r12,r13,r14]
  refine (ltext_ok _ _ id n2 (by rw [upd_other _ _ n6]; exact hidH)).mono fun r h2 ⟨⟨b,hb⟩,hk2,n3,hid3⟩=> ?_
  subst hb
  have hk3:=(hkH.trans (.of (Sub.upd_new h6))).trans hk2
  cases b
  ·simp -implicitDefEqProofs only [go_sem]
   exact .same (.refl _) ⟨⟨_,rfl⟩,hk3,n3,hid3⟩
  have w1:IntKind.i64.wrap ((i:Int)+1)=((i+1:Nat):Int):=take_up hlt hml
  simp -implicitDefEqProofs only [go_sem,r0,r12,r13,r14,w1]
  refine ⟨_, ?_,⟨hk3,n3,hid3⟩,i+1,hlt,rfl, ?_, ?_, ?_, ?_⟩
  ·omega
  all_goals simp -implicitDefEqProofs only [go_sem,r0,r12,r13,r14,w1]
 ·simp -implicitDefEqProofs only [go_sem]
  exact .same (.refl _) ⟨⟨_,rfl⟩,hkH,n2,hidH⟩
def LP (h H:Heap) (id:Nat):Prop:=Keeps [id] h H∧∃n',H id=some (LO n')
theorem LP.new {h H:Heap} {id i:Nat} (x:LP h H id) (hi:H i=none) (b:Option Blk):LP h (upd H i b) id∧id≠i:=by
 obtain ⟨h1,n,h2⟩:=x
 have ne:id≠i:=fun e=>by rw [e,hi] at h2; cases h2
 exact ⟨⟨h1.trans (.of (Sub.upd_new hi)),n,by rw [upd_other _ _ ne]; exact h2⟩,ne⟩
theorem LC.go {f:FuncId} {args:List AV} (hc:LC f args) {h H:Heap} {id:Nat} (x:LP h H id) {Q:AV→Heap→Prop} (k:∀b H',LP h H' id→(∀j c,j≠id→H j=some c→H' j=some c)→Q (.v (.bool b)) H'):FnOK Tryd.prog f (.ptr id 0::args) H Q:=by
 obtain ⟨h1,n,h2⟩:=x
 exact (hc H id n h2).mono fun r H' ⟨⟨b,hb⟩,hk,n1,hid1⟩=>by
  subst hb
  exact k b H' ⟨h1.trans hk,n1,hid1⟩ fun j c hj e=>hk j c (by simpa using hj) e
theorem LP.ret {h H:Heap} {id:Nat} (x:LP h H id) (b:Bool):(∃c,(.v (.bool b):AV)= .v (.bool c))∧Keeps [id] h H∧∃n',H id=some (LO n'):=⟨⟨b,rfl⟩,x⟩
theorem LP.start {h:Heap} {id:Nat} {n:Int} (hid:h id=some (LO n)):LP h h id:=⟨.of (.refl _),n,hid⟩
theorem ltarget_ok (t:TgtD):LC 20 [tgtA t]:=fun h id n hid=>by
 refine FnOK.body hU hm Tryd.func20 rfl (by kernel_rfl) 64 rfl [.tmp 4] rfl (Nat.le_of_ble_eq_true rfl) (fun hwf=> ?_)
 simp -implicitDefEqProofs only [go_sem,tgtA,List.length_map]
 refine (takes_ok _).go (.start hid) fun b h1 hp1 _=> ?_
 cases b
 ·simp -implicitDefEqProofs only [go_sem]
  exact .same (.refl _) (hp1.ret _)
 simp -implicitDefEqProofs only [go_sem,List.length_map]
 refine .wf fun hw=> ?_
 have hml:=sl_len (t:=17) (xs:=t.map anyA) (p:= .no) hw (by simp -implicitDefEqProofs only [go_sem])
 rw [List.length_map] at hml
 refine .intro (fun m ρ H=>LP h H id∧∃i:Nat,i≤t.length∧m=t.length - i∧lk ρ 0=some (.ptr id 0)∧lk ρ 17=some (.sl (t.map anyA) .no)∧lk ρ 18=some (.v (.int .i64 t.length))∧lk ρ 19=some (.v (.int .i64 i))) t.length ?_ ?_
 ·refine ⟨hp1,0,Nat.zero_le _,rfl, ?_, ?_, ?_, ?_⟩<;>simp -implicitDefEqProofs only [go_sem]<;>rfl
 rintro m ρ H ⟨hp,i,hi,rfl,r0,r17,r18,r19⟩
 simp -implicitDefEqProofs only [go_sem,r0,r17,r18,r19]
 refine .intro (fun e=> ?_) (fun e=> ?_)
 case refine_2=>
  simp -implicitDefEqProofs only [go_sem]
  exact .same (.refl _) (hp.ret _)
 have hlt:i<t.length:=Int.ofNat_lt.1 (of_decide_eq_true e)
 have w1:=take_up hlt hml
 simp -implicitDefEqProofs only [go_sem,r0,r17,r18,r19]
 refine .at i (by simpa using hlt) (by rw [List.getElem_map]; rfl) ?_
 simp -implicitDefEqProofs only [go_sem,r0,r17,r18,r19,List.getElem_map,anyA,List.length_map]
 generalize t[i]=y
 refine (takes_ok _).go hp fun b h1 hp1 _=> ?_
 cases b
 ·simp -implicitDefEqProofs only [go_sem]
  exact .same (.refl _) (hp1.ret _)
 simp -implicitDefEqProofs only [go_sem,List.length_map]
 refine .wf fun hw=> ?_
 have hml2:=sl_len (t:=29) (xs:=y.map allA) (p:= .no) hw (by simp -implicitDefEqProofs only [go_sem])
 rw [List.length_map] at hml2
 refine .intro (fun m ρ H=>LP h H id∧∃j:Nat,j≤y.length∧m=y.length - j∧lk ρ 0=some (.ptr id 0)∧lk ρ 17=some (.sl (t.map anyA) .no)∧lk ρ 18=some (.v (.int .i64 t.length))∧lk ρ 19=some (.v (.int .i64 i))∧lk ρ 29=some (.sl (y.map allA) .no)∧lk ρ 30=some (.v (.int .i64 y.length))∧lk ρ 31=some (.v (.int .i64 j))) y.length ?_ ?_
 ·refine ⟨hp1,0,Nat.zero_le _,rfl, ?_, ?_, ?_, ?_, ?_, ?_, ?_⟩<;>simp -implicitDefEqProofs only [go_sem,r0,r17,r18,r19]<;>rfl
 rintro m ρ H ⟨hp,j,hj,rfl,r0,r17,r18,r19,r29,r30,r31⟩
 simp -implicitDefEqProofs only [go_sem,r0,r17,r18,r19,r29,r30,r31]
 refine .intro (fun e=> ?_) (fun e=> ?_)
 case refine_2=>
  simp -implicitDefEqProofs only [go_sem,r0,r17,r18,r19,w1]
  refine ⟨_, ?_,hp,i+1,hlt,rfl, ?_, ?_, ?_, ?_⟩
  ·omega
  all_goals simp -implicitDefEqProofs only [go_sem,r0,r17,r18,r19,w1]
 have hlt2:j<y.length:=Int.ofNat_lt.1 (of_decide_eq_true e)
 have w2:=take_up hlt2 hml2
 simp -implicitDefEqProofs only [go_sem,r0,r17,r18,r19,r29,r30,r31]
 refine .at j (by simpa using hlt2) (by rw [List.getElem_map]; rfl) ?_
 simp -implicitDefEqProofs only [go_sem,r0,r17,r18,r19,r29,r30,r31,List.getElem_map,allA,List.length_map]
 generalize y[j]=z
 refine (takes_ok _).go hp fun b h1 hp1 _=> ?_
 cases b
 ·simp -implicitDefEqProofs only [go_sem]
  exact .same (.refl _) (hp1.ret _)
 simp -implicitDefEqProofs only [go_sem,List.length_map]
 refine .wf fun hw=> ?_
 have hml3:=sl_len (t:=41) (xs:=z.map matchA) (p:= .no) hw (by simp -implicitDefEqProofs only [go_sem])
 rw [List.length_map] at hml3
 refine .intro (fun m ρ H=>LP h H id∧∃k:Nat,k≤z.length∧m=z.length - k∧lk ρ 0=some (.ptr id 0)∧lk ρ 17=some (.sl (t.map anyA) .no)∧lk ρ 18=some (.v (.int .i64 t.length))∧lk ρ 19=some (.v (.int .i64 i))∧lk ρ 29=some (.sl (y.map allA) .no)∧lk ρ 30=some (.v (.int .i64 y.length))∧lk ρ 31=some (.v (.int .i64 j))∧lk ρ 41=some (.sl (z.map matchA) .no)∧lk ρ 42=some (.v (.int .i64 z.length))∧lk ρ 43=some (.v (.int .i64 k))) z.length ?_ ?_
 ·refine ⟨hp1,0,Nat.zero_le _,rfl, ?_, ?_, ?_, ?_, ?_, ?_, ?_, ?_, ?_, ?_⟩<;>simp -implicitDefEqProofs only [go_sem,r0,r17,r18,r19,r29,r30,r31]<;>rfl
 rintro m ρ H ⟨hp,k,hk,rfl,r0,r17,r18,r19,r29,r30,r31,r41,r42,r43⟩
 simp -implicitDefEqProofs only [go_sem,r0,r17,r18,r19,r29,r30,r31,r41,r42,r43]
 refine .intro (fun e=> ?_) (fun e=> ?_)
 case refine_2=>
  simp -implicitDefEqProofs only [go_sem,r0,r17,r18,r19,r29,r30,r31,w2]
  refine ⟨_, ?_,hp,j+1,hlt2,rfl, ?_, ?_, ?_, ?_, ?_, ?_, ?_⟩
  ·omega
  all_goals simp -implicitDefEqProofs only [go_sem,r0,r17,r18,r19,r29,r30,r31,w2]
 have hlt3:k<z.length:=Int.ofNat_lt.1 (of_decide_eq_true e)
 have w3:=take_up hlt3 hml3
 simp -implicitDefEqProofs only [go_sem,r0,r17,r18,r19,r29,r30,r31,r41,r42,r43]
 refine .at k (by simpa using hlt3) (by rw [List.getElem_map]; rfl) ?_
 simp -implicitDefEqProofs only [go_sem,r0,r17,r18,r19,r29,r30,r31,r41,r42,r43,List.getElem_map,matchA]
 intro i10 h10
 obtain ⟨hp2,ne⟩:=hp.new h10 (some (.obj [.v (.int .i64 z[k].attr.cat), .s z[k].attr.name, .v (.bool z[k].attr.must), .v (.int .i64 z[k].op), .v (.int .i64 z[k].val.kind), .v (.int .i64 z[k].val.n), .s z[k].val.s] 54))
 simp -implicitDefEqProofs only [go_sem,r0,r17,r18,r19,r29,r30,r31,r41,r42,r43]
 refine (ltext_ok _).go hp2 fun b h3 hp3 kp=> ?_
 have g10:=kp i10 _ ne.symm (upd_same ..)
 cases b
 ·simp -implicitDefEqProofs only [go_sem]
  exact .same (.refl _) (hp3.ret _)
 simp -implicitDefEqProofs only [go_sem,r0,r17,r18,r19,r29,r30,r31,r41,r42,r43,g10]
 refine (ltext_ok _).go hp3 fun b h4 hp4 _=> ?_
 cases b
 ·simp -implicitDefEqProofs only [go_sem]
  exact .same (.refl _) (hp4.ret _)
 simp -implicitDefEqProofs only [go_sem,r0,r17,r18,r19,r29,r30,r31,r41,r42,r43,w3]
 refine ⟨_, ?_,hp4,k+1,hlt3,rfl, ?_, ?_, ?_, ?_, ?_, ?_, ?_, ?_, ?_, ?_⟩
 ·omega
 all_goals simp -implicitDefEqProofs only [go_sem,r0,r17,r18,r19,r29,r30,r31,r41,r42,r43,w3]
end Go.Proofs.YtcgcjihjhlenkaaDoor

set_option linter.unusedSimpArgs false
set_option linter.unusedVariables false
namespace Go.Proofs.YtcgcjihjhlenkaaDoor
open Go Go.Ab Go.Bf
def RO (r:RuleD):Blk:= .obj [.s r.id, .v (.bool r.deny), .sl (r.tgt.map anyA) .no, .sl (r.cond.map nodeA) .no, .sl (r.obls.map oblA) .no] 37
def NO (n:NodeD):Blk:= .obj [.v (.int .i64 n.op), .v (.int .i64 n.val.kind), .v (.int .i64 n.val.n), .s n.val.s, .v (.int .i64 n.attr.cat), .s n.attr.name, .v (.bool n.attr.must)] 58
theorem lpolicy_ok:∀(p:PolD),LC 11 [polA p]
 | .mk pid pset palg ptgt prules pkids pobls=>fun h id n hid=>by
  have ihk:∀(j:Nat) (hj:j<pkids.length),LC 11 [polA pkids[j]]:=fun j hj=>lpolicy_ok pkids[j]
  refine FnOK.body hU hm Tryd.func11 rfl (by kernel_rfl) 108 rfl [.tmp 4] rfl (Nat.le_of_ble_eq_true rfl) (fun hwf=> ?_)
  have hwl:prules.length<9223372036854775808∧pkids.length<9223372036854775808:=by
   have:=hwf (polA (.mk pid pset palg ptgt prules pkids pobls)) (by simp)
   simp only [polA,wfA] at this
   have h1:=this (.sl (prules.map ruleA) .no) (by simp)
   have h2:=this (.sl (kidsA pkids) .no) (by simp)
   simp only [wf1,lim,List.length_map,kidsA_eq] at h1 h2
   exact ⟨h1,h2⟩
  simp -implicitDefEqProofs only [go_sem,polA,tgtA,oblsA,List.length_map]
  intro i3 h3
  have hp:=(LP.start hid).new h3 (some (.obj [.s pid, .v (.bool pset), .v (.int .i64 palg), .sl (ptgt.map anyA) .no, .sl (prules.map ruleA) .no, .sl (kidsA pkids) .no, .sl (pobls.map oblA) .no] 28))
  obtain ⟨hp,ne3⟩:=hp
  simp -implicitDefEqProofs only [go_sem,List.length_map]
  refine (takes_ok _).go hp fun b h1 hp1 k1=> ?_
  have g1:=k1 i3 _ ne3.symm (upd_same ..)
  cases b
  ·simp -implicitDefEqProofs only [go_sem]
   exact .same (.refl _) (hp1.ret _)
  simp -implicitDefEqProofs only [go_sem,g1]
  refine (ltext_ok _).go hp1 fun b h2 hp2 k2=> ?_
  have g2:=k2 i3 _ ne3.symm g1
  cases b
  ·simp -implicitDefEqProofs only [go_sem]
   exact .same (.refl _) (hp2.ret _)
  simp -implicitDefEqProofs only [go_sem,g2]
  refine (ltarget_ok ptgt).go hp2 fun b h3 hp3 k3=> ?_
  have g3:=k3 i3 _ ne3.symm g2
  cases b
  ·simp -implicitDefEqProofs only [go_sem]
   exact .same (.refl _) (hp3.ret _)
  simp -implicitDefEqProofs only [go_sem,g3]
  refine (lobls_ok pobls).go hp3 fun b h4 hp4 k4=> ?_
  have g4:=k4 i3 _ ne3.symm g3
  cases b
  ·simp -implicitDefEqProofs only [go_sem]
   exact .same (.refl _) (hp4.ret _)
  simp -implicitDefEqProofs only [go_sem,g4,List.length_map]
  refine .intro (fun m ρ H=>(LP h H id∧H i3=some (.obj [.s pid, .v (.bool pset), .v (.int .i64 palg), .sl (ptgt.map anyA) .no, .sl (prules.map ruleA) .no, .sl (kidsA pkids) .no, .sl (pobls.map oblA) .no] 28))∧∃i:Nat,i≤prules.length∧m=prules.length - i∧lk ρ 0=some (.ptr id 0)∧lk ρ 3=some (.ptr i3 0)∧lk ρ 40=some (.sl (prules.map ruleA) .no)∧lk ρ 41=some (.v (.int .i64 prules.length))∧lk ρ 42=some (.v (.int .i64 i))) prules.length ?_ ?_
  ·refine ⟨⟨hp4,g4⟩,0,Nat.zero_le _,rfl, ?_, ?_, ?_, ?_, ?_⟩<;>simp -implicitDefEqProofs only [go_sem]<;>rfl
  rintro m ρ H ⟨⟨hp,g5⟩,i,hi,rfl,r0,r3,r40,r41,r42⟩
  simp -implicitDefEqProofs only [go_sem,r0,r3,r40,r41,r42]
  refine .intro (fun e=> ?_) (fun e=> ?_)
  ·have hlt:i<prules.length:=Int.ofNat_lt.1 (of_decide_eq_true e)
   have w1:=take_up hlt hwl.1
   simp -implicitDefEqProofs only [go_sem,r0,r3,r40,r41,r42]
   refine .at i (by simpa using hlt) (by rw [List.getElem_map]; rfl) ?_
   simp -implicitDefEqProofs only [go_sem,r0,r3,r40,r41,r42,List.getElem_map,ruleA,tgtA,condA,oblsA]
   generalize prules[i]=rl
   intro i6 h6
   obtain ⟨hp5,ne6⟩:=hp.new h6 (some (RO rl))
   have n36:i3≠i6:=fun e=>by rw [e,h6] at g5; cases g5
   have g6:upd H i6 (some (RO rl)) i3=some (.obj [.s pid, .v (.bool pset), .v (.int .i64 palg), .sl (ptgt.map anyA) .no, .sl (prules.map ruleA) .no, .sl (kidsA pkids) .no, .sl (pobls.map oblA) .no] 28):=by rw [upd_other _ _ n36]; exact g5
   have q6:upd H i6 (some (RO rl)) i6=some (RO rl):=upd_same ..
   simp -implicitDefEqProofs only [go_sem,r0,r3,r40,r41,r42]
   refine (ltext_ok _).go hp5 fun b h7 hp7 k7=> ?_
   have g7:=k7 i3 _ ne3.symm g6
   have q7:=k7 i6 _ ne6.symm q6
   unfold RO at q7
   cases b
   ·simp -implicitDefEqProofs only [go_sem]
    exact .same (.refl _) (hp7.ret _)
   simp -implicitDefEqProofs only [go_sem,r0,r3,r40,r41,r42,q7]
   refine (ltarget_ok rl.tgt).go hp7 fun b h8 hp8 k8=> ?_
   have g8:=k8 i3 _ ne3.symm g7
   have q8:=k8 i6 _ ne6.symm q7
   cases b
   ·simp -implicitDefEqProofs only [go_sem]
    exact .same (.refl _) (hp8.ret _)
   simp -implicitDefEqProofs only [go_sem,r0,r3,r40,r41,r42,q8,List.length_map]
   refine (takes_ok _).go hp8 fun b h9 hp9 k9=> ?_
   have g9:=k9 i3 _ ne3.symm g8
   have q9:=k9 i6 _ ne6.symm q8
   cases b
   ·simp -implicitDefEqProofs only [go_sem]
    exact .same (.refl _) (hp9.ret _)
   simp -implicitDefEqProofs only [go_sem,r0,r3,r40,r41,r42,q9]
   refine (lobls_ok rl.obls).go hp9 fun b h10 hp10 k10=> ?_
   have g10:=k10 i3 _ ne3.symm g9
   have q10:=k10 i6 _ ne6.symm q9
   cases b
   ·simp -implicitDefEqProofs only [go_sem]
    exact .same (.refl _) (hp10.ret _)
   simp -implicitDefEqProofs only [go_sem,r0,r3,r40,r41,r42,q10,List.length_map]
   refine .wf fun hw=> ?_
   have hml2:=sl_len (t:=74) (xs:=rl.cond.map nodeA) (p:= .no) hw (by simp -implicitDefEqProofs only [go_sem])
   rw [List.length_map] at hml2
   refine .intro (fun m ρ H=>(LP h H id∧H i3=some (.obj [.s pid, .v (.bool pset), .v (.int .i64 palg), .sl (ptgt.map anyA) .no, .sl (prules.map ruleA) .no, .sl (kidsA pkids) .no, .sl (pobls.map oblA) .no] 28))∧∃j:Nat,j≤rl.cond.length∧m=rl.cond.length - j∧lk ρ 0=some (.ptr id 0)∧lk ρ 3=some (.ptr i3 0)∧lk ρ 40=some (.sl (prules.map ruleA) .no)∧lk ρ 41=some (.v (.int .i64 prules.length))∧lk ρ 42=some (.v (.int .i64 i))∧lk ρ 74=some (.sl (rl.cond.map nodeA) .no)∧lk ρ 75=some (.v (.int .i64 rl.cond.length))∧lk ρ 76=some (.v (.int .i64 j))) rl.cond.length ?_ ?_
   ·refine ⟨⟨hp10,g10⟩,0,Nat.zero_le _,rfl, ?_, ?_, ?_, ?_, ?_, ?_, ?_, ?_⟩<;>simp -implicitDefEqProofs only [go_sem,r0,r3,r40,r41,r42]<;>rfl
   rintro m ρ H ⟨⟨hp,g5⟩,j,hj,rfl,r0,r3,r40,r41,r42,r74,r75,r76⟩
   simp -implicitDefEqProofs only [go_sem,r0,r3,r40,r41,r42,r74,r75,r76]
   refine .intro (fun e=> ?_) (fun e=> ?_)
   case refine_2=>
    simp -implicitDefEqProofs only [go_sem,r0,r3,r40,r41,r42,w1]
    refine ⟨_, ?_,⟨hp,g5⟩,i+1,hlt,rfl, ?_, ?_, ?_, ?_, ?_⟩
    ·omega
    all_goals simp -implicitDefEqProofs only [go_sem,r0,r3,r40,r41,r42,w1]
   have hlt2:j<rl.cond.length:=Int.ofNat_lt.1 (of_decide_eq_true e)
   have w2:=take_up hlt2 hml2
   simp -implicitDefEqProofs only [go_sem,r0,r3,r40,r41,r42,r74,r75,r76]
   refine .at j (by simpa using hlt2) (by rw [List.getElem_map]; rfl) ?_
   simp -implicitDefEqProofs only [go_sem,r0,r3,r40,r41,r42,r74,r75,r76,List.getElem_map,nodeA]
   generalize rl.cond[j]=nd
   intro i8 h8
   obtain ⟨hp5,ne8⟩:=hp.new h8 (some (NO nd))
   have n38:i3≠i8:=fun e=>by rw [e,h8] at g5; cases g5
   have g6:upd H i8 (some (NO nd)) i3=some (.obj [.s pid, .v (.bool pset), .v (.int .i64 palg), .sl (ptgt.map anyA) .no, .sl (prules.map ruleA) .no, .sl (kidsA pkids) .no, .sl (pobls.map oblA) .no] 28):=by rw [upd_other _ _ n38]; exact g5
   have q6:upd H i8 (some (NO nd)) i8=some (NO nd):=upd_same ..
   simp -implicitDefEqProofs only [go_sem,r0,r3,r40,r41,r42,r74,r75,r76]
   refine (ltext_ok _).go hp5 fun b h7 hp7 k7=> ?_
   have g7:=k7 i3 _ ne3.symm g6
   have q7:=k7 i8 _ ne8.symm q6
   unfold NO at q7
   cases b
   ·simp -implicitDefEqProofs only [go_sem]
    exact .same (.refl _) (hp7.ret _)
   simp -implicitDefEqProofs only [go_sem,r0,r3,r40,r41,r42,r74,r75,r76,q7]
   refine (ltext_ok _).go hp7 fun b h9 hp9 k9=> ?_
   have g9:=k9 i3 _ ne3.symm g7
   cases b
   ·simp -implicitDefEqProofs only [go_sem]
    exact .same (.refl _) (hp9.ret _)
   simp -implicitDefEqProofs only [go_sem,r0,r3,r40,r41,r42,r74,r75,r76,w2]
   refine ⟨_, ?_,⟨hp9,g9⟩,j+1,hlt2,rfl, ?_, ?_, ?_, ?_, ?_, ?_, ?_, ?_⟩
   ·omega
   all_goals simp -implicitDefEqProofs only [go_sem,r0,r3,r40,r41,r42,r74,r75,r76,w2]
  ·simp -implicitDefEqProofs only [go_sem,r0,r3,g5,List.length_map,kidsA_eq]
   refine .intro (fun m ρ H=>LP h H id∧∃i:Nat,i≤pkids.length∧m=pkids.length - i∧lk ρ 0=some (.ptr id 0)∧lk ρ 97=some (.sl (pkids.map polA) .no)∧lk ρ 98=some (.v (.int .i64 pkids.length))∧lk ρ 99=some (.v (.int .i64 i))) pkids.length ?_ ?_
   ·refine ⟨hp,0,Nat.zero_le _,rfl, ?_, ?_, ?_, ?_⟩<;>simp -implicitDefEqProofs only [go_sem,r0]<;>rfl
   rintro m ρ H ⟨hp,j,hj,rfl,r0,r97,r98,r99⟩
   simp -implicitDefEqProofs only [go_sem,r0,r97,r98,r99]
   refine .intro (fun e=> ?_) (fun e=> ?_)
   case refine_2=>
    simp -implicitDefEqProofs only [go_sem]
    exact .same (.refl _) (hp.ret _)
   have hlt:j<pkids.length:=Int.ofNat_lt.1 (of_decide_eq_true e)
   have w1:=take_up hlt hwl.2
   have ih:=ihk j hlt
   simp -implicitDefEqProofs only [go_sem,r0,r97,r98,r99]
   cases ek:pkids[j] with
   |mk x1 x2 x3 x4 x5 x6 x7=>
   rw [ek] at ih
   simp only [polA,tgtA,oblsA,kidsA_eq] at ih
   refine .at j (by simpa using hlt) (by rw [List.getElem_map]; exact polA_len _) ?_
   simp -implicitDefEqProofs only [go_sem,r0,r97,r98,r99,List.getElem_map,ek,polA,tgtA,oblsA,kidsA_eq]
   intro i10 h10
   obtain ⟨hp5,ne10⟩:=hp.new h10 (some (.obj [.s x1, .v (.bool x2), .v (.int .i64 x3), .sl (x4.map anyA) .no, .sl (x5.map ruleA) .no, .sl (x6.map polA) .no, .sl (x7.map oblA) .no] 28))
   simp -implicitDefEqProofs only [go_sem,r0,r97,r98,r99]
   refine ih.go hp5 fun b h7 hp7 k7=> ?_
   cases b
   ·simp -implicitDefEqProofs only [go_sem]
    exact .same (.refl _) (hp7.ret _)
   simp -implicitDefEqProofs only [go_sem,r0,r97,r98,r99,w1]
   refine ⟨_, ?_,hp7,j+1,hlt,rfl, ?_, ?_, ?_, ?_⟩
   ·omega
   all_goals simp -implicitDefEqProofs only [go_sem,r0,r97,r98,r99,w1]
termination_by p=>SizeOf.sizeOf p
decreasing_by
 have:=List.sizeOf_lt_of_mem (List.getElem_mem hj)
 simp only [PolD.mk.sizeOf_spec]
 omega
theorem small_ok (p:PolD) (h:Heap):FnOK Tryd.prog 4 [polA p] h fun r h' =>(∃b,r= .v (.bool b))∧h' =h:=by
 cases p with
 |mk pid pset palg ptgt prules pkids pobls=>
 refine FnOK.body hU hm Tryd.func4 rfl (by kernel_rfl) 9 rfl [.tmp 2] rfl (Nat.le_of_ble_eq_true rfl) (fun hwf=> ?_)
 simp -implicitDefEqProofs only [go_sem,polA,tgtA,oblsA]
 intro i1 h1
 simp -implicitDefEqProofs only [go_sem]
 intro i5 h5
 have ne:=ne_upd h5
 have hi5:h i5=none:=by rw [upd_other _ _ ne] at h5; exact h5
 simp -implicitDefEqProofs only [go_sem,upd_ne,ne,ne.symm]
 have hp:=lpolicy_ok (.mk pid pset palg ptgt prules pkids pobls) (upd (upd h i1 (some (.obj [.s pid, .v (.bool pset), .v (.int .i64 palg), .sl (ptgt.map anyA) .no, .sl (prules.map ruleA) .no, .sl (kidsA pkids) .no, .sl (pobls.map oblA) .no] 28))) i5 (some (LO 3000))) i5 3000 (upd_same ..)
 simp only [polA,tgtA,oblsA] at hp
 refine hp.mono fun x h4 ⟨⟨b,ex⟩,hk,_⟩=> ?_
 subst ex
 simp -implicitDefEqProofs only [go_sem]
 refine .mk _ (.refl _) (fun j k hj=> ?_) ⟨⟨b,rfl⟩,rfl⟩
 refine hk j k (by simp only [List.mem_singleton]; exact fun e=>by rw [e,hi5] at hj; cases hj) (((Sub.upd_new h1).new h5 _) _ _ hj)
end Go.Proofs.YtcgcjihjhlenkaaDoor

set_option linter.unusedSimpArgs false
set_option linter.unusedVariables false
namespace Go.Proofs.YtcgcjihjhlenkaaDoor
open Go Go.Ab Go.Bf
theorem dat_attr {x:AV} (h:Dat U 50 x):∃a:AttrD,x=attrA a:=by
 obtain ⟨ys,rfl,hys⟩:=h.strct_inv (show (U 50).k= .strct [(0,3),(1,9),(2,4)] by simp only [go_sem])
 simp only [List.map_cons,List.map_nil,DatAll] at hys
 obtain ⟨y0,_,rfl,d0,y1,_,rfl,d1,y2,_,rfl,d2,rfl⟩:=hys
 obtain ⟨n,rfl,_⟩:=d0.i64 (by simp only [go_sem])
 obtain ⟨s,rfl,_⟩:=d1.str_inv (by simp only [go_sem])
 obtain ⟨b,rfl⟩:=d2.bool_inv (by simp only [go_sem])
 exact ⟨⟨n,s,b⟩,by simp [attrA,iA,AV.cells]⟩
theorem dat_val {x:AV} (h:Dat U 52 x):∃v:ValD,x=valA v∧inV v:=by
 obtain ⟨ys,rfl,hys⟩:=h.strct_inv (show (U 52).k= .strct [(0,3),(1,3),(2,9)] by simp only [go_sem])
 simp only [List.map_cons,List.map_nil,DatAll] at hys
 obtain ⟨y0,_,rfl,d0,y1,_,rfl,d1,y2,_,rfl,d2,rfl⟩:=hys
 obtain ⟨n,rfl,_⟩:=d0.i64 (by simp only [go_sem])
 obtain ⟨m,rfl,hm⟩:=d1.i64 (by simp only [go_sem])
 obtain ⟨s,rfl,_⟩:=d2.str_inv (by simp only [go_sem])
 exact ⟨⟨n,m,s⟩,by simp [valA,iA,AV.cells],hm⟩
theorem dat_match {x:AV} (h:Dat U 54 x):∃m:MatchD,x=matchA m∧inV m.val:=by
 obtain ⟨ys,rfl,hys⟩:=h.strct_inv (show (U 54).k= .strct [(0,50),(3,3),(4,52)] by simp only [go_sem])
 simp only [List.map_cons,List.map_nil,DatAll] at hys
 obtain ⟨y0,_,rfl,d0,y1,_,rfl,d1,y2,_,rfl,d2,rfl⟩:=hys
 obtain ⟨a,rfl⟩:=dat_attr d0
 obtain ⟨n,rfl,_⟩:=d1.i64 (by simp only [go_sem])
 obtain ⟨v,rfl,hv⟩:=dat_val d2
 exact ⟨⟨a,n,v⟩,by simp [matchA,attrA,valA,iA,AV.cells],hv⟩
theorem dat_node {x:AV} (h:Dat U 58 x):∃m:NodeD,x=nodeA m∧inV m.val:=by
 obtain ⟨ys,rfl,hys⟩:=h.strct_inv (show (U 58).k= .strct [(0,3),(1,52),(4,50)] by simp only [go_sem])
 simp only [List.map_cons,List.map_nil,DatAll] at hys
 obtain ⟨y0,_,rfl,d0,y1,_,rfl,d1,y2,_,rfl,d2,rfl⟩:=hys
 obtain ⟨n,rfl,_⟩:=d0.i64 (by simp only [go_sem])
 obtain ⟨v,rfl,hv⟩:=dat_val d1
 obtain ⟨a,rfl⟩:=dat_attr d2
 exact ⟨⟨n,v,a⟩,by simp [nodeA,attrA,valA,iA,AV.cells],hv⟩
theorem dat_obl {x:AV} (h:Dat U 60 x):∃o:OblD,x=oblA o:=by
 obtain ⟨ys,rfl,hys⟩:=h.strct_inv (show (U 60).k= .strct [(0,3),(1,3),(2,9)] by simp only [go_sem])
 simp only [List.map_cons,List.map_nil,DatAll] at hys
 obtain ⟨y0,_,rfl,d0,y1,_,rfl,d1,y2,_,rfl,d2,rfl⟩:=hys
 obtain ⟨n,rfl,_⟩:=d0.i64 (by simp only [go_sem])
 obtain ⟨m,rfl,_⟩:=d1.i64 (by simp only [go_sem])
 obtain ⟨s,rfl,_⟩:=d2.str_inv (by simp only [go_sem])
 exact ⟨⟨n,m,s⟩,by simp [oblA,iA,AV.cells]⟩
theorem dat_all {x:AV} (h:Dat U 55 x):∃l:List MatchD,x=allA l∧inA l:=by
 obtain ⟨l,rfl,_,hl⟩:=h.list (e:=54) (f:=matchA) (p:=fun m=>inV m.val) (by simp only [go_sem]) fun y hy=>dat_match hy
 exact ⟨l,rfl,hl⟩
theorem dat_any {x:AV} (h:Dat U 56 x):∃l:List (List MatchD),x=anyA l∧inY l:=by
 obtain ⟨l,rfl,_,hl⟩:=h.list (e:=55) (f:=allA) (p:=inA) (by simp only [go_sem]) fun y hy=>dat_all hy
 exact ⟨l,rfl,hl⟩
theorem dat_tgt {x:AV} (h:Dat U 23 x):∃t:TgtD,x=tgtA t∧inT t:=by
 obtain ⟨l,rfl,_,hl⟩:=h.list (e:=56) (f:=anyA) (p:=inY) (by simp only [go_sem]) fun y hy=>dat_any hy
 exact ⟨l,rfl,hl⟩
theorem dat_cond {x:AV} (h:Dat U 35 x):∃l:List NodeD,x=condA l∧inL l:=by
 obtain ⟨l,rfl,_,hl⟩:=h.list (e:=58) (f:=nodeA) (p:=fun n=>inV n.val) (by simp only [go_sem]) fun y hy=>dat_node hy
 exact ⟨l,rfl,hl⟩
theorem dat_obls {x:AV} (h:Dat U 26 x):∃l:List OblD,x=oblsA l:=by
 obtain ⟨l,rfl,_,_⟩:=h.list (e:=60) (f:=oblA) (p:=fun _=>True) (by simp only [go_sem]) fun y hy=>by
  obtain ⟨o,rfl⟩:=dat_obl hy
  exact ⟨o,rfl,trivial⟩
 exact ⟨l,rfl⟩
theorem dat_rule {x:AV} (h:Dat U 37 x):∃r:RuleD,x=ruleA r∧inR r:=by
 obtain ⟨ys,rfl,hys⟩:=h.strct_inv (show (U 37).k= .strct [(0,9),(1,4),(2,23),(3,35),(4,26)] by simp only [go_sem])
 simp only [List.map_cons,List.map_nil,DatAll] at hys
 obtain ⟨y0,_,rfl,d0,y1,_,rfl,d1,y2,_,rfl,d2,y3,_,rfl,d3,y4,_,rfl,d4,rfl⟩:=hys
 obtain ⟨s,rfl,_⟩:=d0.str_inv (by simp only [go_sem])
 obtain ⟨b,rfl⟩:=d1.bool_inv (by simp only [go_sem])
 obtain ⟨t,rfl,ht⟩:=dat_tgt d2
 obtain ⟨c,rfl,hc⟩:=dat_cond d3
 obtain ⟨o,rfl⟩:=dat_obls d4
 exact ⟨⟨s,b,t,c,o⟩,by simp [ruleA,tgtA,condA,oblsA,AV.cells],ht,hc⟩
theorem dat_polG {t:TypeId} {x:AV} (h:Dat U t x):(t=28→∃p:PolD,x=polA p∧inP p)∧(t=25→∃ps:List PolD,x= .sl (kidsA ps) .no∧inK ps):=by
 induction h with
 |bool b hk=>
  refine ⟨fun e=> ?_,fun e=> ?_⟩<;>subst e<;>simp only [go_sem] at hk<;>cases hk
 |int n hk hw=>
  refine ⟨fun e=> ?_,fun e=> ?_⟩<;>subst e<;>simp only [go_sem] at hk<;>cases hk
 |str l hk hl=>
  refine ⟨fun e=> ?_,fun e=> ?_⟩<;>subst e<;>simp only [go_sem] at hk<;>cases hk
 | @slice t e xs hk hx hl ih=>
  refine ⟨fun e=> ?_,fun e=> ?_⟩
  ·subst e; simp only [go_sem] at hk
  ·subst e
   have hk' :(U 25).k= .slice 28:=by simp only [go_sem]
   obtain rfl:e=28:=by rw [hk'] at hk; cases hk; rfl
   obtain ⟨ps,hps,hin⟩:=choose_map xs fun y hy=>(ih y hy).1 rfl
   exact ⟨ps,by rw [hps,kidsA_eq],(inK_eq ps).2 hin⟩
 | @strct t fs ys hk hn hx ih=>
  refine ⟨fun e=> ?_,fun e=> ?_⟩
  ·subst e
   have hk' :(U 28).k= .strct [(0,9),(1,4),(2,3),(3,23),(4,24),(5,25),(6,26)]:=by simp only [go_sem]
   obtain rfl:fs= [(0,9),(1,4),(2,3),(3,23),(4,24),(5,25),(6,26)]:=by rw [hk'] at hk; cases hk; rfl
   match ys,hn with
   | [y0,y1,y2,y3,y4,y5,y6],_=>
   obtain ⟨s,rfl,_⟩:=(show Dat U 9 y0 from hx 0 (by decide) (by simp)).str_inv (by simp only [go_sem])
   obtain ⟨b,rfl⟩:=(show Dat U 4 y1 from hx 1 (by decide) (by simp)).bool_inv (by simp only [go_sem])
   obtain ⟨n,rfl,_⟩:=(show Dat U 3 y2 from hx 2 (by decide) (by simp)).i64 (by simp only [go_sem])
   obtain ⟨t,rfl,ht⟩:=dat_tgt (show Dat U 23 y3 from hx 3 (by decide) (by simp))
   obtain ⟨rs,rfl,_,hr⟩:=(show Dat U 24 y4 from hx 4 (by decide) (by simp)).list (e:=37) (f:=ruleA) (p:=inR) (by simp only [go_sem]) fun y hy=>dat_rule hy
   obtain ⟨ks,hks,hin⟩:=(ih 5 (by decide) (by simp)).2 rfl
   obtain ⟨o,rfl⟩:=dat_obls (show Dat U 26 y6 from hx 6 (by decide) (by simp))
   simp only [List.getElem_cons_succ,List.getElem_cons_zero] at hks
   subst hks
   exact ⟨.mk s b n t rs ks o,by simp [polA,tgtA,oblsA,iA,AV.cells],by simp only [inP]; exact ⟨ht,hr,hin⟩⟩
  ·subst e; simp only [go_sem] at hk
theorem dat_pol {x:AV} (h:Dat U 28 x):∃p:PolD,x=polA p∧inP p:=(dat_polG h).1 rfl
end Go.Proofs.YtcgcjihjhlenkaaDoor

set_option linter.unusedVariables false
namespace Go.Proofs
open Go.Shelf
def Tryd.lays156_ren:Go.Shelf.Ren:=⟨fun|156=>34|165=>41|166=>42|169=>43|240=>54|241=>55|276=>60|277=>61|n=>n,fun|31=>78|9=>9|3=>3|4=>4|0=>0|20=>20|72=>93|76=>97|70=>90|37=>91|75=>96|127=>111|164=>115|5=>5|80=>99|n=>n,fun|n=>n⟩
theorem Tryd.lays156:Go.Proofs.Lays.n156 Tryd.prog Tryd.lays156_ren:= {
 mixed:=by kernel_rfl
 f156:=Tryd.func34.trans (congrArg some (by kernel_rfl))
 f165:=Tryd.func41.trans (congrArg some (by kernel_rfl))
 f166:=Tryd.func42.trans (congrArg some (by kernel_rfl))
 f169:=Tryd.func43.trans (congrArg some (by kernel_rfl))
 f240:=Tryd.func54.trans (congrArg some (by kernel_rfl))
 f241:=Tryd.func55.trans (congrArg some (by kernel_rfl))
 f276:=Tryd.func60.trans (congrArg some (by kernel_rfl))
 f277:=Tryd.func61.trans (congrArg some (by kernel_rfl))
 t0:=Tryd.underlying0
 a0:=Tryd.isAgg0
 z0:=Tryd.sizeOf0
 v0:=Tryd.zeroValue0
 t3:=Tryd.underlying3
 a3:=Tryd.isAgg3
 z3:=Tryd.sizeOf3
 v3:=Tryd.zeroValue3
 t4:=Tryd.underlying4
 a4:=Tryd.isAgg4
 z4:=Tryd.sizeOf4
 v4:=Tryd.zeroValue4
 t9:=Tryd.underlying9
 a9:=Tryd.isAgg9
 z9:=Tryd.sizeOf9
 v9:=Tryd.zeroValue9
 t20:=Tryd.underlying20
 a20:=Tryd.isAgg20
 z20:=Tryd.sizeOf20
 v20:=Tryd.zeroValue20
 t31:=Tryd.underlying78
 a31:=Tryd.isAgg78
 z31:=Tryd.sizeOf78
 v31:=Tryd.zeroValue78
 t37:=Tryd.underlying91
 a37:=Tryd.isAgg91
 z37:=Tryd.sizeOf91
 v37:=Tryd.zeroValue91
 t70:=Tryd.underlying90
 a70:=Tryd.isAgg90
 z70:=Tryd.sizeOf90
 v70:=Tryd.zeroValue90
 t72:=Tryd.underlying93
 a72:=Tryd.isAgg93
 z72:=Tryd.sizeOf93
 v72:=Tryd.zeroValue93
 t75:=Tryd.underlying96
 a75:=Tryd.isAgg96
 z75:=Tryd.sizeOf96
 v75:=Tryd.zeroValue96
 t76:=Tryd.underlying97
 a76:=Tryd.isAgg97
 z76:=Tryd.sizeOf97
 v76:=Tryd.zeroValue97
 t127:=Tryd.underlying111
 a127:=Tryd.isAgg111
 z127:=Tryd.sizeOf111
 v127:=Tryd.zeroValue111
 t164:=Tryd.underlying115
 a164:=Tryd.isAgg115
 z164:=Tryd.sizeOf115
 v164:=Tryd.zeroValue115}
theorem Tryd.Builder_Extra_156:Builder.Extra Tryd.prog Tryd.lays156_ren:= {
 sizeBuilder:=by kernel_rfl
 liesBuilder:=by kernel_rfl
 t5:=Tryd.underlying5
 a5:=Tryd.isAgg5
 z5:=Tryd.sizeOf5
 v5:=Tryd.zeroValue5
 infoByte:=by kernel_rfl
 cellsByte:=by kernel_rfl
 sizeByte:=by kernel_rfl
 neB5:=by decide}
open Go.RowKit in
theorem Tryd.strings_Join_none (a:Option Addr) (c:Nat) (sep:ByteArray) (w:World):
  Calls Tryd.prog 34 #[.slice a 0 c, .string sep] w fun e w' =>e= .returned (.string ⟨#[]⟩)∧w' =w:=Any.strings_Join_none Tryd.lays156 Tryd.Builder_Extra_156 a c sep w
open Go.RowKit in
theorem Tryd.strings_Join (bk o c:Nat) (xs:List ByteArray) (sep:ByteArray) (w:World) (hcells:∀(j:Nat) x,xs[j]? =some x→w.cell? ⟨bk,o+j,none⟩=some (.string x)) (hbk:bk<w.heap.size) (hN:xs.length≤140737488355328) (hcap:xs.length≤c) (hlen:(Lib.join (xs.map (·.data.toList)) sep.data.toList).length≤140737488355328):
  Calls Tryd.prog 34 #[.slice (some ⟨bk,o,none⟩) xs.length c, .string sep] w fun e w' =>e= .returned (.string ⟨(Lib.join (xs.map (·.data.toList)) sep.data.toList).toArray⟩)∧Below w.heap.size w w' :=Any.strings_Join Tryd.lays156 Tryd.Builder_Extra_156 bk o c xs sep w hcells hbk hN hcap hlen
def Tryd.lays121_ren:Go.Shelf.Ren:=⟨fun|121=>51|214=>57|n=>n,fun|4=>4|9=>9|n=>n,fun|n=>n⟩
theorem Tryd.lays121:Go.Proofs.Lays.n121 Tryd.prog Tryd.lays121_ren:= {
 mixed:=by kernel_rfl
 f121:=Tryd.func51.trans (congrArg some (by kernel_rfl))
 f214:=Tryd.func57.trans (congrArg some (by kernel_rfl))
 t4:=Tryd.underlying4
 a4:=Tryd.isAgg4
 z4:=Tryd.sizeOf4
 v4:=Tryd.zeroValue4
 t9:=Tryd.underlying9
 a9:=Tryd.isAgg9
 z9:=Tryd.sizeOf9
 v9:=Tryd.zeroValue9}
open Go.RowKit in
theorem Tryd.strconv_FormatBool (b:Bool) (w:World):
  Calls Tryd.prog 51 #[.bool b] w fun e w' =>e= .returned (.string ⟨(Lib.formatBool b).toArray⟩)∧w' =w:=Any.strconv_FormatBool Tryd.lays121 b w
def Tryd.laysM171_ren:Go.Shelf.Ren:=⟨fun|171=>52|243=>58|246=>62|283=>63|284=>64|285=>65|286=>66|129=>68|317=>67|318=>69|319=>70|320=>71|337=>72|338=>73|n=>n,fun|3=>3|9=>9|2=>2|4=>4|171=>119|0=>0|53=>120|37=>91|5=>5|173=>123|212=>127|51=>128|20=>20|213=>129|46=>114|232=>132|233=>133|n=>n,fun|17=>1|18=>2|19=>3|n=>n⟩
theorem Tryd.laysM171:Go.Proofs.LaysM.n171 Tryd.prog Tryd.laysM171_ren:= {
 mixed:=by kernel_rfl
 f129:=Tryd.func68.trans (congrArg some (by kernel_rfl))
 f171:=Tryd.func52.trans (congrArg some (by kernel_rfl))
 f243:=Tryd.func58.trans (congrArg some (by kernel_rfl))
 f246:=Tryd.func62.trans (congrArg some (by kernel_rfl))
 f283:=Tryd.func63.trans (congrArg some (by kernel_rfl))
 f284:=Tryd.func64.trans (congrArg some (by kernel_rfl))
 f285:=Tryd.func65.trans (congrArg some (by kernel_rfl))
 f286:=Tryd.func66.trans (congrArg some (by kernel_rfl))
 f317:=Tryd.func67.trans (congrArg some (by kernel_rfl))
 f318:=Tryd.func69.trans (congrArg some (by kernel_rfl))
 f319:=Tryd.func70.trans (congrArg some (by kernel_rfl))
 f320:=Tryd.func71.trans (congrArg some (by kernel_rfl))
 f337:=Tryd.func72.trans (congrArg some (by kernel_rfl))
 f338:=Tryd.func73.trans (congrArg some (by kernel_rfl))
 t0:=Tryd.underlying0
 a0:=Tryd.isAgg0
 z0:=Tryd.sizeOf0
 v0:=Tryd.zeroValue0
 t2:=Tryd.underlying2
 a2:=Tryd.isAgg2
 z2:=Tryd.sizeOf2
 v2:=Tryd.zeroValue2
 t3:=Tryd.underlying3
 a3:=Tryd.isAgg3
 z3:=Tryd.sizeOf3
 v3:=Tryd.zeroValue3
 t4:=Tryd.underlying4
 a4:=Tryd.isAgg4
 z4:=Tryd.sizeOf4
 v4:=Tryd.zeroValue4
 t5:=Tryd.underlying5
 a5:=Tryd.isAgg5
 z5:=Tryd.sizeOf5
 v5:=Tryd.zeroValue5
 t9:=Tryd.underlying9
 a9:=Tryd.isAgg9
 z9:=Tryd.sizeOf9
 v9:=Tryd.zeroValue9
 t20:=Tryd.underlying20
 a20:=Tryd.isAgg20
 z20:=Tryd.sizeOf20
 v20:=Tryd.zeroValue20
 t37:=Tryd.underlying91
 a37:=Tryd.isAgg91
 z37:=Tryd.sizeOf91
 v37:=Tryd.zeroValue91
 t46:=Tryd.underlying114
 a46:=Tryd.isAgg114
 z46:=Tryd.sizeOf114
 v46:=Tryd.zeroValue114
 t51:=Tryd.underlying128
 a51:=Tryd.isAgg128
 z51:=Tryd.sizeOf128
 v51:=Tryd.zeroValue128
 t53:=Tryd.underlying120
 a53:=Tryd.isAgg120
 z53:=Tryd.sizeOf120
 v53:=Tryd.zeroValue120
 t171:=Tryd.underlying119
 a171:=Tryd.isAgg119
 z171:=Tryd.sizeOf119
 v171:=Tryd.zeroValue119
 t173:=Tryd.underlying123
 a173:=Tryd.isAgg123
 z173:=Tryd.sizeOf123
 v173:=Tryd.zeroValue123
 t212:=Tryd.underlying127
 a212:=Tryd.isAgg127
 z212:=Tryd.sizeOf127
 v212:=Tryd.zeroValue127
 t213:=Tryd.underlying129
 a213:=Tryd.isAgg129
 z213:=Tryd.sizeOf129
 t232:=Tryd.underlying132
 a232:=Tryd.isAgg132
 z232:=Tryd.sizeOf132
 v232:=Tryd.zeroValue132
 t233:=Tryd.underlying133
 a233:=Tryd.isAgg133
 z233:=Tryd.sizeOf133
 v233:=Tryd.zeroValue133
 g17:=by kernel_rfl
 g18:=by kernel_rfl
 g19:=by kernel_rfl
 i0:=by kernel_rfl
 i2:=by kernel_rfl
 i3:=by kernel_rfl
 i4:=by kernel_rfl
 i5:=by kernel_rfl
 i9:=by kernel_rfl
 i20:=by kernel_rfl
 i37:=by kernel_rfl
 i46:=by kernel_rfl
 i51:=by kernel_rfl
 i53:=by kernel_rfl
 i171:=by kernel_rfl
 i173:=by kernel_rfl
 i212:=by kernel_rfl
 i232:=by kernel_rfl
 i233:=by kernel_rfl
 m17:=by kernel_rfl
 m18:=by kernel_rfl
 m19:=by kernel_rfl}
open Go.RowKit Go.Sort Go.Lib in
theorem Tryd.strconv_Itoa (n : Int) (h0 : -9223372036854775808 ≤ n) (h1 : n ≤ 9223372036854775807) (w : World) (htab : Lib.TabIs Tryd.prog w "internal/strconv.uint64pow10" .u64 Lib.pow10Tab) :
  Calls Tryd.prog 52 #[.int .i64 n] w fun e w' =>e= .returned (.string ⟨(Lib.itoa n).toArray⟩)∧∃k os,w' =grow (w.drewN k) os:=Any.strconv_Itoa Tryd.laysM171 n h0 h1 w htab
end Go.Proofs

namespace Go.Proofs.YtcgcjihjhlenkaaDoor
open Go
def pow10V:List Value:=Lib.pow10Tab.map fun z=>Value.int .u64 z
end Go.Proofs.YtcgcjihjhlenkaaDoor

set_option linter.unusedSimpArgs false
set_option linter.unusedVariables false
namespace Go.Proofs.YtcgcjihjhlenkaaDoor
open Go Go.Ab Go.Bf
theorem u9:(U 9).sz=1:=by rfl
theorem u9a:(U 9).k.agg=false:=by rfl
theorem u9b:(U 9).bytes=16:=by rfl
theorem u9f:fit (U 9).zero 1:=by rfl
theorem u9n:isAggA (U 9).zero=false:=by rfl
abbrev PowT (h:Heap):Prop:=Tab h 1 pow10V
theorem itoa_ok (n:Int) (h) (hn: -9223372036854775808≤n∧n≤9223372036854775807) (ht:PowT h):FnOK Tryd.prog 52 [.v (.int .i64 n)] h fun r h' =>r= .s (Lib.itoa n)∧h' =h:=by
 refine .lib ⟨_,Tryd.func52,by rfl,rfl⟩ fun c vs hs g h1 h2=> ?_
 obtain ⟨v,rfl⟩:∃v,vs= #[v]:=Array.size_eq_one_iff.1 h1
 have e:v= .int .i64 n:=(h2 0 (by simp)).v_inv
 subst e
 have hv := ht.var (P := Tryd.prog) (name := "internal/strconv.uint64pow10") (by rfl) hs g
 refine (Tryd.strconv_Itoa n hn.1 hn.2 c.w (by unfold Lib.TabIs; rw [hv]; rfl)).mono ?_
 rintro e w' ⟨rfl,k,os,rfl⟩
 refine ⟨⟨_,rfl,fun c' _=> .s _ ?_⟩,rfl,rfl,rfl, ?_,fun k hk=> ?_⟩
 ·grind [Lib.itoa_length_le,Nat,lim]
 ·simp
 ·show (_++os)[k]? =_
  simp_all [Array.getElem?_append,if_pos]
theorem fbool_ok (b) (h):FnOK Tryd.prog 51 [.v (.bool b)] h fun r h' =>r= .s (Lib.formatBool b)∧h' =h:=by
 refine .lib ⟨_,Tryd.func51,by rfl,rfl⟩ fun c vs hs g h1 h2=> ?_
 obtain ⟨v,rfl⟩:∃v,vs= #[v]:=Array.size_eq_one_iff.1 h1
 have e:v= .bool b:=(h2 0 (by simp)).v_inv
 subst e
 refine (Tryd.strconv_FormatBool b c.w).mono ?_
 rintro e w' ⟨rfl,rfl⟩
 exact ⟨⟨_,rfl,fun c' _=> .s _ (by cases b<;>decide)⟩, .refl _ _⟩
theorem s_cells (l:List Txt):One (l.map AV.s):=One.map (fun _=>rfl) l
theorem join_ok (y:AV) (xs:List Txt) (sep:Txt) (h:Heap) (hy:SeqA 9 h y (xs.map AV.s)) (hlen:(Lib.join xs sep).length≤140737488355328) (hn:xs.length≤140737488355328):
  FnOK Tryd.prog 34 [y, .s sep] h fun r h' =>r= .s (Lib.join xs sep)∧h' =h:=by
 refine .lib ⟨_,Tryd.func34,by kernel_rfl,rfl⟩ fun c vs hs g h1 h2=> ?_
 obtain ⟨u,v,rfl⟩:∃u v,vs= #[u,v]:=by
  match vs,h1 with
  |⟨[u,v]⟩,_=>exact ⟨u,v,rfl⟩
 obtain ⟨e1,e2⟩:=(h2 1 (by simp)).s_inv
 have e1:v= .string ⟨sep.toArray⟩:=e1
 subst e1
 have hu:Rep c y u:=h2 0 (by simp)
 have fin:(Lib.join xs sep).length<lim:=by
  have:(140737488355328:Nat)<lim:=by decide
  omega
 by_cases hx:xs= []
 ·subst hx
  obtain ⟨a,k,rfl⟩:∃a k,u= .slice a 0 k:=by
   rcases hy with ⟨q,rfl⟩|⟨id,off,cs,rfl,_⟩
   ·obtain ⟨a,cap,sz,val,e,_⟩:=hu.sl_inv; exact ⟨a,cap,e⟩
   ·obtain ⟨cap,o,e,_⟩:=hu.oa_inv; exact ⟨_,cap,e⟩
  refine (Tryd.strings_Join_none a k ⟨sep.toArray⟩ c.w).mono ?_
  rintro e w' ⟨rfl,rfl⟩
  exact ⟨⟨_,rfl,fun c' _=> .s [] (by decide)⟩, .refl _ _⟩
 ·have hpos:0<xs.length:=List.length_pos_iff.2 hx
  obtain ⟨bk,o,cap,rfl,hcap,hbk,hcell⟩:∃bk o cap,u= .slice (some ⟨bk,o,none⟩) xs.length cap∧xs.length≤cap∧bk<c.w.heap.size∧∀j (hj:j<xs.length),c.w.cell? ⟨bk,o+j,none⟩=some (.string ⟨xs[j].toArray⟩):=by
   rcases hy with ⟨q,rfl⟩|⟨id,off,cs,rfl,g1,g2,g3⟩
   ·obtain ⟨a,cap,sz,val,e,hsl⟩:=hu.sl_inv
    have hc:=hsl.hc
    simp only [List.length_map] at e hc
    have hz1:sz=1:=by
     have:=hsl.hz 0 (by simpa using hpos)
     simpa [AV.cells] using this.symm
    subst hz1
    cases a with
    |none=>have:=hsl.h0 rfl; omega
    |some p=>
     obtain ⟨pb,po,ps⟩:=p
     obtain ⟨k1,k2⟩:=hsl.hs _ rfl (by omega)
     simp only at k1 k2
     subst k1
     refine ⟨pb,po,cap,e,hc,k2,fun j hj=> ?_⟩
     have f1:=(hsl.hf _ rfl j 0 (by simpa using hj) (by omega)).1
     have f2:=hsl.hr j (by simpa using hj) 0 (by simp [AV.cells])
     have f3:Rep c (.s xs[j]) (val j 0):=by simpa [AV.cells] using f2
     rw [f3.s_inv.1] at f1
     simpa using f1
   ·obtain ⟨cap,o,e,k1,k2,k3,cs',t',k4,k5⟩:=hu.oa_inv
    simp only [List.length_map] at e k1 k3
    rw [hs _ _ g1] at k4
    cases k4
    obtain ⟨vs',m1,m2,m3⟩:=g.obj id _ _ (hs _ _ g1)
    have ho:o=off:=k3 (by omega)
    subst ho
    refine ⟨_,o,cap,e,k1, ?_,fun j hj=> ?_⟩
    ·exact lt_of_get m1
    ·simp only [List.length_map] at g2 g3
     have hlt:o+j<cs.length:=by omega
     have e5:cs[o+j]'hlt= .s xs[j]:=by
      have:=congrArg (fun q=>q[j]?) g3
      simp only [List.getElem?_take,hj,if_true,List.getElem?_drop,List.getElem?_map,List.getElem?_eq_getElem hj,Option.map_some] at this
      rw [List.getElem?_eq_getElem hlt] at this
      simpa using this
     have m4:=(m3 (o+j) hlt).1
     rw [e5] at m4
     have m5:=m4.s_inv.1
     have hlv:o+j<vs'.size:=by omega
     simp only [World.cell?,m1]
     simp only [Array.getD,hlv,dite_true] at m5
     rw [Array.getElem?_eq_getElem hlv]
     exact congrArg some m5
  have hl:xs.length=(xs.map fun l=>(⟨l.toArray⟩:ByteArray)).length:=by simp
  have hmap:(xs.map fun l=>(⟨l.toArray⟩:ByteArray)).map (·.data.toList)=xs:=by
   rw [List.map_map]
   exact (List.map_congr_left (g:=id) fun _ _=>rfl).trans (List.map_id xs)
  have hsep:(⟨sep.toArray⟩:ByteArray).data.toList=sep:=rfl
  have key:=Tryd.strings_Join bk o cap (xs.map fun l=>(⟨l.toArray⟩:ByteArray)) ⟨sep.toArray⟩ c.w (fun j x hjx=>by
   rw [List.getElem?_map,Option.map_eq_some_iff] at hjx
   obtain ⟨l,hl,rfl⟩:=hjx
   obtain ⟨hlt,rfl⟩:=List.getElem?_eq_some_iff.1 hl
   exact hcell j hlt) hbk (by simpa using hn) (by simpa using hcap) (by rw [hmap,hsep]; exact hlen)
  rw [hmap,hsep] at key
  simp only [List.length_map] at key
  refine key.mono ?_
  rintro e w' ⟨rfl,hb⟩
  exact ⟨⟨_,rfl,fun c' _=> .s _ fin⟩,hb⟩
end Go.Proofs.YtcgcjihjhlenkaaDoor

set_option linter.unusedSimpArgs false
set_option linter.unusedVariables false
namespace Go.Proofs.YtcgcjihjhlenkaaDoor
open Go Go.Ab Go.Bf
theorem word_ok (n:Int) (i:Nat) (y:AV) (ws:List Txt) (h:Heap) (hy:SeqA 9 h y (ws.map AV.s)) (hn:n=i+1) (hi:i<ws.length) (hl:i<1000):
  FnOK Tryd.prog 24 [.v (.int .i64 n),y] h fun r h' =>r= .s ws[i]∧h' =h:=by
 refine FnOK.body hU hm Tryd.func24 rfl (by kernel_rfl) 10 rfl [.tmp 4] rfl (Nat.le_of_ble_eq_true rfl) (fun hwf=> ?_)
 have w1:IntKind.i64.wrap (n - 1)=((i:Nat):Int):=by rw [wr64 _ (by omega)]; omega
 simp -implicitDefEqProofs only [go_sem,w1]
 refine hy.idx (s_cells ws) i rfl (by simpa using hi) u9 u9a fun p hp=> ?_
 simp -implicitDefEqProofs only [go_sem,hp _,List.getElem_map]
 exact .same (.refl _) ⟨rfl,rfl⟩
theorem words_cat (n:Int) (h1:1≤n) (h4:n≤4):∃i:Nat,n=i+1∧∃hi:i< [[115,117,98,106,101,99,116],[97,99,116,105,111,110],[99,97,115,101],[101,110,118]].length,([[115,117,98,106,101,99,116],[97,99,116,105,111,110],[99,97,115,101],[101,110,118]]:List Txt)[i]'hi=catW n:=by
 rcases (by omega:n=1∨n=2∨n=3∨n=4) with rfl|rfl|rfl|rfl
 ·exact ⟨0,rfl,by decide,rfl⟩
 ·exact ⟨1,rfl,by decide,rfl⟩
 ·exact ⟨2,rfl,by decide,rfl⟩
 ·exact ⟨3,rfl,by decide,rfl⟩
def attrS (a:AttrD):Txt:=if attrOK a then attrT a else []
theorem sattr_ok (a:AttrD) (h:Heap):FnOK Tryd.prog 39 [attrA a] h fun r h' =>r= .s (attrS a)∧h' =h:=by
 refine FnOK.body hU hm Tryd.func39 rfl (by kernel_rfl) 20 rfl [.tmp 2] rfl (Nat.le_of_ble_eq_true rfl) (fun hwf=> ?_)
 simp -implicitDefEqProofs only [go_sem,attrA]
 intro id hid
 simp -implicitDefEqProofs only [go_sem]
 refine (attr_ok a _).pthen ?_
 cases d1:attrOK a
 ·simp -implicitDefEqProofs only [go_sem,d1]
  exact .mk _ (.refl _) (.upd_new hid) ⟨by simp [attrS,d1,oneOr],rfl⟩
 have hle:=attrT_le d1
 have hc:1≤a.cat∧a.cat≤4:=by simp [attrOK] at d1; exact d1.1
 obtain ⟨i,hn,hi,hw⟩:=words_cat a.cat hc.1 hc.2
 simp -implicitDefEqProofs only [go_sem,d1]
 refine .quiet (by kernel_rfl) ?_
 simp -implicitDefEqProofs only [go_sem]
 refine ⟨_,word_ok a.cat i _ [[115,117,98,106,101,99,116],[97,99,116,105,111,110],[99,97,115,101],[101,110,118]] _ (.sl _ _) hn hi (by simp at hi; omega), ?_⟩
 rw [hw]
 have hl:lim=9223372036854775808:=rfl
 have e0:(attrT a).length≤25:=hle
 unfold attrT at hle
 simp only [List.length_append,List.length_cons,List.length_nil] at hle
 have c1:(catW a.cat).length+(0+1)<lim:=by omega
 have c2:(catW a.cat++ [46]).length+a.name.length<lim:=by simp only [List.length_append,List.length_cons,List.length_nil]; omega
 cases d2:a.must
 ·simp -implicitDefEqProofs only [go_sem,c1,c2,d2]
  exact .mk _ (.refl _) (.upd_new hid) ⟨by simp [attrS,attrT,d1,d2,oneOr],rfl⟩
 ·have c3:(catW a.cat++ [46]++a.name).length+(0+1)<lim:=by simp only [List.length_append,List.length_cons,List.length_nil]; omega
  simp -implicitDefEqProofs only [go_sem,c1,c2,c3,d2]
  exact .mk _ (.refl _) (.upd_new hid) ⟨by simp [attrS,attrT,d1,d2,oneOr],rfl⟩
end Go.Proofs.YtcgcjihjhlenkaaDoor

set_option linter.unusedSimpArgs false
set_option linter.unusedVariables false
namespace Go.Proofs.YtcgcjihjhlenkaaDoor
open Go Go.Ab Go.Bf
def Quoted:Prop:=∀(s:Txt) (h:Heap),s.length≤64→FnOK Tryd.prog 53 [.s s] h fun r h' =>r= .s (quoteT s)∧h' =h
def valS (v:ValD):Txt:=if valOK v then Bf.valT v else []
theorem vtext_ok (Q:Quoted) (v:ValD) (hi:inV v) (h:Heap) (ht:PowT h):FnOK Tryd.prog 40 [valA v] h fun r h' =>r= .s (valS v)∧h' =h:=by
 refine FnOK.body hU hm Tryd.func40 rfl (by kernel_rfl) 33 rfl [.tmp 2] rfl (Nat.le_of_ble_eq_true rfl) (fun hwf=> ?_)
 simp -implicitDefEqProofs only [go_sem,valA]
 intro id hid
 have ht2:PowT (upd h id (some (.obj [.v (.int .i64 v.kind), .v (.int .i64 v.n), .s v.s] 52))):=ht.sub (.upd_new hid)
 simp -implicitDefEqProofs only [go_sem]
 refine (valRight_ok v _).pthen ?_
 cases d1:valOK v
 ·simp -implicitDefEqProofs only [go_sem,d1]
  exact .mk _ (.refl _) (.upd_new hid) ⟨by grind [valS,oneOr],rfl⟩
 have hl:lim=9223372036854775808:=rfl
 have hil:=Lib.itoa_length_le v.n hi.1 hi.2
 cases k1:(v.kind==1)
 case true=>
  have e1:v.kind=1:=by grind
  simp -implicitDefEqProofs only [go_sem,d1,k1]
  refine (fbool_ok _ _).pthen ?_
  simp -implicitDefEqProofs only [go_sem]
  exact .mk _ (.refl _) (.upd_new hid) ⟨by grind [valS,Bf.valT,oneOr],rfl⟩
 have e1:v.kind≠1:=by grind
 cases k4:(v.kind==4)
 case true=>
  have e4:v.kind=4:=by grind
  simp -implicitDefEqProofs only [go_sem,d1,k1,k4]
  refine (itoa_ok _ _ hi ht2).pthen ?_
  have c1:0+1+(Lib.itoa v.n).length<lim:=by omega
  simp -implicitDefEqProofs only [go_sem,c1]
  exact .mk _ (.refl _) (.upd_new hid) ⟨by grind [valS,Bf.valT,oneOr],rfl⟩
 have e4:v.kind≠4:=by grind
 cases k5:(v.kind==5)
 case true=>
  have e5:v.kind=5:=by grind
  have hn:v.s.length≤16:=by
   grind [valOK,nameOK_le]
  have c1:0+1+v.s.length<lim:=by omega
  simp -implicitDefEqProofs only [go_sem,d1,k1,k4,k5,c1]
  exact .mk _ (.refl _) (.upd_new hid) ⟨by grind [valS,Bf.valT,oneOr],rfl⟩
 have e5:v.kind≠5:=by grind
 cases k3:(v.kind==3)
 case true=>
  have e3:v.kind=3:=by grind
  have hn:v.s.length≤64:=by
   grind [valOK]
  simp -implicitDefEqProofs only [go_sem,d1,k1,k4,k5,k3]
  refine (Q _ _ hn).pthen ?_
  simp -implicitDefEqProofs only [go_sem]
  exact .mk _ (.refl _) (.upd_new hid) ⟨by grind [valS,Bf.valT,oneOr],rfl⟩
 have e3:v.kind≠3:=by grind
 simp -implicitDefEqProofs only [go_sem,d1,k1,k4,k5,k3]
 refine (itoa_ok _ _ hi ht2).pthen ?_
 simp -implicitDefEqProofs only [go_sem]
 exact .mk _ (.refl _) (.upd_new hid) ⟨by grind [valS,Bf.valT,oneOr],rfl⟩
theorem words_op (n:Int) (h1:1≤n) (h4:n≤3):∃i:Nat,n=i+1∧∃hi:i< [[61],[60],[62]].length,([[61],[60],[62]]:List Txt)[i]'hi=opW n:=by
 rcases (by omega:n=1∨n=2∨n=3) with rfl|rfl|rfl
 ·exact ⟨0,rfl,by decide,rfl⟩
 ·exact ⟨1,rfl,by decide,rfl⟩
 ·exact ⟨2,rfl,by decide,rfl⟩
theorem all_ok (Q:Quoted) (l:List MatchD) (he:allE l=0) (hi:inA l) (h:Heap) (ht:PowT h):FnOK Tryd.prog 33 [allA l] h fun r h' =>r= .s (allT l)∧h' =h:=by
 refine FnOK.body hU hm Tryd.func33 rfl (by kernel_rfl) 32 rfl [.tmp 2] rfl (Nat.le_of_ble_eq_true rfl) (fun hwf=> ?_)
 obtain ⟨_,hl8,hok⟩:=allE_zero he
 simp -implicitDefEqProofs only [go_sem,allA,List.length_map]
 refine .intro (fun m ρ h' =>∃(i:Nat) (y:AV),WrA 9 h h' y (((l.take i).map matchT).map AV.s)∧i≤l.length∧m=l.length - i∧lk ρ 3=some y∧lk ρ 6=some (.sl (l.map matchA) .no)∧lk ρ 7=some (.v (.int .i64 l.length))∧lk ρ 8=some (.v (.int .i64 i))) l.length ?_ ?_
 ·refine ⟨0,_, .nil (.refl _),by omega,rfl, ?_, ?_, ?_, ?_⟩<;>simp -implicitDefEqProofs only [go_sem]
 ·rintro m ρ h' ⟨i,y,hy,hil,rfl,r3,r6,r7,r8⟩
  simp -implicitDefEqProofs only [go_sem,r3,r6,r7,r8]
  refine .intro (fun e=> ?_) (fun e=> ?_)
  ·have hlt:i<l.length:=Int.ofNat_lt.1 (of_decide_eq_true e)
   have w1:IntKind.i64.wrap ((i:Int)+1)=((i+1:Nat):Int):=by rw [wr64 _ (by omega)]; omega
   have hmk:=matchOK_cases (hok l[i] (List.getElem_mem hlt))
   have hin:=hi l[i] (List.getElem_mem hlt)
   obtain ⟨j,hn,hj,hw⟩:=words_op l[i].op hmk.2.1 hmk.2.2.1
   have ha:=attrT_le hmk.1
   have hv:=valT_le hmk.2.2.2 hin.1 hin.2
   have ho:=opW_le l[i].op
   have hlim:lim=9223372036854775808:=rfl
   simp -implicitDefEqProofs only [go_sem,r3,r6,r7,r8]
   refine .at i (by simpa using hlt) (by rw [List.getElem_map]; rfl) ?_
   simp -implicitDefEqProofs only [go_sem,r3,r6,r7,r8,List.getElem_map,matchA]
   intro id hid
   have hyb:=hy.base hid (some (.obj [.v (.int .i64 l[i].attr.cat), .s l[i].attr.name, .v (.bool l[i].attr.must), .v (.int .i64 l[i].op), .v (.int .i64 l[i].val.kind), .v (.int .i64 l[i].val.n), .s l[i].val.s] 54))
   simp -implicitDefEqProofs only [go_sem,r3,r6,r7,r8]
   obtain ⟨hb,ehb⟩:∃hb,upd h' id (some (.obj [.v (.int .i64 l[i].attr.cat), .s l[i].attr.name, .v (.bool l[i].attr.must), .v (.int .i64 l[i].op), .v (.int .i64 l[i].val.kind), .v (.int .i64 l[i].val.n), .s l[i].val.s] 54))=hb:=⟨_,rfl⟩
   have hbid:hb id=some (.obj [.v (.int .i64 l[i].attr.cat), .s l[i].attr.name, .v (.bool l[i].attr.must), .v (.int .i64 l[i].op), .v (.int .i64 l[i].val.kind), .v (.int .i64 l[i].val.n), .s l[i].val.s] 54):=by rw [←ehb]; exact upd_same ..
   rw [ehb] at hyb⊢
   have htb:PowT hb:=(ht.sub (Sub.upd_new (hy.1.none hid))).sub hyb.1
   refine .calls (hm1 id _) [0,1,2,5,6,7,11,12,3,4,8,9,10,13,14,15,16,17] (.hm1 hbid) (by kernel_rfl) rfl ?_
   simp -implicitDefEqProofs only [go_sem,r3,r6,r7,r8,hm1_same]
   have e1:attrS l[i].attr=attrT l[i].attr:=by simp [attrS,hmk.1]
   have e2:valS l[i].val=Bf.valT l[i].val:=by simp [valS,hmk.2.2.2]
   have hsa:=sattr_ok l[i].attr hb
   rw [e1] at hsa
   have hsv:=vtext_ok Q l[i].val hin hb htb
   rw [e2] at hsv
   have hsw:=word_ok l[i].op j (.sl [.s [61], .s [60], .s [62]] .full) [[61],[60],[62]] hb (.sl _ _) hn hj (by simp at hj; omega)
   rw [hw] at hsw
   refine hsa.pthen ?_
   refine ⟨.hm1 hbid, ?_⟩
   have c1:(attrT l[i].attr).length+(0+1)<lim:=by omega
   simp -implicitDefEqProofs only [go_sem,r3,r6,r7,r8,hm1_same,c1]
   refine hsw.pthen ?_
   refine ⟨.hm1 hbid, ?_⟩
   have c2:(attrT l[i].attr++ [32]).length+(opW l[i].op).length<lim:=by simp only [List.length_append,List.length_cons,List.length_nil]; omega
   have c3:(attrT l[i].attr++ [32]++opW l[i].op).length+(0+1)<lim:=by simp only [List.length_append,List.length_cons,List.length_nil]; omega
   have c4:(attrT l[i].attr++ [32]++opW l[i].op++ [32]).length+(Bf.valT l[i].val).length<lim:=by simp only [List.length_append,List.length_cons,List.length_nil]; omega
   simp -implicitDefEqProofs only [go_sem,r3,r6,r7,r8,hm1_same,c2,c3]
   refine hsv.pthen ?_
   refine ⟨.hm1 hbid, ?_⟩
   simp -implicitDefEqProofs only [go_sem,r3,r6,r7,r8,hm1_same,c4]
   refine hyb.app (zs:= [.s (matchT l[i])]) (s_cells _) (s_cells [matchT l[i]]) u9 (by rw [u9b]; decide) u9f u9n (fun k hk=>hk) (by rw [u9b]; simp; omega) fun z' h2 hz' => ?_
   refine ⟨fun j b hj=>((Sub.hm1 (upd_same ..)).trans hz'.1) j b hj, ?_⟩
   simp -implicitDefEqProofs only [go_sem,r3,r6,r7,r8,w1]
   refine ⟨_, ?_,i+1,z', ?_,by omega,rfl, ?_, ?_, ?_, ?_⟩
   ·omega
   ·rw [List.take_succ_eq_append_getElem hlt,List.map_append,List.map_append]
    exact hz'.less (Sub.upd_new (hy.1.none hid))
   all_goals simp -implicitDefEqProofs only [go_sem,r3,r6,r7,r8,w1]
  ·have hge:i=l.length:=by have:=of_decide_eq_false e; omega
   subst hge
   rw [List.take_length] at hy
   have hj:=join_le (l.map matchT) [44,32] 8 222 (by simpa using hl8) fun x hx=>by
    obtain ⟨m,hm,rfl⟩:=List.mem_map.1 hx
    have:=matchOK_cases (hok m hm)
    exact matchT_le this.1 (valT_le this.2.2.2 (hi m hm).1 (hi m hm).2)
   simp only [List.length_cons,List.length_nil] at hj
   simp -implicitDefEqProofs only [go_sem,r3,r6,r7,r8]
   refine (join_ok y (l.map matchT) [44,32] _ hy.seq (by omega) (by simp; omega)).pthen ?_
   simp -implicitDefEqProofs only [go_sem]
   exact .mk _ (.refl _) hy.1 ⟨rfl,rfl⟩
end Go.Proofs.YtcgcjihjhlenkaaDoor

set_option linter.unusedSimpArgs false
set_option linter.unusedVariables false
namespace Go.Proofs.YtcgcjihjhlenkaaDoor
open Go Go.Ab Go.Bf
theorem starget_ok (Q:Quoted) (l:TgtD) (he:tgtE l=0) (hi:inT l) (h:Heap) (ht:PowT h):FnOK Tryd.prog 25 [tgtA l] h fun r h' =>r= .s (tgtT l)∧h' =h:=by
 refine FnOK.body hU hm Tryd.func25 rfl (by kernel_rfl) 41 rfl [.tmp 2] rfl (Nat.le_of_ble_eq_true rfl) (fun hwf=> ?_)
 obtain ⟨hl8,hok⟩:=tgtE_zero he
 have hlim:lim=9223372036854775808:=rfl
 cases d0:((l.length:Int)==0)
 case true=>
  have e0:l= []:=by have:(l.length:Int)=0:=(by simpa using d0); exact List.length_eq_zero_iff.1 (by omega)
  simp -implicitDefEqProofs only [go_sem,tgtA,List.length_map,d0]
  exact .same (.refl _) ⟨by simp [tgtT,e0,oneOr],rfl⟩
 have e0:l≠ []:=by rintro rfl; simp at d0
 simp -implicitDefEqProofs only [go_sem,tgtA,List.length_map,d0]
 refine .intro (fun m ρ h' =>∃(i:Nat) (y:AV),WrA 9 h h' y (((l.take i).map anyT).map AV.s)∧i≤l.length∧m=l.length - i∧lk ρ 3=some y∧lk ρ 12=some (.sl (l.map anyA) .no)∧lk ρ 13=some (.v (.int .i64 l.length))∧lk ρ 14=some (.v (.int .i64 i))) l.length ?_ ?_
 ·refine ⟨0,_, .nil (.refl _),by omega,rfl, ?_, ?_, ?_, ?_⟩<;>simp -implicitDefEqProofs only [go_sem]
 ·rintro m ρ h' ⟨i,y,hy,hil,rfl,r3,r12,r13,r14⟩
  simp -implicitDefEqProofs only [go_sem,r3,r12,r13,r14]
  refine .intro (fun e=> ?_) (fun e=> ?_)
  ·have hlt:i<l.length:=Int.ofNat_lt.1 (of_decide_eq_true e)
   have w1:IntKind.i64.wrap ((i:Int)+1)=((i+1:Nat):Int):=by rw [wr64 _ (by omega)]; omega
   obtain ⟨x,ex⟩:∃x,l[i]=x:=⟨_,rfl⟩
   have hax:anyE x=0:=by rw [←ex]; exact hok _ (List.getElem_mem hlt)
   have hix:inY x:=by rw [←ex]; exact hi _ (List.getElem_mem hlt)
   obtain ⟨_,hx8,hxo⟩:=anyE_zero hax
   simp -implicitDefEqProofs only [go_sem,r3,r12,r13,r14]
   refine .at i (by simpa using hlt) (by rw [List.getElem_map]; rfl) ?_
   simp -implicitDefEqProofs only [go_sem,r3,r12,r13,r14,List.getElem_map,ex,anyA,List.length_map]
   refine .intro (fun m ρ h2=>∃(k:Nat) (z:AV),WrA 9 h' h2 z (((x.take k).map allT).map AV.s)∧k≤x.length∧m=x.length - k∧lk ρ 6=some z∧lk ρ 18=some (.sl (x.map allA) .no)∧lk ρ 19=some (.v (.int .i64 x.length))∧lk ρ 20=some (.v (.int .i64 k))∧
    lk ρ 3=some y∧lk ρ 12=some (.sl (l.map anyA) .no)∧lk ρ 13=some (.v (.int .i64 l.length))∧lk ρ 14=some (.v (.int .i64 i))) x.length ?_ ?_
   ·refine ⟨0,_, .nil (.refl _),by omega,rfl, ?_, ?_, ?_, ?_, ?_, ?_, ?_, ?_⟩<;>simp -implicitDefEqProofs only [go_sem,r3,r12,r13,r14]
   ·rintro m ρ h2 ⟨k,z,hz,hkl,rfl,r6,r18,r19,r20,r3,r12,r13,r14⟩
    simp -implicitDefEqProofs only [go_sem,r3,r12,r13,r14,r6,r18,r19,r20]
    refine .intro (fun e2=> ?_) (fun e2=> ?_)
    ·have hkt:k<x.length:=Int.ofNat_lt.1 (of_decide_eq_true e2)
     have w2:IntKind.i64.wrap ((k:Int)+1)=((k+1:Nat):Int):=by rw [wr64 _ (by omega)]; omega
     simp -implicitDefEqProofs only [go_sem,r3,r12,r13,r14,r6,r18,r19,r20]
     refine .at k (by simpa using hkt) (by rw [List.getElem_map]; rfl) ?_
     simp -implicitDefEqProofs only [go_sem,r3,r12,r13,r14,r6,r18,r19,r20,List.getElem_map,allA]
     have hal:=all_ok Q x[k] (hxo _ (List.getElem_mem hkt)) (hix _ (List.getElem_mem hkt)) h2 ((ht.sub hy.1).sub hz.1)
     simp only [allA] at hal
     refine hal.pthen ?_
     simp -implicitDefEqProofs only [go_sem,r3,r12,r13,r14,r6,r18,r19,r20]
     refine hz.app (zs:= [.s (allT x[k])]) (s_cells _) (s_cells [allT x[k]]) u9 (by rw [u9b]; decide) u9f u9n (fun k hk=>hk) (by rw [u9b]; simp; omega) fun z' h3 hz' => ?_
     simp -implicitDefEqProofs only [go_sem,r3,r12,r13,r14,r6,r18,r19,r20,w2]
     refine ⟨_, ?_,k+1,z', ?_,by omega,rfl, ?_, ?_, ?_, ?_, ?_, ?_, ?_, ?_⟩
     ·omega
     ·rw [List.take_succ_eq_append_getElem hkt,List.map_append,List.map_append]
      exact hz'
     all_goals simp -implicitDefEqProofs only [go_sem,r3,r12,r13,r14,r6,r18,r19,r20,w2]
    ·have hge:k=x.length:=by have:=of_decide_eq_false e2; omega
     subst hge
     rw [List.take_length] at hz
     have hj:=join_le (x.map allT) [32,111,114,32] 8 1792 (by simpa using hx8) fun s hs=>by
      obtain ⟨m,hm,rfl⟩:=List.mem_map.1 hs
      exact allT_le (hxo m hm) (hix m hm)
     simp only [List.length_cons,List.length_nil] at hj
     have hy2:=hy.sub hz.1
     simp -implicitDefEqProofs only [go_sem,r3,r12,r13,r14,r6,r18,r19,r20]
     refine (join_ok z (x.map allT) [32,111,114,32] _ hz.seq (by omega) (by simp; omega)).pthen ?_
     have c1:0+1+(Lib.join (x.map allT) [32,111,114,32]).length<lim:=by omega
     have c2:([40]++Lib.join (x.map allT) [32,111,114,32]).length+(0+1)<lim:=by simp only [List.length_append,List.length_cons,List.length_nil]; omega
     simp -implicitDefEqProofs only [go_sem,r3,r12,r13,r14,r6,r18,r19,r20,c1,c2]
     refine ⟨by omega, ?_⟩
     refine hy2.app (zs:= [.s (40::(Lib.join (x.map allT) [32,111,114,32]++ [41]))]) (s_cells _) (s_cells [40::(Lib.join (x.map allT) [32,111,114,32]++ [41])]) u9 (by rw [u9b]; decide) u9f u9n (fun k hk=>hk) (by rw [u9b]; simp; omega) fun y' h3 hy' => ?_
     simp -implicitDefEqProofs only [go_sem,r3,r12,r13,r14,r6,r18,r19,r20,w1]
     refine ⟨_, ?_,i+1,y', ?_,by omega,rfl, ?_, ?_, ?_, ?_⟩
     ·omega
     ·rw [List.take_succ_eq_append_getElem hlt,List.map_append,List.map_append,ex]
      exact hy'
     all_goals simp -implicitDefEqProofs only [go_sem,r3,r12,r13,r14,r6,r18,r19,r20,w1]
  ·have hge:i=l.length:=by have:=of_decide_eq_false e; omega
   subst hge
   rw [List.take_length] at hy
   have hj:=join_le (l.map anyT) [32,97,110,100,32] 8 14370 (by simpa using hl8) fun s hs=>by
    obtain ⟨m,hm,rfl⟩:=List.mem_map.1 hs
    exact anyT_le (hok m hm) (hi m hm)
   simp only [List.length_cons,List.length_nil] at hj
   simp -implicitDefEqProofs only [go_sem,r3,r12,r13,r14]
   refine (join_ok y (l.map anyT) [32,97,110,100,32] _ hy.seq (by omega) (by simp; omega)).pthen ?_
   have c1:0+1+1+1+1+1+1+(Lib.join (l.map anyT) [32,97,110,100,32]).length<lim:=by omega
   simp -implicitDefEqProofs only [go_sem,c1]
   exact .mk _ (.refl _) hy.1 ⟨by simp [tgtT,e0,oneOr],rfl⟩
theorem words_on (n:Int) (h1:1≤n) (h4:n≤2):∃i:Nat,n=i+1∧∃hi:i< [[112,101,114,109,105,116],[100,101,110,121]].length,([[112,101,114,109,105,116],[100,101,110,121]]:List Txt)[i]'hi=onW n:=by
 rcases (by omega:n=1∨n=2) with rfl|rfl
 ·exact ⟨0,rfl,by decide,rfl⟩
 ·exact ⟨1,rfl,by decide,rfl⟩
theorem words_duty (n:Int) (h1:1≤n) (h4:n≤4):∃i:Nat,n=i+1∧∃hi:i< [[108,111,103],[114,101,100,97,99,116],[114,101,118,105,101,119],[110,111,116,105,102,121]].length,([[108,111,103],[114,101,100,97,99,116],[114,101,118,105,101,119],[110,111,116,105,102,121]]:List Txt)[i]'hi=dutyW n:=by
 rcases (by omega:n=1∨n=2∨n=3∨n=4) with rfl|rfl|rfl|rfl
 ·exact ⟨0,rfl,by decide,rfl⟩
 ·exact ⟨1,rfl,by decide,rfl⟩
 ·exact ⟨2,rfl,by decide,rfl⟩
 ·exact ⟨3,rfl,by decide,rfl⟩
theorem oblOK_cases {o:OblD} (h:oblOK o=true):1≤o.on∧o.on≤2∧1≤o.kind∧o.kind≤4∧nameOK o.arg=true:=by
 simp only [oblOK,Bool.and_eq_true,decide_eq_true_eq] at h
 exact ⟨h.1.1.1.1,h.1.1.1.2,h.1.1.2,h.1.2,h.2⟩
theorem sduties_ok (l:List OblD) (he:oblsE l=0) (h:Heap):FnOK Tryd.prog 27 [oblsA l] h fun r h' =>r= .s (oblsT l)∧h' =h:=by
 refine FnOK.body hU hm Tryd.func27 rfl (by kernel_rfl) 31 rfl [.tmp 2] rfl (Nat.le_of_ble_eq_true rfl) (fun hwf=> ?_)
 obtain ⟨hl8,hok⟩:=oblsE_zero he
 have hlim:lim=9223372036854775808:=rfl
 simp -implicitDefEqProofs only [go_sem,oblsA,List.length_map]
 refine .intro (fun m ρ h' =>Ab.Sub h h'∧∃(i:Nat),i≤l.length∧m=l.length - i∧lk ρ 3=some (.s (((l.take i).map oblT).flatten))∧lk ρ 6=some (.sl (l.map oblA) .no)∧lk ρ 7=some (.v (.int .i64 l.length))∧lk ρ 8=some (.v (.int .i64 i))) l.length ?_ ?_
 ·refine ⟨.refl _,0,by omega,rfl, ?_, ?_, ?_, ?_⟩<;>simp -implicitDefEqProofs only [go_sem]<;>rfl
 ·rintro m ρ h' ⟨hs,i,hil,rfl,r3,r6,r7,r8⟩
  simp -implicitDefEqProofs only [go_sem,r3,r6,r7,r8]
  refine .intro (fun e=> ?_) (fun e=> ?_)
  ·have hlt:i<l.length:=Int.ofNat_lt.1 (of_decide_eq_true e)
   have w1:IntKind.i64.wrap ((i:Int)+1)=((i+1:Nat):Int):=by rw [wr64 _ (by omega)]; omega
   have hmk:=oblOK_cases (hok l[i] (List.getElem_mem hlt))
   have hle:=oblT_le (hok l[i] (List.getElem_mem hlt))
   obtain ⟨j,hn,hj,hw⟩:=words_on l[i].on hmk.1 hmk.2.1
   obtain ⟨j2,hn2,hj2,hw2⟩:=words_duty l[i].kind hmk.2.2.1 hmk.2.2.2.1
   have hpre:=flatten_le ((l.take i).map oblT) 8 34 (by simp; omega) fun x hx=>by
    obtain ⟨o,ho,rfl⟩:=List.mem_map.1 hx
    exact oblT_le (hok o (List.mem_of_mem_take ho))
   have hle2:=hle
   unfold oblT at hle
   simp only [List.length_append,List.length_cons,List.length_nil] at hle
   simp -implicitDefEqProofs only [go_sem,r3,r6,r7,r8]
   refine .at i (by simpa using hlt) (by rw [List.getElem_map]; rfl) ?_
   simp -implicitDefEqProofs only [go_sem,r3,r6,r7,r8,List.getElem_map,oblA]
   intro id hid
   simp -implicitDefEqProofs only [go_sem,r3,r6,r7,r8]
   refine .quiet (by kernel_rfl) ?_
   simp -implicitDefEqProofs only [go_sem,r3,r6,r7,r8]
   refine ⟨_,word_ok l[i].on j _ [[112,101,114,109,105,116],[100,101,110,121]] _ (.sl _ _) hn hj (by simp at hj; omega), ?_⟩
   rw [hw]
   have c1:0+1+1+1+1+(onW l[i].on).length<lim:=by omega
   have c2:([32,111,110,32]++onW l[i].on).length+(0+1)<lim:=by simp only [List.length_append,List.length_cons,List.length_nil]; omega
   simp -implicitDefEqProofs only [go_sem,r3,r6,r7,r8,c1,c2]
   refine ⟨by omega, ?_⟩
   refine ⟨_,word_ok l[i].kind j2 _ [[108,111,103],[114,101,100,97,99,116],[114,101,118,105,101,119],[110,111,116,105,102,121]] _ (.sl _ _) hn2 hj2 (by simp at hj2; omega), ?_⟩
   rw [hw2]
   simp -implicitDefEqProofs only [go_sem,r3,r6,r7,r8,w1]
   simp only [List.length_append,List.length_cons,List.length_nil]
   refine ⟨by omega,by omega,by omega,by omega, ?_⟩
   refine ⟨_, ?_,hs.new hid _,i+1,by omega,rfl, ?_, ?_, ?_, ?_⟩
   ·omega
   ·simp -implicitDefEqProofs only [go_sem]
    rw [List.take_succ_eq_append_getElem hlt,List.map_append,List.flatten_append]
    simp [oblT]
   all_goals simp -implicitDefEqProofs only [go_sem,r3,r6,r7,r8,w1]
  ·have hge:i=l.length:=by have:=of_decide_eq_false e; omega
   subst hge
   rw [List.take_length] at r3
   simp -implicitDefEqProofs only [go_sem,r3,r6,r7,r8]
   exact .mk _ (.refl _) hs ⟨rfl,rfl⟩
end Go.Proofs.YtcgcjihjhlenkaaDoor

set_option linter.unusedSimpArgs false
set_option linter.unusedVariables false
namespace Go.Proofs.YtcgcjihjhlenkaaDoor
open Go Go.Ab Go.Bf
def fnWords:List Txt:= [[111,110,101],[115,105,122,101],[104,97,115],[101,113],[108,101,115,115],[97,100,100],[115,117,98],[109,117,108],[110,111,116],[97,110,100],[111,114]]
theorem words_fn (n:Int) (h1:3≤n) (h4:n≤13):∃i:Nat,n - 2=i+1∧∃hi:i<fnWords.length,fnWords[i]'hi=fnW n:=by
 rcases (by omega:n=3∨n=4∨n=5∨n=6∨n=7∨n=8∨n=9∨n=10∨n=11∨n=12∨n=13) with rfl|rfl|rfl|rfl|rfl|rfl|rfl|rfl|rfl|rfl|rfl
 ·exact ⟨0,rfl,by decide,rfl⟩
 ·exact ⟨1,rfl,by decide,rfl⟩
 ·exact ⟨2,rfl,by decide,rfl⟩
 ·exact ⟨3,rfl,by decide,rfl⟩
 ·exact ⟨4,rfl,by decide,rfl⟩
 ·exact ⟨5,rfl,by decide,rfl⟩
 ·exact ⟨6,rfl,by decide,rfl⟩
 ·exact ⟨7,rfl,by decide,rfl⟩
 ·exact ⟨8,rfl,by decide,rfl⟩
 ·exact ⟨9,rfl,by decide,rfl⟩
 ·exact ⟨10,rfl,by decide,rfl⟩
theorem function_ok (op:Int) (h1:3≤op) (h2:op≤13) (h:Heap):FnOK Tryd.prog 44 [.v (.int .i64 op)] h fun r h' =>r= .tup [.s (fnW op), .v (.int .i64 (arity op:Nat))]∧h' =h:=by
 refine FnOK.body hU hm Tryd.func44 rfl (by kernel_rfl) 22 rfl [.tmp 2, .tmp 3] rfl (Nat.le_of_ble_eq_true rfl) (fun hwf=> ?_)
 obtain ⟨i,hn,hi,hw⟩:=words_fn op h1 h2
 have w1:IntKind.i64.wrap (op - 3)=op - 3:=wr64 _ (by omega)
 have w2:IntKind.i64.wrap (op - 3+1)=op - 2:=by rw [wr64 _ (by omega)]; omega
 simp -implicitDefEqProofs only [go_sem,w1,w2]
 have hwd:=word_ok (op - 2) i (.sl [.s [111,110,101], .s [115,105,122,101], .s [104,97,115], .s [101,113], .s [108,101,115,115], .s [97,100,100], .s [115,117,98], .s [109,117,108], .s [110,111,116], .s [97,110,100], .s [111,114]] .full) fnWords h (.sl _ _) hn hi (by simp [fnWords] at hi; omega)
 rw [hw] at hwd
 refine hwd.pthen ?_
 cases k3:(op==3)<;>cases k4:(op==4)<;>cases k11:(op==11)
 all_goals
  simp -implicitDefEqProofs only [go_sem,k3,k4,k11]
  refine .same (.refl _) ⟨?_,rfl⟩
  simp only [beq_iff_eq,beq_eq_false_iff_ne] at k3 k4 k11
  simp [arity,k3,k4,k11,oneOr]
def exprS (l:List NodeD):Txt:=if l= []∨exprE l≠0 then [] else exprT l
theorem sexpr_ok (Q:Quoted) (l:List NodeD) (hi:inL l) (h:Heap) (ht:PowT h):FnOK Tryd.prog 35 [condA l] h fun r h' =>r= .s (exprS l)∧h' =h:=by
 refine FnOK.body hU hm Tryd.func35 rfl (by kernel_rfl) 71 rfl [.tmp 2] rfl (Nat.le_of_ble_eq_true rfl) (fun hwf=> ?_)
 have hlim:lim=9223372036854775808:=rfl
 cases d0:((l.length:Int)==0)
 case true=>
  have e0:l= []:=by have:(l.length:Int)=0:=(by simpa using d0); exact List.length_eq_zero_iff.1 (by omega)
  simp -implicitDefEqProofs only [go_sem,condA,List.length_map,d0]
  exact .same (.refl _) ⟨by simp [exprS,e0,oneOr],rfl⟩
 have e0:l≠ []:=by rintro rfl; simp at d0
 simp -implicitDefEqProofs only [go_sem,condA,List.length_map,d0]
 have hex:=expr_ok l h
 simp only [condA] at hex
 refine hex.pthen ?_
 cases d1:(exprE l !=0)
 case true=>
  have e1:exprE l≠0:=by simpa using d1
  simp -implicitDefEqProofs only [go_sem,condA,List.length_map,d0,d1]
  exact .same (.refl _) ⟨by simp [exprS,e1,oneOr],rfl⟩
 have e1:exprE l=0:=by simpa using d1
 obtain ⟨hl32,hfin⟩:=exprE_zero e1 e0
 simp -implicitDefEqProofs only [go_sem,condA,List.length_map,d0,d1]
 refine .intro (fun m ρ h' =>∃(i:Nat) (y:AV),WrA 9 h h' y (((l.take i).foldl Bf.stepT []).map AV.s)∧i≤l.length∧m=l.length - i∧lk ρ 3=some y∧lk ρ 18=some (.sl (l.map nodeA) .no)∧lk ρ 19=some (.v (.int .i64 l.length))∧lk ρ 20=some (.v (.int .i64 i))) l.length ?_ ?_
 ·refine ⟨0,_, .nil (.refl _),by omega,rfl, ?_, ?_, ?_, ?_⟩<;>simp -implicitDefEqProofs only [go_sem]
 ·rintro m ρ h' ⟨i,y,hy,hil,rfl,r3,r18,r19,r20⟩
  simp -implicitDefEqProofs only [go_sem,r3,r18,r19,r20]
  refine .intro (fun e=> ?_) (fun e=> ?_)
  ·have hlt:i<l.length:=Int.ofNat_lt.1 (of_decide_eq_true e)
   have w1:IntKind.i64.wrap ((i:Int)+1)=((i+1:Nat):Int):=by rw [wr64 _ (by omega)]; omega
   obtain ⟨bs,hbs⟩:=exprE_take e1 i
   obtain ⟨bs',hbs'⟩:=exprE_take e1 (i+1)
   have hstep:stepD bs l[i]=some bs' :=by
    rw [stepsD_split [] _ i,List.take_take,Nat.min_eq_left (by omega),hbs,List.take_succ_eq_append_getElem hlt,List.drop_append_of_le_length (by simp; omega),List.drop_of_length_le (by simp; omega)] at hbs'
    simp only [List.nil_append,stepsD] at hbs'
    cases hs:stepD bs l[i] with
    |none=>rw [hs] at hbs'; cases hbs'
    |some b2=>rw [hs] at hbs'; exact hbs'
   obtain ⟨st,est⟩:∃st,(l.take i).foldl Bf.stepT []=st:=⟨_,rfl⟩
   obtain ⟨g1,g2⟩:=stepsT_tot (l.take i) [] bs [] hbs (fun n hn=>hi n (List.mem_of_mem_take hn)) rfl
   rw [est] at g1 g2 hy
   have g3:tot st≤6240:=by
    have:(l.take i).length≤32:=by simp; omega
    have:tot ([]:List Txt)=0:=rfl
    omega
   have hnext:∀z,(l.take (i+1)).foldl Bf.stepT []=z↔Bf.stepT st l[i]=z:=fun z=>by
    rw [List.take_succ_eq_append_getElem hlt,List.foldl_append,est]; rfl
   have hin:=hi l[i] (List.getElem_mem hlt)
   have hstl:st.length≤6240:=by unfold tot at g3; omega
   simp -implicitDefEqProofs only [go_sem,r3,r18,r19,r20]
   refine .at i (by simpa using hlt) (by rw [List.getElem_map]; rfl) ?_
   simp -implicitDefEqProofs only [go_sem,r3,r18,r19,r20,List.getElem_map,nodeA]
   intro id hid
   have hyb:=hy.sub (Sub.upd_new (k:=some (.obj [.v (.int .i64 l[i].op), .v (.int .i64 l[i].val.kind), .v (.int .i64 l[i].val.n), .s l[i].val.s, .v (.int .i64 l[i].attr.cat), .s l[i].attr.name, .v (.bool l[i].attr.must)] 58)) hid)
   rcases stepD_some hstep with ⟨k1,h1,_⟩|⟨k2,h1,_⟩|⟨k3,k13,h1,_⟩
   ·have t1:(l[i].op==1)=true:=by simp [k1]
    simp -implicitDefEqProofs only [go_sem,r3,r18,r19,r20,t1]
    have hv:=vtext_ok Q l[i].val hin _ (ht.sub hyb.1)
    simp only [valA,valS,h1,if_true] at hv
    refine hv.pthen ?_
    simp -implicitDefEqProofs only [go_sem,r3,r18,r19,r20,t1]
    refine hyb.app (zs:= [.s (Bf.valT l[i].val)]) (s_cells _) (s_cells [Bf.valT l[i].val]) u9 (by rw [u9b]; decide) u9f u9n (fun k hk=>hk) (by rw [u9b]; simp; omega) fun z' h2 hz' => ?_
    simp -implicitDefEqProofs only [go_sem,r3,r18,r19,r20,t1,w1]
    refine ⟨_, ?_,i+1,z', ?_,by omega,rfl, ?_, ?_, ?_, ?_⟩
    ·omega
    ·rw [(hnext _).2 rfl,Bf.stepT,if_pos k1,List.map_append]
     exact hz'
    all_goals simp -implicitDefEqProofs only [go_sem,r3,r18,r19,r20,w1]
   ·have t1:(l[i].op==1)=false:=by simp [k2]
    have t2:(l[i].op==2)=true:=by simp [k2]
    simp -implicitDefEqProofs only [go_sem,r3,r18,r19,r20,t1,t2]
    have hv:=sattr_ok l[i].attr (upd h' id (some (.obj [.v (.int .i64 l[i].op), .v (.int .i64 l[i].val.kind), .v (.int .i64 l[i].val.n), .s l[i].val.s, .v (.int .i64 l[i].attr.cat), .s l[i].attr.name, .v (.bool l[i].attr.must)] 58)))
    simp only [attrA,attrS,h1,if_true] at hv
    refine hv.pthen ?_
    simp -implicitDefEqProofs only [go_sem,r3,r18,r19,r20,t1,t2]
    refine hyb.app (zs:= [.s (attrT l[i].attr)]) (s_cells _) (s_cells [attrT l[i].attr]) u9 (by rw [u9b]; decide) u9f u9n (fun k hk=>hk) (by rw [u9b]; simp; omega) fun z' h2 hz' => ?_
    simp -implicitDefEqProofs only [go_sem,r3,r18,r19,r20,t1,t2,w1]
    refine ⟨_, ?_,i+1,z', ?_,by omega,rfl, ?_, ?_, ?_, ?_⟩
    ·omega
    ·rw [(hnext _).2 rfl,Bf.stepT,if_neg (by omega),if_pos k2,List.map_append]
     exact hz'
    all_goals simp -implicitDefEqProofs only [go_sem,r3,r18,r19,r20,w1]
   ·have t1:(l[i].op==1)=false:=by simp; omega
    have t2:(l[i].op==2)=false:=by simp; omega
    have hle:arity l[i].op≤st.length:=by rw [g1]; exact h1
    have w2:IntKind.i64.wrap ((st.length:Int) - ((arity l[i].op:Nat):Int))=((st.length - arity l[i].op:Nat):Int):=by rw [wr64 _ (by omega)]; omega
    have hft:=fn_tot st (st.length - arity l[i].op) (fnW l[i].op) (fnW_le _)
    have hdl:(Lib.join (st.drop (st.length - arity l[i].op)) [32]).length≤20000:=by
     rw [tot_append,tot_one] at hft
     simp only [List.length_append,List.length_cons,List.length_nil] at hft
     omega
    have hfl:=fnW_le l[i].op
    simp -implicitDefEqProofs only [go_sem,r3,r18,r19,r20,t1,t2]
    refine (function_ok l[i].op k3 k13 _).pthen ?_
    simp -implicitDefEqProofs only [go_sem,r3,r18,r19,r20,t1,t2,hyb.len,List.length_map,w2]
    refine ⟨by omega,by omega, ?_⟩
    refine hyb.from (x:= .i64) (s_cells _) (st.length - arity l[i].op) (by simp -implicitDefEqProofs only [go_sem]) rfl (by simp) u9 fun z hz=> ?_
    rw [←List.map_drop] at hz
    simp -implicitDefEqProofs only [go_sem,r3,r18,r19,r20,t1,t2]
    refine (join_ok z (st.drop (st.length - arity l[i].op)) [32] _ hz (by omega) (by simp; omega)).pthen ?_
    simp -implicitDefEqProofs only [go_sem,r3,r18,r19,r20,t1,t2]
    refine ⟨by simp only [List.length_append,List.length_cons,List.length_nil]; omega,by simp only [List.length_append,List.length_cons,List.length_nil]; omega, ?_⟩
    refine hyb.cut (x:= .i64) (st.length - arity l[i].op) (by simp -implicitDefEqProofs only [go_sem]) rfl (by simp) u9 fun z2 hz2=> ?_
    rw [←List.map_take] at hz2
    simp -implicitDefEqProofs only [go_sem,r3,r18,r19,r20,t1,t2]
    refine hz2.app (zs:= [.s (40::(fnW l[i].op++ [32]++Lib.join (st.drop (st.length - arity l[i].op)) [32]++ [41]))]) (s_cells _) (s_cells [40::(fnW l[i].op++ [32]++Lib.join (st.drop (st.length - arity l[i].op)) [32]++ [41])]) u9 (by rw [u9b]; decide) u9f u9n (fun k hk=>hk) (by rw [u9b]; simp; omega) fun z' h2 hz' => ?_
    simp -implicitDefEqProofs only [go_sem,r3,r18,r19,r20,t1,t2,w1]
    refine ⟨_, ?_,i+1,z', ?_,by omega,rfl, ?_, ?_, ?_, ?_⟩
    ·omega
    ·rw [(hnext _).2 rfl,Bf.stepT,if_neg (by omega),if_neg (by omega),List.map_append]
     exact hz'
    all_goals simp -implicitDefEqProofs only [go_sem,r3,r18,r19,r20,w1]
  ·have hge:i=l.length:=by have:=of_decide_eq_false e; omega
   subst hge
   rw [List.take_length] at hy
   have hone:=(stepsT_tot l [] [false] [] hfin hi rfl).1
   obtain ⟨s,es⟩:=List.length_eq_one_iff.1 hone
   rw [es] at hy
   simp -implicitDefEqProofs only [go_sem,r3,r18,r19,r20]
   refine hy.idx (s_cells [s]) 0 rfl (by simp) u9 u9a fun p hp=> ?_
   simp -implicitDefEqProofs only [go_sem,r3,hp _,List.map_cons,List.map_nil,List.getElem_cons_zero]
   exact .mk _ (.refl _) hy.1 ⟨by simp [exprS,e0,e1,exprT,es,oneOr],rfl⟩
end Go.Proofs.YtcgcjihjhlenkaaDoor

set_option linter.unusedSimpArgs false
set_option linter.unusedVariables false
namespace Go.Proofs.YtcgcjihjhlenkaaDoor
open Go Go.Ab Go.Bf
theorem srule_ok (Q:Quoted) (r:RuleD) (he:ruleE r) (hi:inR r) (h:Heap) (ht:PowT h):FnOK Tryd.prog 26 [ruleA r] h fun x h' =>x= .s (ruleT r)∧h' =h:=by
 refine FnOK.body hU hm Tryd.func26 rfl (by kernel_rfl) 30 rfl [.tmp 2] rfl (Nat.le_of_ble_eq_true rfl) (fun hwf=> ?_)
 have hlim:lim=9223372036854775808:=rfl
 have b1:=nameOK_le he.1
 have b2:=tgtT_le he.2.1 hi.1
 have b3:=exprT_le he.2.2.1 hi.2
 have b4:=oblsT_le he.2.2.2
 simp -implicitDefEqProofs only [go_sem,ruleA,tgtA,condA,oblsA]
 intro id hid
 have ht2:PowT (upd h id (some (.obj [.s r.id, .v (.bool r.deny), .sl (r.tgt.map anyA) .no, .sl (r.cond.map nodeA) .no, .sl (r.obls.map oblA) .no] 37))):=ht.sub (.upd_new hid)
 have f1:=starget_ok Q r.tgt he.2.1 hi.1 _ ht2
 have f2:=sexpr_ok Q r.cond hi.2 _ ht2
 have f3:=sduties_ok r.obls he.2.2.2 (upd h id (some (.obj [.s r.id, .v (.bool r.deny), .sl (r.tgt.map anyA) .no, .sl (r.cond.map nodeA) .no, .sl (r.obls.map oblA) .no] 37)))
 simp only [tgtA] at f1
 simp only [condA] at f2
 simp only [oblsA] at f3
 cases d2:decide (0<(r.cond.length:Int))
 ·have e2:r.cond= []:=by have:=of_decide_eq_false d2; exact List.length_eq_zero_iff.1 (by omega)
  cases d1:r.deny
  all_goals
   rw [d1] at f1 f3
   simp -implicitDefEqProofs only [go_sem,d1]
   refine .quiet (by kernel_rfl) ?_
   simp -implicitDefEqProofs only [go_sem]
   refine ⟨_,f1, ?_⟩
   simp -implicitDefEqProofs only [go_sem,List.length_map,d2]
   refine ⟨by omega,by simp only [List.length_append,List.length_cons,List.length_nil]; omega, ?_⟩
   refine f3.pthen ?_
   simp -implicitDefEqProofs only [go_sem]
   refine ⟨by simp only [List.length_append,List.length_cons,List.length_nil]; omega,by simp only [List.length_append,List.length_cons,List.length_nil]; omega, ?_⟩
   exact .mk _ (.refl _) (.upd_new hid) ⟨by simp [ruleT,d1,e2,oneOr],rfl⟩
 ·have e2:r.cond≠ []:=by rintro e; rw [e] at d2; simp at d2
  have f4:exprS r.cond=exprT r.cond:=by simp [exprS,e2,he.2.2.1]
  rw [f4] at f2
  cases d1:r.deny
  all_goals
   rw [d1] at f1 f2 f3
   simp -implicitDefEqProofs only [go_sem,d1]
   refine .quiet (by kernel_rfl) ?_
   simp -implicitDefEqProofs only [go_sem]
   refine ⟨_,f1, ?_⟩
   simp -implicitDefEqProofs only [go_sem,List.length_map,d2]
   refine ⟨by omega,by simp only [List.length_append,List.length_cons,List.length_nil]; omega, ?_⟩
   refine f2.pthen ?_
   simp -implicitDefEqProofs only [go_sem]
   refine ⟨by omega,by simp only [List.length_append,List.length_cons,List.length_nil]; omega, ?_⟩
   refine f3.pthen ?_
   simp -implicitDefEqProofs only [go_sem]
   refine ⟨by simp only [List.length_append,List.length_cons,List.length_nil]; omega,by simp only [List.length_append,List.length_cons,List.length_nil]; omega, ?_⟩
   exact .mk _ (.refl _) (.upd_new hid) ⟨by simp [ruleT,d1,e2,oneOr],rfl⟩
def algWords:List Txt:= [[100,101,110,121,111,118,101,114],[112,101,114,109,105,116,111,118,101,114],[102,105,114,115,116],[111,110,108,121],[100,101,110,121,117,110,108,101,115,115],[112,101,114,109,105,116,117,110,108,101,115,115]]
theorem words_alg (n:Int) (h1:1≤n) (h4:n≤6):∃i:Nat,n=i+1∧∃hi:i<algWords.length,algWords[i]'hi=algW n:=by
 rcases (by omega:n=1∨n=2∨n=3∨n=4∨n=5∨n=6) with rfl|rfl|rfl|rfl|rfl|rfl
 ·exact ⟨0,rfl,by decide,rfl⟩
 ·exact ⟨1,rfl,by decide,rfl⟩
 ·exact ⟨2,rfl,by decide,rfl⟩
 ·exact ⟨3,rfl,by decide,rfl⟩
 ·exact ⟨4,rfl,by decide,rfl⟩
 ·exact ⟨5,rfl,by decide,rfl⟩
theorem flat_take {α:Type} (f:α→Txt) (l:List α) (i:Nat) (h:i<l.length):((l.take (i+1)).map f).flatten=((l.take i).map f).flatten++f l[i]:=by
 rw [List.take_succ_eq_append_getElem h,List.map_append,List.flatten_append]; simp
def kidT (k:PolD):Txt:= [32]++polT k
theorem kidsT_kid (l:List PolD):kidsT l=(l.map kidT).flatten:=kidsT_eq l
def headT (id:Txt) (set:Bool) (alg:Int) (tgt:TgtD):Txt:=(if set then [115,101,116,32] else [112,111,108,105,99,121,32])++(id++ [32]++algW alg++tgtT tgt++ [32,123])
theorem headT_le {id:Txt} {set:Bool} {alg:Int} {tgt:TgtD} (h1:id.length≤16) (h2:(tgtT tgt).length≤115006):(headT id set alg tgt).length≤116000:=by
 have:=algW_le alg
 unfold headT
 cases set<;>simp only [List.length_append,List.length_cons,List.length_nil,if_true,Bool.false_eq_true,if_false]<;>omega
theorem stext_ok (Q:Quoted):∀(n d:Nat) (p:PolD) (h:Heap),d+n=5→polE d p→inP p→PowT h→FnOK Tryd.prog 14 [polA p] h fun x h' =>x= .s (polT p)∧h' =h
 |0,d, .mk id set alg tgt rules kids obls,h,hd,he,hi,ht=>by simp only [polE] at he; omega
 |n+1,d, .mk id set alg tgt rules kids obls,h,hd,he,hi,ht=>by
  simp only [polE] at he
  simp only [inP] at hi
  obtain ⟨_,g1,a1,a6,_,_,g2,g3,g4,g5,g6,g7⟩:=he
  obtain ⟨i1,i2,i3⟩:=hi
  rw [kidsE_eq] at g7
  rw [inK_eq] at i3
  have hlim:lim=9223372036854775808:=rfl
  have b1:=nameOK_le g1
  have b2:=tgtT_le g2 i1
  have b3:=algW_le alg
  have b4:=oblsT_le g3
  have b5:=headT_le (set:=set) (alg:=alg) b1 b2
  have b8:polB n≤1000000000000:=by
   have hm:∀k,polB k≤polB (k+1):=by
    intro k; induction k with
    |zero=>decide
    |succ k ih=>simp only [polB] at ih⊢; omega
   have:∀j k,polB j≤polB (j+k):=fun j k=>by
    induction k with
    |zero=>exact Nat.le_refl _
    |succ k ih=>exact Nat.le_trans ih (hm _)
   have h4:n≤4:=by omega
   have:=this n (4 - n)
   rw [show n+(4 - n)=4 by omega] at this
   exact Nat.le_trans this polB_le
  have hrl:∀i,((rules.take i).map ruleT).flatten.length≤1952000:=fun i=>flatten_le _ 16 122000 (by simp; omega) fun x hx=>by
   obtain ⟨r,hr,rfl⟩:=List.mem_map.1 hx
   have hr:=List.mem_of_mem_take hr
   exact ruleT_le (g6 r hr) (i2 r hr)
  have hkl:∀k∈kids,(polT k).length≤polB n:=fun k hk=>polT_le n (d+1) k (by omega) (g7 k hk) (i3 k hk)
  have hkf:∀i,((kids.take i).map kidT).flatten.length≤16*(1+polB n):=fun i=>flatten_le _ 16 _ (by simp; omega) fun x hx=>by
   obtain ⟨k,hk,rfl⟩:=List.mem_map.1 hx
   have:=hkl k (List.mem_of_mem_take hk)
   simp only [kidT,List.length_append,List.length_cons,List.length_nil]; omega
  obtain ⟨j,hn,hj,hw⟩:=words_alg alg a1 a6
  have rec' :=fun (k:PolD) (hk:k∈kids) (h:Heap) (ht:PowT h)=>stext_ok Q n (d+1) k h (by omega) (g7 k hk) (i3 k hk) ht
  refine FnOK.body hU hm Tryd.func14 rfl (by kernel_rfl) 56 rfl [.tmp 2] rfl (Nat.le_of_ble_eq_true rfl) (fun hwf=> ?_)
  simp -implicitDefEqProofs only [go_sem,polA,tgtA,oblsA]
  intro ip hip
  have hs0:Ab.Sub h (upd h ip (some (.obj [.s id, .v (.bool set), .v (.int .i64 alg), .sl (tgt.map anyA) .no, .sl (rules.map ruleA) .no, .sl (kidsA kids) .no, .sl (obls.map oblA) .no] 28))):= .upd_new hip
  obtain ⟨hb,ehb⟩:∃hb,upd h ip (some (.obj [.s id, .v (.bool set), .v (.int .i64 alg), .sl (tgt.map anyA) .no, .sl (rules.map ruleA) .no, .sl (kidsA kids) .no, .sl (obls.map oblA) .no] 28))=hb:=⟨_,rfl⟩
  have hbip:hb ip=some (.obj [.s id, .v (.bool set), .v (.int .i64 alg), .sl (tgt.map anyA) .no, .sl (rules.map ruleA) .no, .sl (kidsA kids) .no, .sl (obls.map oblA) .no] 28):=by rw [←ehb]; exact upd_same ..
  rw [ehb] at hs0⊢
  have f1:=starget_ok Q tgt g2 i1 hb (ht.sub hs0)
  simp only [tgtA] at f1
  have hwd:=word_ok alg j (.sl [.s [100,101,110,121,111,118,101,114], .s [112,101,114,109,105,116,111,118,101,114], .s [102,105,114,115,116], .s [111,110,108,121], .s [100,101,110,121,117,110,108,101,115,115], .s [112,101,114,109,105,116,117,110,108,101,115,115]] .full) algWords hb (.sl _ _) hn hj (by simp [algWords] at hj; omega)
  rw [hw] at hwd
  have loop:∀(ρ:Env),True:=fun _=>trivial
  cases set
  ·simp -implicitDefEqProofs only [go_sem,hbip]
   refine .quiet (by kernel_rfl) ?_
   simp -implicitDefEqProofs only [go_sem,hbip]
   refine ⟨by omega, ?_⟩
   refine ⟨_,hwd, ?_⟩
   simp -implicitDefEqProofs only [go_sem,hbip]
   refine ⟨by simp only [List.length_append,List.length_cons,List.length_nil]; omega, ?_⟩
   refine ⟨_,f1, ?_⟩
   simp -implicitDefEqProofs only [go_sem,hbip,List.length_map]
   refine ⟨by simp only [List.length_append,List.length_cons,List.length_nil]; omega,by simp only [List.length_append,List.length_cons,List.length_nil]; omega,by simp only [List.length_append,List.length_cons,List.length_nil]; omega, ?_⟩
   obtain ⟨H,eH⟩:∃H,headT id false alg tgt=H:=⟨_,rfl⟩
   have eH2:headT id false alg tgt=_:=rfl
   rw [eH] at b5
   refine .intro (fun m ρ h' =>Ab.Sub hb h'∧∃(i:Nat),i≤rules.length∧m=rules.length - i∧lk ρ 1=some (.ptr ip 0)∧lk ρ 3=some (.s (H++((rules.take i).map ruleT).flatten))∧lk ρ 26=some (.sl (rules.map ruleA) .no)∧lk ρ 27=some (.v (.int .i64 rules.length))∧lk ρ 28=some (.v (.int .i64 i))) rules.length ?_ ?_
   ·refine ⟨.refl _,0,by omega,rfl, ?_, ?_, ?_, ?_, ?_⟩
    rotate_left 1
    ·simp -implicitDefEqProofs only [go_sem]
     rw [←eH]
     simp [headT]
    all_goals simp -implicitDefEqProofs only [go_sem]
   ·rintro m ρ h' ⟨hs,i,hil,rfl,r1,r3,r26,r27,r28⟩
    simp -implicitDefEqProofs only [go_sem,r1,r3,r26,r27,r28]
    refine .intro (fun e=> ?_) (fun e=> ?_)
    ·have hlt:i<rules.length:=Int.ofNat_lt.1 (of_decide_eq_true e)
     have w1:IntKind.i64.wrap ((i:Int)+1)=((i+1:Nat):Int):=by rw [wr64 _ (by omega)]; omega
     have hr1:=g6 _ (List.getElem_mem hlt)
     have hr2:=ruleT_le hr1 (i2 _ (List.getElem_mem hlt))
     have hrl1:=hrl i
     simp -implicitDefEqProofs only [go_sem,r1,r3,r26,r27,r28]
     refine .at i (by simpa using hlt) (by rw [List.getElem_map]; rfl) ?_
     simp -implicitDefEqProofs only [go_sem,r1,r3,r26,r27,r28,List.getElem_map,ruleA]
     intro ir hir
     have fr:=fun hh hp=>srule_ok Q rules[i] hr1 (i2 _ (List.getElem_mem hlt)) hh hp
     simp only [ruleA] at fr
     simp -implicitDefEqProofs only [go_sem,r1,r3,r26,r27,r28]
     refine (fr _ ((ht.sub (hs0.trans hs)).sub (.upd_new hir))).pthen ?_
     simp -implicitDefEqProofs only [go_sem,r1,r3,r26,r27,r28,w1]
     refine ⟨by simp only [List.length_append]; omega, ?_⟩
     refine ⟨_, ?_,hs.new hir _,i+1,by omega,rfl, ?_, ?_, ?_, ?_, ?_⟩
     ·omega
     ·simp -implicitDefEqProofs only [go_sem,r1,r3,r26,r27,r28,w1]
     ·simp -implicitDefEqProofs only [go_sem]
      rw [flat_take _ _ _ hlt,List.append_assoc]
     all_goals simp -implicitDefEqProofs only [go_sem,r1,r3,r26,r27,r28,w1]
    ·have hge:i=rules.length:=by have:=of_decide_eq_false e; omega
     subst hge
     rw [List.take_length] at r3
     have hipi:=hs _ _ hbip
     have hrl1:=hrl rules.length
     rw [List.take_length] at hrl1
     simp -implicitDefEqProofs only [go_sem,r1,r3,r26,r27,r28,hipi,kidsA_eq,List.length_map]
     obtain ⟨H2,eH2⟩:∃H2,H++(rules.map ruleT).flatten=H2:=⟨_,rfl⟩
     have hH2:H2.length≤2068000:=by rw [←eH2]; simp only [List.length_append]; omega
     rw [eH2] at r3
     refine .intro (fun m ρ h'' =>Ab.Sub hb h''∧∃(i:Nat),i≤kids.length∧m=kids.length - i∧lk ρ 1=some (.ptr ip 0)∧lk ρ 3=some (.s (H2++((kids.take i).map kidT).flatten))∧lk ρ 38=some (.sl (kids.map polA) .no)∧lk ρ 39=some (.v (.int .i64 kids.length))∧lk ρ 40=some (.v (.int .i64 i))) kids.length ?_ ?_
     ·refine ⟨hs,0,by omega,rfl, ?_, ?_, ?_, ?_, ?_⟩
      rotate_left 1
      ·simp -implicitDefEqProofs only [go_sem,r3]
       simp
      all_goals simp -implicitDefEqProofs only [go_sem,r1,r3]
     ·rintro m ρ h'' ⟨hs,i,hil,rfl,r1,r3,r38,r39,r40⟩
      simp -implicitDefEqProofs only [go_sem,r1,r3,r38,r39,r40]
      refine .intro (fun e=> ?_) (fun e=> ?_)
      ·have hlt:i<kids.length:=Int.ofNat_lt.1 (of_decide_eq_true e)
       have w1:IntKind.i64.wrap ((i:Int)+1)=((i+1:Nat):Int):=by rw [wr64 _ (by omega)]; omega
       have hk1:=hkl _ (List.getElem_mem hlt)
       have hk2:=hkf i
       have fk:=fun h ht=>rec' kids[i] (List.getElem_mem hlt) h ht
       cases hki' :kids[i] with
       |mk kid kset kalg ktgt krules kkids kobls=>
       rw [hki'] at fk hk1
       simp only [polA,tgtA,oblsA] at fk
       simp -implicitDefEqProofs only [go_sem,r1,r3,r38,r39,r40]
       refine .at i (by simpa using hlt) (by rw [List.getElem_map]; exact polA_len _) ?_
       simp -implicitDefEqProofs only [go_sem,r1,r3,r38,r39,r40,List.getElem_map,hki',polA,tgtA,oblsA]
       intro ir hir
       simp -implicitDefEqProofs only [go_sem,r1,r3,r38,r39,r40]
       refine (fk _ ((ht.sub (hs0.trans hs)).sub (.upd_new hir))).pthen ?_
       simp -implicitDefEqProofs only [go_sem,r1,r3,r38,r39,r40,w1]
       refine ⟨by omega,by simp only [List.length_append,List.length_cons,List.length_nil]; omega, ?_⟩
       refine ⟨_, ?_,hs.new hir _,i+1,by omega,rfl, ?_, ?_, ?_, ?_, ?_⟩
       ·omega
       ·simp -implicitDefEqProofs only [go_sem,r1,r3,r38,r39,r40,w1]
       ·simp -implicitDefEqProofs only [go_sem]
        rw [flat_take _ _ _ hlt,hki']
        simp [kidT]
       all_goals simp -implicitDefEqProofs only [go_sem,r1,r3,r38,r39,r40,w1]
      ·have hge:i=kids.length:=by have:=of_decide_eq_false e; omega
       subst hge
       rw [List.take_length] at r3
       have hipi:=hs _ _ hbip
       have hk2:=hkf kids.length
       rw [List.take_length] at hk2
       have fd:=sduties_ok obls g3 h''
       simp only [oblsA] at fd
       simp -implicitDefEqProofs only [go_sem,r1,r3,r38,r39,r40,hipi]
       refine ⟨by simp only [List.length_append,List.length_cons,List.length_nil]; omega, ?_⟩
       refine fd.pthen ?_
       simp -implicitDefEqProofs only [go_sem,r1,r3,r38,r39,r40,hipi]
       refine ⟨by simp only [List.length_append,List.length_cons,List.length_nil]; omega, ?_⟩
       refine .mk _ (.refl _) (hs0.trans hs) ⟨?_,rfl⟩
       simp only [oneOr,polT,kidsT_kid]
       rw [←eH2,←eH]
       simp [headT]
  ·simp -implicitDefEqProofs only [go_sem,hbip]
   refine .quiet (by kernel_rfl) ?_
   simp -implicitDefEqProofs only [go_sem,hbip]
   refine ⟨by omega, ?_⟩
   refine ⟨_,hwd, ?_⟩
   simp -implicitDefEqProofs only [go_sem,hbip]
   refine ⟨by simp only [List.length_append,List.length_cons,List.length_nil]; omega, ?_⟩
   refine ⟨_,f1, ?_⟩
   simp -implicitDefEqProofs only [go_sem,hbip,List.length_map]
   refine ⟨by simp only [List.length_append,List.length_cons,List.length_nil]; omega,by simp only [List.length_append,List.length_cons,List.length_nil]; omega,by simp only [List.length_append,List.length_cons,List.length_nil]; omega, ?_⟩
   obtain ⟨H,eH⟩:∃H,headT id true alg tgt=H:=⟨_,rfl⟩
   have eH2:headT id true alg tgt=_:=rfl
   rw [eH] at b5
   refine .intro (fun m ρ h' =>Ab.Sub hb h'∧∃(i:Nat),i≤rules.length∧m=rules.length - i∧lk ρ 1=some (.ptr ip 0)∧lk ρ 3=some (.s (H++((rules.take i).map ruleT).flatten))∧lk ρ 26=some (.sl (rules.map ruleA) .no)∧lk ρ 27=some (.v (.int .i64 rules.length))∧lk ρ 28=some (.v (.int .i64 i))) rules.length ?_ ?_
   ·refine ⟨.refl _,0,by omega,rfl, ?_, ?_, ?_, ?_, ?_⟩
    rotate_left 1
    ·simp -implicitDefEqProofs only [go_sem]
     rw [←eH]
     simp [headT]
    all_goals simp -implicitDefEqProofs only [go_sem]
   ·rintro m ρ h' ⟨hs,i,hil,rfl,r1,r3,r26,r27,r28⟩
    simp -implicitDefEqProofs only [go_sem,r1,r3,r26,r27,r28]
    refine .intro (fun e=> ?_) (fun e=> ?_)
    ·have hlt:i<rules.length:=Int.ofNat_lt.1 (of_decide_eq_true e)
     have w1:IntKind.i64.wrap ((i:Int)+1)=((i+1:Nat):Int):=by rw [wr64 _ (by omega)]; omega
     have hr1:=g6 _ (List.getElem_mem hlt)
     have hr2:=ruleT_le hr1 (i2 _ (List.getElem_mem hlt))
     have hrl1:=hrl i
     simp -implicitDefEqProofs only [go_sem,r1,r3,r26,r27,r28]
     refine .at i (by simpa using hlt) (by rw [List.getElem_map]; rfl) ?_
     simp -implicitDefEqProofs only [go_sem,r1,r3,r26,r27,r28,List.getElem_map,ruleA]
     intro ir hir
     have fr:=fun hh hp=>srule_ok Q rules[i] hr1 (i2 _ (List.getElem_mem hlt)) hh hp
     simp only [ruleA] at fr
     simp -implicitDefEqProofs only [go_sem,r1,r3,r26,r27,r28]
     refine (fr _ ((ht.sub (hs0.trans hs)).sub (.upd_new hir))).pthen ?_
     simp -implicitDefEqProofs only [go_sem,r1,r3,r26,r27,r28,w1]
     refine ⟨by simp only [List.length_append]; omega, ?_⟩
     refine ⟨_, ?_,hs.new hir _,i+1,by omega,rfl, ?_, ?_, ?_, ?_, ?_⟩
     ·omega
     ·simp -implicitDefEqProofs only [go_sem,r1,r3,r26,r27,r28,w1]
     ·simp -implicitDefEqProofs only [go_sem]
      rw [flat_take _ _ _ hlt,List.append_assoc]
     all_goals simp -implicitDefEqProofs only [go_sem,r1,r3,r26,r27,r28,w1]
    ·have hge:i=rules.length:=by have:=of_decide_eq_false e; omega
     subst hge
     rw [List.take_length] at r3
     have hipi:=hs _ _ hbip
     have hrl1:=hrl rules.length
     rw [List.take_length] at hrl1
     simp -implicitDefEqProofs only [go_sem,r1,r3,r26,r27,r28,hipi,kidsA_eq,List.length_map]
     obtain ⟨H2,eH2⟩:∃H2,H++(rules.map ruleT).flatten=H2:=⟨_,rfl⟩
     have hH2:H2.length≤2068000:=by rw [←eH2]; simp only [List.length_append]; omega
     rw [eH2] at r3
     refine .intro (fun m ρ h'' =>Ab.Sub hb h''∧∃(i:Nat),i≤kids.length∧m=kids.length - i∧lk ρ 1=some (.ptr ip 0)∧lk ρ 3=some (.s (H2++((kids.take i).map kidT).flatten))∧lk ρ 38=some (.sl (kids.map polA) .no)∧lk ρ 39=some (.v (.int .i64 kids.length))∧lk ρ 40=some (.v (.int .i64 i))) kids.length ?_ ?_
     ·refine ⟨hs,0,by omega,rfl, ?_, ?_, ?_, ?_, ?_⟩
      rotate_left 1
      ·simp -implicitDefEqProofs only [go_sem,r3]
       simp
      all_goals simp -implicitDefEqProofs only [go_sem,r1,r3]
     ·rintro m ρ h'' ⟨hs,i,hil,rfl,r1,r3,r38,r39,r40⟩
      simp -implicitDefEqProofs only [go_sem,r1,r3,r38,r39,r40]
      refine .intro (fun e=> ?_) (fun e=> ?_)
      ·have hlt:i<kids.length:=Int.ofNat_lt.1 (of_decide_eq_true e)
       have w1:IntKind.i64.wrap ((i:Int)+1)=((i+1:Nat):Int):=by rw [wr64 _ (by omega)]; omega
       have hk1:=hkl _ (List.getElem_mem hlt)
       have hk2:=hkf i
       have fk:=fun h ht=>rec' kids[i] (List.getElem_mem hlt) h ht
       cases hki' :kids[i] with
       |mk kid kset kalg ktgt krules kkids kobls=>
       rw [hki'] at fk hk1
       simp only [polA,tgtA,oblsA] at fk
       simp -implicitDefEqProofs only [go_sem,r1,r3,r38,r39,r40]
       refine .at i (by simpa using hlt) (by rw [List.getElem_map]; exact polA_len _) ?_
       simp -implicitDefEqProofs only [go_sem,r1,r3,r38,r39,r40,List.getElem_map,hki',polA,tgtA,oblsA]
       intro ir hir
       simp -implicitDefEqProofs only [go_sem,r1,r3,r38,r39,r40]
       refine (fk _ ((ht.sub (hs0.trans hs)).sub (.upd_new hir))).pthen ?_
       simp -implicitDefEqProofs only [go_sem,r1,r3,r38,r39,r40,w1]
       refine ⟨by omega,by simp only [List.length_append,List.length_cons,List.length_nil]; omega, ?_⟩
       refine ⟨_, ?_,hs.new hir _,i+1,by omega,rfl, ?_, ?_, ?_, ?_, ?_⟩
       ·omega
       ·simp -implicitDefEqProofs only [go_sem,r1,r3,r38,r39,r40,w1]
       ·simp -implicitDefEqProofs only [go_sem]
        rw [flat_take _ _ _ hlt,hki']
        simp [kidT]
       all_goals simp -implicitDefEqProofs only [go_sem,r1,r3,r38,r39,r40,w1]
      ·have hge:i=kids.length:=by have:=of_decide_eq_false e; omega
       subst hge
       rw [List.take_length] at r3
       have hipi:=hs _ _ hbip
       have hk2:=hkf kids.length
       rw [List.take_length] at hk2
       have fd:=sduties_ok obls g3 h''
       simp only [oblsA] at fd
       simp -implicitDefEqProofs only [go_sem,r1,r3,r38,r39,r40,hipi]
       refine ⟨by simp only [List.length_append,List.length_cons,List.length_nil]; omega, ?_⟩
       refine fd.pthen ?_
       simp -implicitDefEqProofs only [go_sem,r1,r3,r38,r39,r40,hipi]
       refine ⟨by simp only [List.length_append,List.length_cons,List.length_nil]; omega, ?_⟩
       refine .mk _ (.refl _) (hs0.trans hs) ⟨?_,rfl⟩
       simp only [oneOr,polT,kidsT_kid]
       rw [←eH2,←eH]
       simp [headT]
theorem spolicy_ok (Q:Quoted) (p:PolD) (hi:inP p) (h:Heap) (ht:PowT h):FnOK Tryd.prog 9 [polA p] h fun x h' =>x= .s (showP p)∧h' =h:=by
 have hr:=fun h=>right_ok p h
 have hx:=fun hp h ht=>stext_ok Q 4 1 p h rfl hp hi ht
 cases p with
 |mk id set alg tgt rules kids obls=>
 refine FnOK.body hU hm Tryd.func9 rfl (by kernel_rfl) 8 rfl [.tmp 2] rfl (Nat.le_of_ble_eq_true rfl) (fun hwf=> ?_)
 simp -implicitDefEqProofs only [go_sem,polA,tgtA,oblsA]
 intro ip hip
 simp only [polA,tgtA,oblsA] at hr hx
 simp -implicitDefEqProofs only [go_sem]
 refine (hr _).pthen ?_
 cases d1:(rightE (.mk id set alg tgt rules kids obls) !=0)
 case true=>
  have e1:rightE (.mk id set alg tgt rules kids obls)≠0:=by simpa using d1
  simp -implicitDefEqProofs only [go_sem,d1]
  exact .mk _ (.refl _) (.upd_new hip) ⟨by simp [showP,e1,oneOr],rfl⟩
 have e1:rightE (.mk id set alg tgt rules kids obls)=0:=by simpa using d1
 have hpe:polE 1 (.mk id set alg tgt rules kids obls):=by
  cases hw:polW ⟨[],0⟩ 1 (.mk id set alg tgt rules kids obls) with
  |bad e=>
   have:=polW_bad 4 1 _ _ e rfl hw
   rw [rightE,hw] at e1
   exact (this e1).elim
  |ok m=>exact polW_ok _ _ _ _ hw
 simp -implicitDefEqProofs only [go_sem,d1]
 refine (hx hpe _ (ht.sub (.upd_new hip))).pthen ?_
 simp -implicitDefEqProofs only [go_sem]
 exact .mk _ (.refl _) (.upd_new hip) ⟨by simp [showP,e1,oneOr],rfl⟩
end Go.Proofs.YtcgcjihjhlenkaaDoor

set_option linter.unusedVariables false
namespace Go.Proofs
open Go.Shelf
def Tryd.lays167_ren:Go.Shelf.Ren:=⟨fun|166=>42|167=>59|169=>43|240=>54|276=>60|n=>n,fun|31=>78|72=>93|76=>97|70=>90|37=>91|75=>96|127=>111|164=>115|80=>99|n=>n,fun|n=>n⟩
theorem Tryd.lays167:Go.Proofs.Lays.n167 Tryd.prog Tryd.lays167_ren:= {
 mixed:=by kernel_rfl
 f167:=Tryd.func59.trans (congrArg some (by kernel_rfl))
 f240:=Tryd.func54.trans (congrArg some (by kernel_rfl))
 f276:=Tryd.func60.trans (congrArg some (by kernel_rfl))
 t0:=Tryd.underlying0
 a0:=Tryd.isAgg0
 z0:=Tryd.sizeOf0
 v0:=Tryd.zeroValue0
 t4:=Tryd.underlying4
 a4:=Tryd.isAgg4
 z4:=Tryd.sizeOf4
 v4:=Tryd.zeroValue4
 t5:=Tryd.underlying5
 a5:=Tryd.isAgg5
 z5:=Tryd.sizeOf5
 v5:=Tryd.zeroValue5
 t9:=Tryd.underlying9
 a9:=Tryd.isAgg9
 z9:=Tryd.sizeOf9
 v9:=Tryd.zeroValue9
 t20:=Tryd.underlying20
 a20:=Tryd.isAgg20
 z20:=Tryd.sizeOf20
 v20:=Tryd.zeroValue20
 t37:=Tryd.underlying91
 a37:=Tryd.isAgg91
 z37:=Tryd.sizeOf91
 v37:=Tryd.zeroValue91
 t70:=Tryd.underlying90
 a70:=Tryd.isAgg90
 z70:=Tryd.sizeOf90
 v70:=Tryd.zeroValue90
 t72:=Tryd.underlying93
 a72:=Tryd.isAgg93
 z72:=Tryd.sizeOf93
 v72:=Tryd.zeroValue93
 t75:=Tryd.underlying96
 a75:=Tryd.isAgg96
 z75:=Tryd.sizeOf96
 v75:=Tryd.zeroValue96
 t164:=Tryd.underlying115
 a164:=Tryd.isAgg115
 z164:=Tryd.sizeOf115
 v164:=Tryd.zeroValue115
}
def Tryd.lays166_ren:Go.Shelf.Ren:=⟨fun|166=>42|167=>59|169=>43|240=>54|276=>60|n=>n,fun|31=>78|72=>93|76=>97|70=>90|37=>91|75=>96|127=>111|164=>115|80=>99|n=>n,fun|n=>n⟩
theorem Tryd.lays166:Go.Proofs.Lays.n166 Tryd.prog Tryd.lays166_ren:= {
 mixed:=by kernel_rfl
 f166:=Tryd.func42.trans (congrArg some (by kernel_rfl))
 f240:=Tryd.func54.trans (congrArg some (by kernel_rfl))
 f276:=Tryd.func60.trans (congrArg some (by kernel_rfl))
 t0:=Tryd.underlying0
 a0:=Tryd.isAgg0
 z0:=Tryd.sizeOf0
 v0:=Tryd.zeroValue0
 t3:=Tryd.underlying3
 a3:=Tryd.isAgg3
 z3:=Tryd.sizeOf3
 v3:=Tryd.zeroValue3
 t4:=Tryd.underlying4
 a4:=Tryd.isAgg4
 z4:=Tryd.sizeOf4
 v4:=Tryd.zeroValue4
 t9:=Tryd.underlying9
 a9:=Tryd.isAgg9
 z9:=Tryd.sizeOf9
 v9:=Tryd.zeroValue9
 t20:=Tryd.underlying20
 a20:=Tryd.isAgg20
 z20:=Tryd.sizeOf20
 v20:=Tryd.zeroValue20
 t37:=Tryd.underlying91
 a37:=Tryd.isAgg91
 z37:=Tryd.sizeOf91
 v37:=Tryd.zeroValue91
 t70:=Tryd.underlying90
 a70:=Tryd.isAgg90
 z70:=Tryd.sizeOf90
 v70:=Tryd.zeroValue90
 t72:=Tryd.underlying93
 a72:=Tryd.isAgg93
 z72:=Tryd.sizeOf93
 v72:=Tryd.zeroValue93
 t75:=Tryd.underlying96
 a75:=Tryd.isAgg96
 z75:=Tryd.sizeOf96
 v75:=Tryd.zeroValue96
 t164:=Tryd.underlying115
 a164:=Tryd.isAgg115
 z164:=Tryd.sizeOf115
 v164:=Tryd.zeroValue115
}
def Tryd.lays169_ren:Go.Shelf.Ren:=⟨fun|166=>42|167=>59|169=>43|240=>54|276=>60|n=>n,fun|31=>78|72=>93|76=>97|70=>90|37=>91|75=>96|127=>111|164=>115|80=>99|n=>n,fun|n=>n⟩
theorem Tryd.lays169:Go.Proofs.Lays.n169 Tryd.prog Tryd.lays169_ren:= {
 mixed:=by kernel_rfl
 f169:=Tryd.func43.trans (congrArg some (by kernel_rfl))
 t0:=Tryd.underlying0
 a0:=Tryd.isAgg0
 z0:=Tryd.sizeOf0
 v0:=Tryd.zeroValue0
 t3:=Tryd.underlying3
 a3:=Tryd.isAgg3
 z3:=Tryd.sizeOf3
 v3:=Tryd.zeroValue3
 t9:=Tryd.underlying9
 a9:=Tryd.isAgg9
 z9:=Tryd.sizeOf9
 v9:=Tryd.zeroValue9
 t37:=Tryd.underlying91
 a37:=Tryd.isAgg91
 z37:=Tryd.sizeOf91
 v37:=Tryd.zeroValue91
 t70:=Tryd.underlying90
 a70:=Tryd.isAgg90
 z70:=Tryd.sizeOf90
 v70:=Tryd.zeroValue90
 t72:=Tryd.underlying93
 a72:=Tryd.isAgg93
 z72:=Tryd.sizeOf93
 v72:=Tryd.zeroValue93
 t127:=Tryd.underlying111
 a127:=Tryd.isAgg111
 z127:=Tryd.sizeOf111
 v127:=Tryd.zeroValue111
}
theorem Tryd.Builder_Extra_167:Builder.Extra Tryd.prog Tryd.lays167_ren where
 sizeBuilder:=by kernel_rfl
 liesBuilder:=by kernel_rfl
 t5:=Tryd.underlying5
 a5:=Tryd.isAgg5
 z5:=Tryd.sizeOf5
 v5:=Tryd.zeroValue5
 infoByte:=by kernel_rfl
 cellsByte:=by kernel_rfl
 sizeByte:=by kernel_rfl
 neB5:=by decide
theorem Tryd.Builder_Extra_166:Builder.Extra Tryd.prog Tryd.lays166_ren where
 sizeBuilder:=by kernel_rfl
 liesBuilder:=by kernel_rfl
 t5:=Tryd.underlying5
 a5:=Tryd.isAgg5
 z5:=Tryd.sizeOf5
 v5:=Tryd.zeroValue5
 infoByte:=by kernel_rfl
 cellsByte:=by kernel_rfl
 sizeByte:=by kernel_rfl
 neB5:=by decide
theorem Tryd.Builder_Extra_169:Builder.Extra Tryd.prog Tryd.lays169_ren where
 sizeBuilder:=by kernel_rfl
 liesBuilder:=by kernel_rfl
 t5:=Tryd.underlying5
 a5:=Tryd.isAgg5
 z5:=Tryd.sizeOf5
 v5:=Tryd.zeroValue5
 infoByte:=by kernel_rfl
 cellsByte:=by kernel_rfl
 sizeByte:=by kernel_rfl
 neB5:=by decide
theorem Tryd.Builder_WriteByte_k (B b:Nat) (bs:List Value) (c:Int) (w:World) (h:Lib.IsBuilderF 93 5 B b bs w) (hlen:bs.length+1≤140737488355328) (hBw:B≤w.heap.size):
  Calls Tryd.prog 59 #[.pointer (some ⟨b,0,none⟩), .int .u8 c] w fun e w' =>e= .returned .nilIface∧(Lib.BuilderAtF 93 5 B b (.pointer (some ⟨b,0,none⟩)) (bs++ [.int .u8 c]) w'∧RowKit.Below B w w'∧Lib.OthersKept 5 (some b) w w'):=Any.Builder_WriteByte_k Tryd.lays167 Tryd.Builder_Extra_167 B b bs c w h hlen hBw
theorem Tryd.Builder_WriteString_k (B b:Nat) (bs:List Value) (s:ByteArray) (w:World) (h:Lib.IsBuilderF 93 5 B b bs w) (hlen:bs.length+s.size≤140737488355328) (hBw:B≤w.heap.size):
  Calls Tryd.prog 42 #[.pointer (some ⟨b,0,none⟩), .string s] w fun e w' =>e= .returned (.tuple #[.int .i64 s.size, .nilIface])∧(Lib.BuilderAtF 93 5 B b (.pointer (some ⟨b,0,none⟩)) (bs++Lib.strCells s) w'∧RowKit.Below B w w'∧Lib.OthersKept 5 (some b) w w'):=Any.Builder_WriteString_k Tryd.lays166 Tryd.Builder_Extra_166 B b bs s w h hlen hBw
theorem Tryd.Builder_String_k (B b:Nat) (l:List UInt8) (w:World) (h:Lib.IsBuilderF 93 5 B b (Lib.byteCells l) w) (h0:l≠ []):
  Calls Tryd.prog 43 #[.pointer (some ⟨b,0,none⟩)] w fun e w' =>e= .returned (.string ⟨l.toArray⟩)∧(Lib.IsBuilderF 93 5 B b (Lib.byteCells l) w'∧RowKit.Below B w w'∧Lib.OthersKept 5 (some b) w w'):=Any.Builder_String_k Tryd.lays169 Tryd.Builder_Extra_169 B b l w h h0
end Go.Proofs

namespace Go.Proofs
open Go.RowKit
def Tryd.quoteUpto (s:ByteArray) (k:Nat):List UInt8:= [34]++((s.data.toList.take k).map Bf.quoteB).flatten
set_option maxRecDepth 100000 in
theorem Tryd.low4:∀c:Fin 256,bits BinOp.and IntKind.u8 (c.val:Int) 15=((c.val % 16:Nat):Int):=by decide
theorem Tryd.hexSlice (n:Nat) (hn:n<16) (w:World):(Instr.slice 9 (Value.string {data:= #[48,49,50,51,52,53,54,55,56,57,97,98,99,100,101,102]}) (some (.int .u8 (n:Int))) (some (.int .u8 (IntKind.u8.wrap ((n:Int)+1)))) none).run Tryd.prog w= .ok (.string ⟨#[Bf.hexD n]⟩) w:=by
 have e:IntKind.u8.wrap ((n:Int)+1)=((n+1:Nat):Int):=by
  have:n=0∨n=1∨n=2∨n=3∨n=4∨n=5∨n=6∨n=7∨n=8∨n=9∨n=10∨n=11∨n=12∨n=13∨n=14∨n=15:=by omega
  rcases this with rfl|rfl|rfl|rfl|rfl|rfl|rfl|rfl|rfl|rfl|rfl|rfl|rfl|rfl|rfl|rfl<;>decide
 rw [e,run_slice_string w 9 _ .u8 .u8 (n:Int) ((n+1:Nat):Int) Tryd.underlying9 (by omega) (by omega) (by show ((n+1:Nat):Int)≤16; omega)]
 have:n=0∨n=1∨n=2∨n=3∨n=4∨n=5∨n=6∨n=7∨n=8∨n=9∨n=10∨n=11∨n=12∨n=13∨n=14∨n=15:=by omega
 rcases this with rfl|rfl|rfl|rfl|rfl|rfl|rfl|rfl|rfl|rfl|rfl|rfl|rfl|rfl|rfl|rfl<;>rfl
theorem Tryd.quoteUpto_le (s:ByteArray) (k:Nat) (hk:k≤s.size) (hs:s.size≤64):(Tryd.quoteUpto s k).length≤193:=by
 have:∀l:List UInt8,((l.map Bf.quoteB).flatten).length≤3*l.length:=fun l=>by
  induction l with
  |nil=>simp
  |cons c r ih=>
   have:(Bf.quoteB c).length≤3:=by unfold Bf.quoteB; split<;>simp
   simp only [List.map_cons,List.flatten_cons,List.length_append,List.length_cons] at ih⊢
   omega
 have h1:=this (s.data.toList.take k)
 have h2:(s.data.toList.take k).length≤64:=by
  have:s.size=s.data.toList.length:=Array.length_toList.symm
  simp; omega
 unfold Tryd.quoteUpto
 simp only [List.length_append,List.length_cons,List.length_nil]
 omega
theorem Tryd.quoteUpto_succ (s:ByteArray) (k:Nat) (hk:k<s.size):Tryd.quoteUpto s (k+1)=Tryd.quoteUpto s k++Bf.quoteB s[k]:=by
 have e:s.size=s.data.toList.length:=Array.length_toList.symm
 have hk2:k<s.data.toList.length:=by omega
 unfold Tryd.quoteUpto
 rw [List.take_succ_eq_append_getElem hk2,List.map_append,List.flatten_append]
 simp only [List.map_cons,List.map_nil,List.flatten_cons,List.flatten_nil,List.append_nil,List.append_assoc]
 rfl
theorem Tryd.quoteUpto_all (s:ByteArray):Tryd.quoteUpto s s.size++ [34]=Bf.quoteT s.data.toList:=by
 have e:s.size=s.data.toList.length:=Array.length_toList.symm
 unfold Tryd.quoteUpto Bf.quoteT
 rw [e,List.take_length]
theorem Tryd.odd_cells (s:ByteArray) (k:Nat) (hk:k<s.size) (ho:Bf.oddB s[k]=true):
  Lib.byteCells (Tryd.quoteUpto s k)++Lib.strCells (({data:= #[92]}:ByteArray)++ {data:= #[Bf.hexD (s[k].toNat / 16)]}++ {data:= #[Bf.hexD (s[k].toNat % 16)]})=Lib.byteCells (Tryd.quoteUpto s (k+1)):=by
 rw [Tryd.quoteUpto_succ s k hk,Lib.byteCells_append]
 congr 1
 rw [Bf.quoteB,if_pos ho]
 rfl
theorem Tryd.even_cells (s:ByteArray) (k:Nat) (hk:k<s.size) (ho:Bf.oddB s[k]=false):
  Lib.byteCells (Tryd.quoteUpto s k)++ [Value.int .u8 (s[k].toNat:Int)]=Lib.byteCells (Tryd.quoteUpto s (k+1)):=by
 rw [Tryd.quoteUpto_succ s k hk,Lib.byteCells_append]
 congr 1
 rw [Bf.quoteB,if_neg (by simp [ho])]
 rfl
set_option maxHeartbeats 4000000 in
set_option maxRecDepth 1000000 in
theorem Tryd.quoted_walk (s:ByteArray) (w:World) (hs:s.size≤64):
  Calls Tryd.prog 53 #[.string s] w fun e w' =>e= .returned (.string ⟨(Bf.quoteT s.data.toList).toArray⟩)∧Below w.heap.size w w' :=by
 go_enter Tryd.func53,Tryd.ntmps53
 go_wp2_with (go_at_call 59; refine (Tryd.Builder_WriteByte_k w.heap.size w.heap.size [] 34 _ (Lib.IsBuilderF.of (Lib.fresh_isBuilder 93 5 w)) (by simp) (by simp)).mono ?_)
 rintro e W0 ⟨rfl,h0,b0,_⟩
 go_wp2
 go_loopw [9] (fun v wr=>∃k:Nat,v= .int .i64 k∧k≤s.size∧Lib.IsBuilderF 93 5 w.heap.size w.heap.size (Lib.byteCells (Tryd.quoteUpto s k)) wr∧Below w.heap.size w wr) (fun v _=>s.size - (intOf v).toNat)
 case atStart=>
  refine ⟨0,rfl,by omega, ?_, ?_⟩
  ·exact Or.inr h0
  ·exact ((Below.refl _ w).alloc (Nat.le_refl _) _).trans b0
 case round=>
  obtain ⟨k,rfl,hk,hI,hbw⟩:=hrel
  by_cases hp:k<s.size
  ·have hx1:∀w,(Instr.slice 9 (Value.string {data:= #[48,49,50,51,52,53,54,55,56,57,97,98,99,100,101,102]}) (some (.int .u8 ((s[k].toNat:Int) / 16))) (some (.int .u8 (IntKind.u8.wrap ((s[k].toNat:Int) / 16+1)))) none).run Tryd.prog w= .ok (.string ⟨#[Bf.hexD (s[k].toNat / 16)]⟩) w:=
    fun w=>Tryd.hexSlice (s[k].toNat / 16) (by have:=s[k].toNat_lt; omega) w
   have hb:bits BinOp.and IntKind.u8 (s[k].toNat:Int) 15=((s[k].toNat % 16:Nat):Int):=Tryd.low4 ⟨s[k].toNat,s[k].toNat_lt⟩
   have hx2:∀w,(Instr.slice 9 (Value.string {data:= #[48,49,50,51,52,53,54,55,56,57,97,98,99,100,101,102]}) (some (.int .u8 (bits BinOp.and IntKind.u8 (s[k].toNat:Int) 15))) (some (.int .u8 (IntKind.u8.wrap (bits BinOp.and IntKind.u8 (s[k].toNat:Int) 15+1)))) none).run Tryd.prog w= .ok (.string ⟨#[Bf.hexD (s[k].toNat % 16)]⟩) w:=by
    intro w; rw [hb]; exact Tryd.hexSlice (s[k].toNat % 16) (by omega) w
   clear hb
   have hql:=Tryd.quoteUpto_le s k hk hs
   by_cases d1:(s[k].toNat:Int)<32
   ·go_wp2
    refine wp_region_still_tail 14 (by kernel_rfl) (by kernel_rfl) ?_
    simp only [List.take_succ_cons,List.take_zero,List.drop_succ_cons,List.drop_zero]
    (repeat still_step)
    try refine wpStill_nil ?_
    have hI2:Lib.IsBuilderF 93 5 w.heap.size w.heap.size (Lib.byteCells (Tryd.quoteUpto s k)) wr.drew:=hI
    have hbw2:Below w.heap.size w wr.drew:=hbw.drew
    change wpList _ _ _ _ _ wr.drew
    generalize wr.drew=w2 at hI2 hbw2⊢
    go_wp2_with (go_at_call 42; refine (Tryd.Builder_WriteString_k w.heap.size w.heap.size _ _ _ hI2 (by rw [Lib.byteCells_length]; show _+3≤_; omega) hbw2.size).mono ?_)
    rintro e W1 ⟨rfl,h1,b1,_⟩
    go_wp2
    go_roundw
    case rel=>
     refine ⟨k+1,by go_num,by omega, ?_,hbw2.trans b1⟩
     rw [←Tryd.odd_cells s k hp (by simp [Bf.oddB,d1])]
     exact Or.inr h1
    case measure=>simp [intOf]; omega
   by_cases d2:126<(s[k].toNat:Int)
   ·go_wp2
    refine wp_region_still_tail 14 (by kernel_rfl) (by kernel_rfl) ?_
    simp only [List.take_succ_cons,List.take_zero,List.drop_succ_cons,List.drop_zero]
    (repeat still_step)
    try refine wpStill_nil ?_
    have hI2:Lib.IsBuilderF 93 5 w.heap.size w.heap.size (Lib.byteCells (Tryd.quoteUpto s k)) wr.drew:=hI
    have hbw2:Below w.heap.size w wr.drew:=hbw.drew
    change wpList _ _ _ _ _ wr.drew
    generalize wr.drew=w2 at hI2 hbw2⊢
    go_wp2_with (go_at_call 42; refine (Tryd.Builder_WriteString_k w.heap.size w.heap.size _ _ _ hI2 (by rw [Lib.byteCells_length]; show _+3≤_; omega) hbw2.size).mono ?_)
    rintro e W1 ⟨rfl,h1,b1,_⟩
    go_wp2
    go_roundw
    case rel=>
     refine ⟨k+1,by go_num,by omega, ?_,hbw2.trans b1⟩
     rw [←Tryd.odd_cells s k hp (by simp [Bf.oddB,d2])]
     exact Or.inr h1
    case measure=>simp [intOf]; omega
   cases d3:((s[k].toNat:Int)==34)
   case true=>
    go_wp2
    refine wp_region_still_tail 14 (by kernel_rfl) (by kernel_rfl) ?_
    simp only [List.take_succ_cons,List.take_zero,List.drop_succ_cons,List.drop_zero]
    (repeat still_step)
    try refine wpStill_nil ?_
    have hI2:Lib.IsBuilderF 93 5 w.heap.size w.heap.size (Lib.byteCells (Tryd.quoteUpto s k)) wr.drew:=hI
    have hbw2:Below w.heap.size w wr.drew:=hbw.drew
    change wpList _ _ _ _ _ wr.drew
    generalize wr.drew=w2 at hI2 hbw2⊢
    go_wp2_with (go_at_call 42; refine (Tryd.Builder_WriteString_k w.heap.size w.heap.size _ _ _ hI2 (by rw [Lib.byteCells_length]; show _+3≤_; omega) hbw2.size).mono ?_)
    rintro e W1 ⟨rfl,h1,b1,_⟩
    go_wp2
    go_roundw
    case rel=>
     refine ⟨k+1,by go_num,by omega, ?_,hbw2.trans b1⟩
     rw [←Tryd.odd_cells s k hp (by simp [Bf.oddB,d3])]
     exact Or.inr h1
    case measure=>simp [intOf]; omega
   cases d4:((s[k].toNat:Int)==92)
   case true=>
    go_wp2
    refine wp_region_still_tail 14 (by kernel_rfl) (by kernel_rfl) ?_
    simp only [List.take_succ_cons,List.take_zero,List.drop_succ_cons,List.drop_zero]
    (repeat still_step)
    try refine wpStill_nil ?_
    have hI2:Lib.IsBuilderF 93 5 w.heap.size w.heap.size (Lib.byteCells (Tryd.quoteUpto s k)) wr.drew:=hI
    have hbw2:Below w.heap.size w wr.drew:=hbw.drew
    change wpList _ _ _ _ _ wr.drew
    generalize wr.drew=w2 at hI2 hbw2⊢
    go_wp2_with (go_at_call 42; refine (Tryd.Builder_WriteString_k w.heap.size w.heap.size _ _ _ hI2 (by rw [Lib.byteCells_length]; show _+3≤_; omega) hbw2.size).mono ?_)
    rintro e W1 ⟨rfl,h1,b1,_⟩
    go_wp2
    go_roundw
    case rel=>
     refine ⟨k+1,by go_num,by omega, ?_,hbw2.trans b1⟩
     rw [←Tryd.odd_cells s k hp (by simp [Bf.oddB,d4])]
     exact Or.inr h1
    case measure=>simp [intOf]; omega
   go_wp2_with (go_at_call 59; refine (Tryd.Builder_WriteByte_k w.heap.size w.heap.size _ _ _ hI (by rw [Lib.byteCells_length]; omega) hbw.size).mono ?_)
   rintro e W1 rfl h1 b1 _
   go_wp2
   go_roundw
   case rel=>
    refine ⟨k+1,by go_num,by omega, ?_,hbw.trans b1⟩
    rw [←Tryd.even_cells s k hp (by simp [Bf.oddB,d1,d2,d3,d4])]
    exact Or.inr h1
   case measure=>simp [intOf]; omega
  ·have hk2:k=s.size:=by omega
   subst hk2
   have hql:=Tryd.quoteUpto_le s s.size hk hs
   go_wp2_with (go_at_call 59; refine (Tryd.Builder_WriteByte_k w.heap.size w.heap.size _ _ _ hI (by rw [Lib.byteCells_length]; omega) hbw.size).mono ?_)
   rintro e W1 ⟨rfl,h1,b1,_⟩
   have e34:Lib.byteCells (Tryd.quoteUpto s s.size)++ [Value.int .u8 34]=Lib.byteCells (Bf.quoteT s.data.toList):=by
    rw [←Tryd.quoteUpto_all,Lib.byteCells_append]; rfl
   rw [e34] at h1
   go_wp2_with (go_at_call 43; refine (Tryd.Builder_String_k w.heap.size w.heap.size _ _ (Or.inr h1) (by simp [Bf.quoteT])).mono ?_)
   rintro e W2 ⟨rfl,_,b2,_⟩
   go_wp2
   go_ret
   exact ⟨rfl,(hbw.trans b1).trans b2⟩
end Go.Proofs

set_option linter.unusedSimpArgs false
set_option linter.unusedVariables false
namespace Go.Proofs.YtcgcjihjhlenkaaDoor
open Go Go.Ab Go.Bf
theorem quoted_ok:Quoted:=fun s h hs=>by
 refine .lib ⟨_,Tryd.func53,by kernel_rfl,rfl⟩ fun c vs hs' g h1 h2=> ?_
 obtain ⟨v,rfl⟩:∃v,vs= #[v]:=Array.size_eq_one_iff.1 h1
 have e:v= .string ⟨s.toArray⟩:=((h2 0 (by simp)).s_inv).1
 subst e
 refine (Tryd.quoted_walk ⟨s.toArray⟩ c.w (by simpa [ByteArray.size] using hs)).mono ?_
 rintro e w' ⟨rfl,hb⟩
 have hl:=quoteT_le s hs
 exact ⟨⟨_,rfl,fun c' _=> .s _ (by show (quoteT s).length<lim; have:(194:Nat)<lim:=(by decide); omega)⟩,hb⟩
end Go.Proofs.YtcgcjihjhlenkaaDoor

set_option linter.unusedSimpArgs false
set_option linter.unusedVariables false
namespace Go.Proofs.YtcgcjihjhlenkaaDoor
open Go Go.Ab Go.Bf
end Go.Proofs.YtcgcjihjhlenkaaDoor

set_option linter.unusedSimpArgs false
set_option linter.unusedVariables false
namespace Go.Proofs.YtcgcjihjhlenkaaDoor
open Go Go.Ab Go.Bf
def runAttr:AttrD:=⟨3,[111,119,110,101,114],true⟩
def runPol:PolD:= .mk [112] false 1 [] [⟨[114],true,[[[⟨runAttr,1,⟨5,0,[97,110,110]⟩⟩],[⟨runAttr,1,⟨2,1,[]⟩⟩]]],[⟨1,⟨1,1,[]⟩,⟨0,[],false⟩⟩,⟨11,⟨0,0,[]⟩,⟨0,[],false⟩⟩],[]⟩] [] [⟨1,1,[120]⟩]
theorem runPol_in:inP runPol:=by
 simp [runPol,inP,inK,inT,inY,inA,inR,inL,inV]
set_option maxRecDepth 100000 in
theorem runPol_text:showP runPol= [112,111,108,105,99,121,32,112,32,100,101,110,121,111,118,101,114,32,123,32,100,101,110,121,32,114,32,119,104,101,110,32,40,99,97,115,101,46,111,119,110,101,114,33,32,61,32,35,97,110,110,32,111,114,32,99,97,115,101,46,111,119,110,101,114,33,32,61,32,49,41,32,105,102,32,40,110,111,116,32,116,114,117,101,41,59,32,125,32,111,110,32,112,101,114,109,105,116,32,108,111,103,32,120]:=by
 kernel_rfl
theorem showRuns_ok (h:Heap) (ht:PowT h):FnOK Tryd.prog 6 [] h fun r h' =>r= .v (.bool true)∧h' =h:=by
 refine FnOK.body hU hm Tryd.func6 rfl (by kernel_rfl) 30 rfl [.tmp 0] rfl (Nat.le_of_ble_eq_true rfl) (fun hwf=> ?_)
 simp -implicitDefEqProofs only [go_sem]
 intro i1 h1
 simp -implicitDefEqProofs only [go_sem]
 intro i2 h2
 simp -implicitDefEqProofs only [go_sem]
 intro i3 h3
 simp -implicitDefEqProofs only [go_sem]
 have hp:=fun hh hs=>spolicy_ok quoted_ok runPol runPol_in hh (ht.sub hs)
 rw [runPol_text] at hp
 refine FnOK.strip ?_
 have e:∀(a:List AV) (k:Heap),a= [polA runPol]→FnOK Tryd.prog 9 [polA runPol] k=FnOK Tryd.prog 9 a k:=fun a k e=>by rw [e]
 rw [←e _ _ (by simp [strip,stripL,polA,runPol,runAttr,kidsA,ruleA,tgtA,anyA,allA,matchA,condA,nodeA,oblsA,oblA])]
 refine (hp _ (((Sub.upd_new h1).trans (.upd_new h2)).trans (.upd_new h3))).pthen ?_
 simp -implicitDefEqProofs only [go_sem,List.append_eq,List.cons_append,List.nil_append,List.length_cons,List.length_nil,decide_true,Nat.zero_add]
 exact .mk _ (.refl _) (((Sub.upd_new h1).trans (.upd_new h2)).trans (.upd_new h3)) ⟨rfl,rfl⟩
theorem pow_tab:PowT (tabH [(1,pow10V)]):=⟨0,rfl⟩
end Go.Proofs.YtcgcjihjhlenkaaDoor

set_option linter.unusedSimpArgs false
set_option linter.unusedVariables false
namespace Go.Proofs.YtcgcjihjhlenkaaDoor
open Go Go.Ab Go.Bf
theorem apart_text {p q:PolD} (hp:rightE p=0) (hq:rightE q=0) (ip:inP p) (iq:inP q):(showP p==showP q)=eqP p q:=by
 have e1:showP p=polT p:=by unfold showP; rw [if_pos hp]
 have e2:showP q=polT q:=by unfold showP; rw [if_pos hq]
 rw [e1,e2]
 by_cases e:p=q
 ·subst e
  rw [beq_self_eq_true,(eqP_eq _ _).2 rfl]
 ·have h1:(polT p==polT q)=false:=beq_eq_false_iff_ne.mpr fun h=>e (polT_inj hp hq ip iq h)
  have h2:eqP p q=false:=by
   cases hh:eqP p q
   ·rfl
   ·exact (e ((eqP_eq _ _).1 hh)).elim
  rw [h1,h2]
theorem pow_ro {h:Heap} (hp:PowT h):PowT (roH h):=by
 obtain ⟨id,e⟩:=hp
 exact ⟨id,roH_of e⟩
def ApJ (h:Heap) (P:PolD) (i4 i5:Nat) (ρ:Env) (H:Heap):Prop:=∃(id:Txt) (set:Bool) (alg:Int) (tgt:TgtD) (rules:List RuleD) (kids:List PolD) (obls:List OblD) (z kv ov:AV),
 H i5=some (.obj [.s id, .v (.bool set), .v (.int .i64 alg),tgtA tgt,z,kv,ov] 28)∧Frz (roH H) H (.agg [.s id, .v (.bool set), .v (.int .i64 alg),tgtA tgt,z,kv,ov]) (polA (.mk id set alg tgt rules kids obls))∧inP (.mk id set alg tgt rules kids obls)∧(∃cs,polA P= .agg cs∧H i4=some (.obj cs 28))∧Ab.Sub h H∧lk ρ 4=some (.ptr i4 0)∧lk ρ 5=some (.ptr i5 0)
set_option maxRecDepth 100000 in
theorem showApart_ok (x y z u:AV) (dx:Dat U 28 x) (dy:Dat U 28 y) (dz:Dat U 3 z) (du:Dat U 3 u) (h:Heap) (hp:PowT h):FnOK Tryd.prog 3 [x,y,z,u] h fun r h' =>r= .v (.bool true)∧h' =h:=by
 obtain ⟨p,rfl,hi⟩:=dat_pol dx
 obtain ⟨q,rfl,hiq⟩:=dat_pol dy
 obtain ⟨how,rfl,hw64⟩:=dz.i64 (by rfl)
 obtain ⟨at_,rfl,ha64⟩:=du.i64 (by rfl)
 have fin:∀H,Ab.Sub h H→FnOK Tryd.prog 6 [] H fun r h' =>r= .v (.bool true)∧h' =H:=fun H hs=>showRuns_ok H (hp.sub hs)
 have hsp:=fun G=>small_ok p G
 have hsq:=fun G=>small_ok q G
 have hrp:=fun G=>right_ok p G
 have hcp:=fun hr G=>copy_own p 1 (right_form hr).1 G
 obtain ⟨pid,pset,palg,ptgt,prules,pkids,pobls,ep⟩:=pol_split p
 obtain ⟨qid,qset,qalg,qtgt,qrules,qkids,qobls,eq⟩:=pol_split q
 have ea:polA p= .agg [.s pid, .v (.bool pset), .v (.int .i64 palg),tgtA ptgt, .sl (prules.map ruleA) .no, .sl (pkids.map polA) .no,oblsA pobls]:=by rw [ep,polC_mk]
 have eb:polA q= .agg [.s qid, .v (.bool qset), .v (.int .i64 qalg),tgtA qtgt, .sl (qrules.map ruleA) .no, .sl (qkids.map polA) .no,oblsA qobls]:=by rw [eq,polC_mk]
 have ea0:=ea
 rw [ea,eb]
 simp only [ea] at hsp hrp hcp
 simp only [eb] at hsq
 refine FnOK.body hU hm Tryd.func3 rfl (by kernel_rfl) 108 rfl [.tmp 8] rfl (Nat.le_of_ble_eq_true rfl) (fun hwf=> ?_)
 simp -implicitDefEqProofs only [go_sem]
 intro i4 h4
 simp -implicitDefEqProofs only [go_sem]
 intro i5 h5
 have n45:=ne_upd h5
 have n5:=upd_none h5
 simp -implicitDefEqProofs only [go_sem,upd_ne,n45.symm]
 obtain ⟨H,eH⟩:∃H,upd (upd h i4 (some (.obj [.s pid, .v (.bool pset), .v (.int .i64 palg),tgtA ptgt, .sl (prules.map ruleA) .no, .sl (pkids.map polA) .no,oblsA pobls] 28))) i5 (some (.obj [.s qid, .v (.bool qset), .v (.int .i64 qalg),tgtA qtgt, .sl (qrules.map ruleA) .no, .sl (qkids.map polA) .no,oblsA qobls] 28))=H:=⟨_,rfl⟩
 have hH:Ab.Sub h H:=by rw [←eH]; exact ((Sub.refl h).put h4 _).put n5 _
 have g4:H i4=some (.obj [.s pid, .v (.bool pset), .v (.int .i64 palg),tgtA ptgt, .sl (prules.map ruleA) .no, .sl (pkids.map polA) .no,oblsA pobls] 28):=by rw [←eH,upd_other _ _ n45.symm,upd_same]
 have g5:H i5=some (.obj [.s qid, .v (.bool qset), .v (.int .i64 qalg),tgtA qtgt, .sl (qrules.map ruleA) .no, .sl (qkids.map polA) .no,oblsA qobls] 28):=by rw [←eH,upd_same]
 rw [eH]
 clear eH
 have out:FnOK Tryd.prog 6 [] H fun r h' =>r= .v (.bool true)∧h' =H:=fin H hH
 refine (show FnOK Tryd.prog 4 [_] _ _ from hsp _).mono fun r H ⟨⟨b,hb⟩,hG⟩=> ?_
 subst hb
 subst hG
 cases b
 ·simp -implicitDefEqProofs only [go_sem]
  refine out.pthen ?_
  simp -implicitDefEqProofs only [go_sem]
  exact .mk _ (.refl _) hH ⟨rfl,rfl⟩
 simp -implicitDefEqProofs only [go_sem,g5]
 refine (show FnOK Tryd.prog 4 [_] _ _ from hsq _).mono fun r H ⟨⟨b,hb⟩,hG⟩=> ?_
 subst hb
 subst hG
 cases b
 ·simp -implicitDefEqProofs only [go_sem]
  refine out.pthen ?_
  simp -implicitDefEqProofs only [go_sem]
  exact .mk _ (.refl _) hH ⟨rfl,rfl⟩
 simp -implicitDefEqProofs only [go_sem,g4]
 refine FnOK.pthen (show FnOK Tryd.prog 5 [_] _ _ from hrp _) ?_
 cases d2:(rightE p==(0:Int))
 ·simp -implicitDefEqProofs only [go_sem,d2,bne]
  refine out.pthen ?_
  simp -implicitDefEqProofs only [go_sem]
  exact .mk _ (.refl _) hH ⟨rfl,rfl⟩
 have hr:rightE p=0:=by simpa using d2
 cases d3:decide ((pid.length:Int)<1)
 case true=>
  simp -implicitDefEqProofs only [go_sem,d2,bne,g4,d3]
  refine out.pthen ?_
  simp -implicitDefEqProofs only [go_sem]
  exact .mk _ (.refl _) hH ⟨rfl,rfl⟩
 have hid:1≤pid.length:=by have:=of_decide_eq_false d3; omega
 simp -implicitDefEqProofs only [go_sem,d2,bne,g4,d3]
 refine CondC.join (ApJ h p i4 i5) ?_ fun K hK=> ?_
 rotate_left
 ·cases d4:decide ((0:Int)≤how)
  ·simp -implicitDefEqProofs only [go_sem,d4]
   refine hK _ _ ⟨qid,qset,qalg,qtgt,qrules,qkids,qobls,_,_,_,g5, ?_,by rw [←eq]; exact hiq,⟨_,ea0,g4⟩,hH, ?_, ?_⟩
   ·rw [polC_mk]
    exact .pure (by have:=pure_pol q; rw [eq,polC_mk] at this; exact this)
   all_goals simp -implicitDefEqProofs only [go_sem]
  simp -implicitDefEqProofs only [go_sem,d4,g4]
  refine (show FnOK Tryd.prog 7 [_] _ _ from hcp hr _).mono fun r H1 ⟨hpw,hs1⟩=> ?_
  rw [ep] at hpw
  obtain ⟨z,vs,qk,qo,rfl,hw,hrw⟩:=hpw
  have g5' :=hs1 _ _ g5
  have g4' :=hs1 _ _ g4
  simp -implicitDefEqProofs only [go_sem,g5',hw.rd.fit,hw.rd.cells]
  obtain ⟨H2,eH2⟩:∃H2,upd H1 i5 (some (.obj [.s pid, .v (.bool pset), .v (.int .i64 palg),tgtA ptgt,z, .sl (pkids.map polA) qk, .sl (pobls.map oblA) qo] 28))=H2:=⟨_,rfl⟩
  rw [eH2]
  have f5:H2 i5=some (.obj [.s pid, .v (.bool pset), .v (.int .i64 palg),tgtA ptgt,z, .sl (pkids.map polA) qk, .sl (pobls.map oblA) qo] 28):=by rw [←eH2,upd_same]
  have f4:H2 i4=some (.obj [.s pid, .v (.bool pset), .v (.int .i64 palg),tgtA ptgt, .sl (prules.map ruleA) .no, .sl (pkids.map polA) .no,oblsA pobls] 28):=by rw [←eH2,upd_other _ _ n45.symm]; exact g4'
  have hs2:Ab.Sub h H2:=by rw [←eH2]; exact (hH.trans hs1).put n5 _
  have keep:∀ {G:Heap} {b:Option Blk} {vs:List AV},OwE 37 H G 5 z vs→G i5=some (.obj [.s pid, .v (.bool pset), .v (.int .i64 palg),tgtA ptgt,z, .sl (pkids.map polA) qk, .sl (pobls.map oblA) qo] 28)→OwE 37 H (upd G i5 b) 5 z vs:=fun {G b vs} hw hg=>by
   rcases hw with hw|⟨id,h0,ow⟩
   ·exact .inl hw
   ·exact .inr ⟨id,h0,ow.same (upd_other _ _ (ow_ne ow hg (by decide)))⟩
  have hw2:OwE 37 H H2 5 z vs:=by
   rw [←eH2]
   rcases hw with hw|⟨id,h0,ow⟩
   ·exact .inl hw
   ·exact .inr ⟨id,h0,ow.same (upd_other _ _ (ow_ne ow g5' (by decide)))⟩
  clear eH2
  have done:∀(ρ' :Env) (H3:Heap) (id' :Txt) (alg' :Int) (rules' :List RuleD) (obls' :List OblD) (qo' :Perm) (vs' :List AV),H3 i5=some (.obj [.s id', .v (.bool pset), .v (.int .i64 alg'),tgtA ptgt,z, .sl (pkids.map polA) qk, .sl (obls'.map oblA) qo'] 28)→OwE 37 H H3 5 z vs'→RulesW vs' rules'→inP (.mk id' pset alg' ptgt rules' pkids obls')→H3 i4=some (.obj [.s pid, .v (.bool pset), .v (.int .i64 palg),tgtA ptgt, .sl (prules.map ruleA) .no, .sl (pkids.map polA) .no,oblsA pobls] 28)→Ab.Sub h H3→lk ρ' 4=some (.ptr i4 0)→lk ρ' 5=some (.ptr i5 0)→K .normal ρ' H3:=fun ρ' H3 id' alg' rules' obls' qo' vs' a1 a2 a3 a4 a5 a6 a7 a8=>
   hK _ _ ⟨id',pset,alg',ptgt,rules',pkids,obls',z,_,_,a1,PolW.frz (p:= .mk id' pset alg' ptgt rules' pkids obls') ⟨z,vs',qk,qo',rfl,a2,a3⟩ ro_ow,a4,⟨_,ea0,a5⟩,a6,a7,a8⟩
  rw [ep] at hi
  refine (within_ok how 4 _ hw64 (by decide)).pthen ?_
  have hn4:=withinD_le how 4
  obtain ⟨n,en⟩:∃n,withinD how 4=n:=⟨_,rfl⟩
  rw [en] at hn4⊢
  have hn:n=0∨n=1∨n=2∨n=3∨n=4:=by omega
  rcases hn with rfl|rfl|rfl|rfl|rfl
  ·have t1:(((0:Nat):Int)==1)=false:=rfl
   have t2:(((0:Nat):Int)==2)=false:=rfl
   have t3:(((0:Nat):Int)==3)=false:=rfl
   have t4:(((0:Nat):Int)==4)=false:=rfl
   simp -implicitDefEqProofs only [go_sem,t1,t2,t3,t4]
   refine done _ _ _ _ _ _ _ _ f5 hw2 hrw hi f4 hs2 ?_ ?_<;>simp -implicitDefEqProofs only [go_sem]
  ·have t1:(((1:Nat):Int)==1)=true:=rfl
   simp -implicitDefEqProofs only [go_sem,t1,f5]
   refine ⟨by omega,by omega,by omega, ?_⟩
   simp -implicitDefEqProofs only [go_sem,Option.isSome_none,Option.isSome_some,cutL_ft]
   have hlim:lim=9223372036854775808:=rfl
   refine ⟨by rw [List.length_take]; omega, ?_⟩
   refine done _ _ (pid.take 1++ [113]) palg prules pobls qo vs (upd_same ..) (keep hw2 f5) hrw hi (by rw [upd_other _ _ n45.symm]; exact f4) (hs2.put n5 _) ?_ ?_<;>simp -implicitDefEqProofs only [go_sem]
  ·have t1:(((2:Nat):Int)==1)=false:=rfl
   have t2:(((2:Nat):Int)==2)=true:=rfl
   simp -implicitDefEqProofs only [go_sem,t1,t2]
   refine (within_ok at_ 5 _ ha64 (by decide)).pthen ?_
   have hm5:=withinD_le at_ 5
   obtain ⟨m,em⟩:∃m,withinD at_ 5=m:=⟨_,rfl⟩
   rw [em] at hm5⊢
   have wm:IntKind.i64.wrap (1+(m:Int))=1+(m:Int):=IntWalk.i64_in _ (by omega)
   simp -implicitDefEqProofs only [go_sem,wm,f5]
   refine done _ _ pid (1+(m:Int)) prules pobls qo vs (upd_same ..) (keep hw2 f5) hrw hi (by rw [upd_other _ _ n45.symm]; exact f4) (hs2.put n5 _) ?_ ?_<;>simp -implicitDefEqProofs only [go_sem]
  ·have t1:(((3:Nat):Int)==1)=false:=rfl
   have t2:(((3:Nat):Int)==2)=false:=rfl
   have t3:(((3:Nat):Int)==3)=true:=rfl
   have hvl:=hrw.1
   by_cases hz0:prules.length=0
   ·have u1:decide ((vs.length:Int)>0)=false:=decide_eq_false (by omega)
    have u2:decide ((0:Int)<(vs.length:Int))=false:=decide_eq_false (by omega)
    simp -implicitDefEqProofs only [go_sem,t1,t2,t3,f5,hw2.rd.len,u1,u2]
    refine done _ _ _ _ _ _ _ _ f5 hw2 hrw hi f4 hs2 ?_ ?_<;>simp -implicitDefEqProofs only [go_sem]
   have u1:decide ((vs.length:Int)>0)=true:=decide_eq_true (by omega)
   have u2:decide ((0:Int)<(vs.length:Int))=true:=decide_eq_true (by omega)
   have hr16:=(right_form hr).1
   rw [ep] at hr16
   obtain ⟨_,_,_,_,_,_,_,_,hr16,_⟩:=hr16
   have v1:IntKind.i64.wrap ((vs.length:Int) - 1)=((vs.length - 1:Nat):Int):=by rw [IntWalk.i64_in _ (by omega)]; omega
   simp -implicitDefEqProofs only [go_sem,t1,t2,t3,f5,hw2.rd.len,u1,u2,v1]
   refine (within_ok at_ (vs.length - 1) _ ha64 (by omega)).pthen ?_
   have hkl:=withinD_le at_ (vs.length - 1)
   obtain ⟨k,ek⟩:∃k,withinD at_ (vs.length - 1)=k:=⟨_,rfl⟩
   rw [ek] at hkl⊢
   obtain ⟨id,h0,ow⟩:=hw2.ow (by intro e; rw [e] at hvl; simp at hvl; omega)
   have ne5:=ow_ne ow f5 (by decide)
   have ne4:=ow_ne ow f4 (by decide)
   obtain ⟨cap,rest,ey,hidv,hrest,hcap,hsz⟩:=ow
   subst ey
   have hk:k<vs.length:=by omega
   have hkp:k<prules.length:=by omega
   obtain ⟨c1,c2,ev⟩:=hrw.2 k hk hkp
   have hcl:vs[k].cells.length=5:=by rw [ev]; rfl
   have gk:(flatA vs++rest)[k*5+1]? =some (.v (.bool prules[k].deny)):=by
    have hb:(k+1)*5≤vs.length*5:=Nat.mul_le_mul_right _ (by omega)
    have hfl:=flatA_length hsz
    rw [List.getElem?_append_left (by omega),flatA_get hsz hk (by omega)]
    rw [ev]
    rfl
   have b1:(0:Int)≤(k:Int):=by omega
   have b2:(k:Int)<(vs.length:Int):=by omega
   simp -implicitDefEqProofs only [go_sem]
   refine ⟨.of (by kernel_rfl), ?_⟩
   simp -implicitDefEqProofs only [go_sem,f5,b1,b2,and_self,true_and,gk,hidv]
   have hfl:=flatA_length hsz
   have hb:(k+1)*5≤vs.length*5:=Nat.mul_le_mul_right _ (by omega)
   refine ⟨by rw [List.length_append]; omega, ?_⟩
   have pf:=put_flat hsz k hk 1 [.v (.bool !prules[k].deny)] (by simp) (rest:=rest)
   simp only [List.length_cons,List.length_nil,Nat.zero_add] at pf
   rw [pf]
   refine done _ _ pid palg (prules.set k {prules[k] with deny:= !prules[k].deny}) pobls qo (vs.set k (.agg (Ab.over vs[k].cells 1 [.v (.bool !prules[k].deny)]))) (by rw [upd_other _ _ ne5.symm]; exact f5) (.inr ⟨id,h0,cap,rest,by rw [List.length_set],upd_same ..,by rw [List.length_set]; exact hrest,by rw [List.length_set]; exact hcap,fun w hw=> ?_⟩) ⟨by simp [hvl],fun j h1 h2=> ?_⟩ ⟨hi.1,fun r hr2=> ?_,hi.2.2⟩ (by rw [upd_other _ _ ne4.symm]; exact f4) (fun j b hj=> ?_) ?_ ?_
   ·rcases List.mem_or_eq_of_mem_set hw with hw|rfl
    ·exact hsz w hw
    ·rw [ev]; rfl
   ·rw [List.getElem_set,List.getElem_set]
    by_cases hkj:k=j
    ·subst hkj
     simp only [if_true]
     exact ⟨c1,c2,by rw [ev]; rfl⟩
    ·simp only [if_neg hkj]
     exact hrw.2 j (by simpa using h1) (by simpa using h2)
   ·rcases List.mem_or_eq_of_mem_set hr2 with hr2|rfl
    ·exact hi.2.1 r hr2
    ·have hik:=hi.2.1 prules[k] (List.getElem_mem hkp)
     exact hik
   ·rw [upd_other _ _ (fun e=>by rw [e] at hj; rw [hH _ _ hj] at h0; cases h0)]
    exact hs2 _ _ hj
   all_goals simp -implicitDefEqProofs only [go_sem]
  ·have t1:(((4:Nat):Int)==1)=false:=rfl
   have t2:(((4:Nat):Int)==2)=false:=rfl
   have t3:(((4:Nat):Int)==3)=false:=rfl
   have t4:(((4:Nat):Int)==4)=true:=rfl
   by_cases hz0:pobls.length=0
   ·have u1:decide ((pobls.length:Int)>0)=false:=decide_eq_false (by omega)
    have u2:decide ((0:Int)<(pobls.length:Int))=false:=decide_eq_false (by omega)
    simp -implicitDefEqProofs only [go_sem,t1,t2,t3,t4,f5,List.length_map,u1,u2]
    refine done _ _ _ _ _ _ _ _ f5 hw2 hrw hi f4 hs2 ?_ ?_<;>simp -implicitDefEqProofs only [go_sem]
   have u1:decide ((pobls.length:Int)>0)=true:=decide_eq_true (by omega)
   have u2:decide ((0:Int)<(pobls.length:Int))=true:=decide_eq_true (by omega)
   have ho8:=(right_form hr).1
   rw [ep] at ho8
   obtain ⟨_,_,_,_,_,_,_,ho8,_⟩:=ho8
   have ho8:=obls_le ho8
   have v1:IntKind.i64.wrap ((pobls.length:Int) - 1)=((pobls.length - 1:Nat):Int):=by rw [IntWalk.i64_in _ (by omega)]; omega
   simp -implicitDefEqProofs only [go_sem,t1,t2,t3,t4,f5,List.length_map,u1,u2,v1]
   refine ⟨by omega,by omega, ?_⟩
   refine done _ _ pid palg prules (pobls.take (pobls.length - 1)) _ vs (by rw [List.map_take]; exact upd_same ..) (keep hw2 f5) hrw hi (by rw [upd_other _ _ n45.symm]; exact f4) (hs2.put n5 _) ?_ ?_<;>simp -implicitDefEqProofs only [go_sem]
 rintro ρ G ⟨id,set,alg,tgt,rules,kids,obls,z,kv,ov,f5,hfz,hiq2,⟨cs,ecs,f4⟩,hsG,r4,r5⟩
 rw [ea0] at ecs
 injection ecs with ecs
 subst ecs
 obtain ⟨q2,eq2⟩:∃q2,PolD.mk id set alg tgt rules kids obls=q2:=⟨_,rfl⟩
 rw [eq2] at hfz hiq2
 have hpG:=hp.sub hsG
 have lend1:∀ {f:FuncId} {Q:AV→Prop},(∀r,Q r→(∃x,r= .v x)∨∃l,r= .s l)→FnOK Tryd.prog f [polA q2] (roH G) (fun r h' =>Q r∧h' =roH G)→FnOK Tryd.prog f [.agg [.s id, .v (.bool set), .v (.int .i64 alg),tgtA tgt,z,kv,ov]] G fun r h' =>Q r∧h' =G:=fun {f Q} hq hf=>
  FnOK.lend (args' := [polA q2]) rfl (fun i h1 h2=>by
   obtain rfl:i=0:=by simp at h1; omega
   exact hfz) hq hf
 have hright:=lend1 (f:=5) (Q:=fun r=>r= .v (.int .i64 (rightE q2))) (fun r e=> .inl ⟨_,e⟩) (right_ok q2 _)
 have hshow:=lend1 (f:=9) (Q:=fun r=>r= .s (showP q2)) (fun r e=> .inr ⟨_,e⟩) (spolicy_ok quoted_ok q2 hiq2 _ (pow_ro hpG))
 have hshp:=spolicy_ok quoted_ok p hi G hpG
 have hpol:FnOK Tryd.prog 10 [polA p, .agg [.s id, .v (.bool set), .v (.int .i64 alg),tgtA tgt,z,kv,ov]] G fun r h' =>r= .v (.bool (eqP p q2))∧h' =G:=
  FnOK.lend (args' := [polA p,polA q2]) (Q:=fun r=>r= .v (.bool (eqP p q2))) rfl (fun i h1 h2=>by
   rcases i with _|_|i
   ·exact .pure (pure_pol p)
   ·exact hfz
   ·simp at h1; omega) (fun r e=> .inl ⟨_,e⟩) (policies_ok p q2 _)
 rw [ea0] at hshp hpol
 simp -implicitDefEqProofs only [go_sem,r5,f5]
 refine FnOK.pthen hright ?_
 cases d6:(rightE q2==(0:Int))
 ·have hnr:¬rightE q2=0:=by intro e; rw [e] at d6; cases d6
  have hs0:showP q2= []:=by unfold showP; rw [if_neg hnr]
  rw [hs0] at hshow
  simp -implicitDefEqProofs only [go_sem,d6,bne,r5,f5]
  refine FnOK.pthen hshow ?_
  simp -implicitDefEqProofs only [go_sem,beq_self_eq_true]
  refine (fin G hsG).pthen ?_
  simp -implicitDefEqProofs only [go_sem]
  exact .mk _ (.refl _) hsG ⟨rfl,rfl⟩
 have hqr:rightE q2=0:=by simpa using d6
 have hat:=apart_text hr hqr hi hiq2
 simp -implicitDefEqProofs only [go_sem,d6,bne]
 refine .calls (hm2 i4 (.obj [.s pid, .v (.bool pset), .v (.int .i64 palg),tgtA ptgt, .sl (prules.map ruleA) .no, .sl (pkids.map polA) .no,oblsA pobls] 28) i5 (.obj [.s id, .v (.bool set), .v (.int .i64 alg),tgtA tgt,z,kv,ov] 28)) [0,2,5,6,1,3,4,7,8,9,10,11,12] (.hm2 f4 f5) (by kernel_rfl) rfl ?_
 simp -implicitDefEqProofs only [go_sem,r4,r5,hm2_fst _ _ n45.symm,hm2_snd]
 refine FnOK.pthen hshp ?_
 refine ⟨.hm2 f4 f5, ?_⟩
 simp -implicitDefEqProofs only [go_sem]
 refine FnOK.pthen hshow ?_
 refine ⟨.hm2 f4 f5, ?_⟩
 simp -implicitDefEqProofs only [go_sem]
 refine FnOK.pthen hpol ?_
 refine ⟨.hm2 f4 f5, ?_⟩
 simp -implicitDefEqProofs only [go_sem,hat,beq_self_eq_true]
 refine (fin G hsG).pthen ?_
 refine ⟨.hm2 f4 f5, ?_⟩
 simp -implicitDefEqProofs only [go_sem]
 exact .mk _ (.refl _) hsG ⟨rfl,rfl⟩
theorem showApart_law (x y z u:AV) (dx:Dat U 28 x) (dy:Dat U 28 y) (dz:Dat U 3 z) (du:Dat U 3 u):FnOK Tryd.prog 3 [x,y,z,u] (tabH [(1,pow10V)]) fun r _=>r= .v (.bool true):=(showApart_ok x y z u dx dy dz du _ pow_tab).mono fun _ _ h=>h.1
end Go.Proofs.YtcgcjihjhlenkaaDoor
