/- The law ShowApart: pack 3 of its texts. -/
import Derived.Lib.ItoaLen
import Derived.Lib.Join
import Derived.Lib.Small
import Derived.Laws.Externs
import Derived.Lib.Overlaps
import Derived.Lib.AtoiAll
import Derived.Lib.ItoaMem
import Derived.Test.YtcgcjihjhlenkaaDoorPk1
import Derived.Test.YtcgcjihjhlenkaaDoorPk2
set_option linter.unusedVariables false
namespace Go.Bf
open Go Go.Ab
abbrev Txt:=List UInt8
structure AttrD where
 cat:Int
 name:Txt
 must:Bool
structure ValD where
 kind:Int
 n:Int
 s:Txt
structure MatchD where
 attr:AttrD
 op:Int
 val:ValD
structure NodeD where
 op:Int
 val:ValD
 attr:AttrD
structure OblD where
 on:Int
 kind:Int
 arg:Txt
abbrev TgtD:=List (List (List MatchD))
structure RuleD where
 id:Txt
 deny:Bool
 tgt:TgtD
 cond:List NodeD
 obls:List OblD
inductive PolD where
 |mk (id:Txt) (set:Bool) (alg:Int) (tgt:TgtD) (rules:List RuleD) (kids:List PolD) (obls:List OblD)
def attrA (a:AttrD):AV:= .agg [.v (.int .i64 a.cat), .s a.name, .v (.bool a.must)]
def valA (v:ValD):AV:= .agg [.v (.int .i64 v.kind), .v (.int .i64 v.n), .s v.s]
def matchA (m:MatchD):AV:= .agg [.v (.int .i64 m.attr.cat), .s m.attr.name, .v (.bool m.attr.must), .v (.int .i64 m.op), .v (.int .i64 m.val.kind), .v (.int .i64 m.val.n), .s m.val.s]
def nodeA (m:NodeD):AV:= .agg [.v (.int .i64 m.op), .v (.int .i64 m.val.kind), .v (.int .i64 m.val.n), .s m.val.s, .v (.int .i64 m.attr.cat), .s m.attr.name, .v (.bool m.attr.must)]
def boolA (b:Bool):AV:= .v (.bool b)
def oblA (o:OblD):AV:= .agg [.v (.int .i64 o.on), .v (.int .i64 o.kind), .s o.arg]
def allA (l:List MatchD):AV:= .sl (l.map matchA) .no
def anyA (l:List (List MatchD)):AV:= .sl (l.map allA) .no
def tgtA (t:TgtD):AV:= .sl (t.map anyA) .no
def condA (l:List NodeD):AV:= .sl (l.map nodeA) .no
def oblsA (l:List OblD):AV:= .sl (l.map oblA) .no
def ruleA (r:RuleD):AV:= .agg [.s r.id, .v (.bool r.deny),tgtA r.tgt,condA r.cond,oblsA r.obls]
mutual
def polA:PolD→AV
 | .mk id set alg tgt rules kids obls=> .agg [.s id, .v (.bool set), .v (.int .i64 alg),tgtA tgt, .sl (rules.map ruleA) .no, .sl (kidsA kids) .no,oblsA obls]
def kidsA:List PolD→List AV
 | []=> []
 |k::r=>polA k::kidsA r
end
theorem kidsA_eq:∀l:List PolD,kidsA l=l.map polA
 | []=>rfl
 |k::r=>by simp [kidsA,kidsA_eq r]
def ltr (c:UInt8):Bool:=decide (97≤(c.toNat:Int)) && decide ((c.toNat:Int)≤122)
def dgt (c:UInt8):Bool:=decide (48≤(c.toNat:Int)) && decide ((c.toNat:Int)≤57)
def chOK (c:UInt8) (i:Nat):Bool:=ltr c||(decide (i≠0) && (dgt c||(c.toNat:Int)==95))
def chsOK (l:Txt):Bool:=l.zipIdx.all fun p=>chOK p.1 p.2
def nameOK (l:Txt):Bool:=chsOK l && decide (1≤l.length) && decide (l.length≤16)
def attrOK (a:AttrD):Bool:=decide (1≤a.cat) && decide (a.cat≤4) && nameOK a.name
def valOK (v:ValD):Bool:=
 if v.kind=1 then (v.n==0||v.n==1) && v.s== []
 else if v.kind=2 then v.s== []
 else if v.kind=3 then v.n==0 && decide (v.s.length≤64)
 else if v.kind=4 then decide (0≤v.n) && decide (v.n≤1099511627776) && v.s== []
 else if v.kind=5 then v.n==0 && nameOK v.s
 else false
def matchOK (m:MatchD):Bool:=attrOK m.attr && decide (1≤m.op) && decide (m.op≤3) && valOK m.val
def manyE (n:Nat):Int:=if n=0 then 1 else if n>8 then 6 else 0
def firstE {α:Type} (f:α→Int):List α→Int
 | []=>0
 |x::r=>if f x=0 then firstE f r else f x
def allE (l:List MatchD):Int:=if manyE l.length=0 then (if l.all matchOK then 0 else 1) else manyE l.length
def anyE (l:List (List MatchD)):Int:=if manyE l.length=0 then firstE allE l else manyE l.length
def tgtE (t:TgtD):Int:=if t.length>8 then 6 else firstE anyE t
def wantsD (op:Int):Option (List Bool):=
 if op=1∨op=2 then some []
 else if op=3∨op=4 then some [true]
 else if op=5 then some [true,false]
 else if op=11 then some [false]
 else if 6≤op∧op≤13 then some [false,false]
 else none
def zeroV (v:ValD):Bool:=v.kind==0 && (v.n==0 && v.s== [])
def zeroAt (a:AttrD):Bool:=a.cat==0 && (a.name== [] && a.must==false)
def fieldsOK (n:NodeD):Bool:=
 if n.op=1 then valOK n.val && zeroAt n.attr
 else if n.op=2 then attrOK n.attr && zeroV n.val
 else zeroV n.val && zeroAt n.attr
def stepD (st:List Bool) (n:NodeD):Option (List Bool):=match wantsD n.op with
 |none=>none
 |some w=>if fieldsOK n=true∧w.length≤st.length∧st.drop (st.length - w.length)=w then some (st.take (st.length - w.length)++ [n.op==2]) else none
def stepsD (st:List Bool):List NodeD→Option (List Bool)
 | []=>some st
 |n::r=>match stepD st n with
  |none=>none
  |some st' =>stepsD st' r
def exprE (l:List NodeD):Int:=if l.length>32 then 6 else match stepsD [] l with
 |none=>1
 |some st=>if l= []∨st= [false] then 0 else 1
def oblOK (o:OblD):Bool:=decide (1≤o.on) && decide (o.on≤2) && decide (1≤o.kind) && decide (o.kind≤4) && nameOK o.arg
def oblsE (l:List OblD):Int:=if l.length>8 then 6 else if l.all oblOK then 0 else 1
structure MetD where
 met:List Txt
 rules:Nat
inductive Went where
 |bad (e:Int)
 |ok (m:MetD)
def meetD (m:MetD) (s:Txt):Option MetD:=if s∉m.met∧nameOK s=true then some ⟨m.met++ [s],m.rules⟩ else none
def Went.err:Went→Int
 | .bad e=>e
 | .ok _=>0
def need (e:Int) (w:Went):Went:=if e=0 then w else .bad e
def ruleW (m:MetD) (r:RuleD):Went:=match meetD m r.id with
 |none=> .bad 1
 |some m=>if m.rules+1>64 then .bad 6 else need (tgtE r.tgt) (need (exprE r.cond) (need (oblsE r.obls) (.ok ⟨m.met,m.rules+1⟩)))
def rulesW (m:MetD):List RuleD→Went
 | []=> .ok m
 |r::l=>match ruleW m r with
  | .bad e=> .bad e
  | .ok m=>rulesW m l
def headW (m:MetD) (id:Txt) (set:Bool) (alg:Int) (tgt:TgtD) (nr nk:Nat) (obls:List OblD):Went:=match meetD m id with
 |none=> .bad 1
 |some m=>if alg<1∨alg>6 then .bad 1
  else if set=true∧nr>0∨set=false∧(nk>0∨alg=4) then .bad 1
  else need (tgtE tgt) (need (oblsE obls) (if nr>16∨nk>16 then .bad 6 else .ok m))
mutual
def polW (m:MetD) (d:Nat):PolD→Went
 | .mk id set alg tgt rules kids obls=>
  if d>4 then .bad 6 else match headW m id set alg tgt rules.length kids.length obls with
  | .bad e=> .bad e
  | .ok m=>match rulesW m rules with
   | .bad e=> .bad e
   | .ok m=>kidsW m (d+1) kids
def kidsW (m:MetD) (d:Nat):List PolD→Went
 | []=> .ok m
 |k::r=>match polW m d k with
  | .bad e=> .bad e
  | .ok m=>kidsW m d r
end
def rightE (p:PolD):Int:=(polW ⟨[],0⟩ 1 p).err
def catW (n:Int):Txt:=if n=1 then [115,117,98,106,101,99,116] else if n=2 then [97,99,116,105,111,110] else if n=3 then [99,97,115,101] else [101,110,118]
def attrT (a:AttrD):Txt:=catW a.cat++ [46]++a.name++(if a.must then [33] else [])
def hexD (n:Nat):UInt8:=if n<10 then UInt8.ofNat (48+n) else UInt8.ofNat (87+n)
def oddB (c:UInt8):Bool:=decide ((c.toNat:Int)<32)||decide (126<(c.toNat:Int))||(c.toNat:Int)==34||(c.toNat:Int)==92
def quoteB (c:UInt8):Txt:=if oddB c then [92,hexD (c.toNat / 16),hexD (c.toNat % 16)] else [c]
def quoteT (l:Txt):Txt:= [34]++(l.map quoteB).flatten++ [34]
def valT (v:ValD):Txt:=
 if v.kind=1 then Lib.formatBool (v.n==1) else if v.kind=4 then [64]++Lib.itoa v.n else if v.kind=5 then [35]++v.s else if v.kind=3 then quoteT v.s else Lib.itoa v.n
def opW (n:Int):Txt:=if n=1 then [61] else if n=2 then [60] else [62]
def matchT (m:MatchD):Txt:=attrT m.attr++ [32]++opW m.op++ [32]++valT m.val
def allT (l:List MatchD):Txt:=Lib.join (l.map matchT) [44,32]
def anyT (l:List (List MatchD)):Txt:= [40]++Lib.join (l.map allT) [32,111,114,32]++ [41]
def tgtT (t:TgtD):Txt:=if t= [] then [] else [32,119,104,101,110,32]++Lib.join (t.map anyT) [32,97,110,100,32]
def fnW (n:Int):Txt:=
 if n=3 then [111,110,101] else if n=4 then [115,105,122,101] else if n=5 then [104,97,115] else if n=6 then [101,113] else if n=7 then [108,101,115,115]
 else if n=8 then [97,100,100] else if n=9 then [115,117,98] else if n=10 then [109,117,108] else if n=11 then [110,111,116] else if n=12 then [97,110,100] else [111,114]
def arity (n:Int):Nat:=if n=3∨n=4∨n=11 then 1 else 2
def stepT (st:List Txt) (n:NodeD):List Txt:=
 if n.op=1 then st++ [valT n.val] else if n.op=2 then st++ [attrT n.attr]
 else st.take (st.length - arity n.op)++ [[40]++fnW n.op++ [32]++Lib.join (st.drop (st.length - arity n.op)) [32]++ [41]]
def exprT (l:List NodeD):Txt:=(l.foldl stepT []).headD []
def onW (n:Int):Txt:=if n=1 then [112,101,114,109,105,116] else [100,101,110,121]
def dutyW (n:Int):Txt:=if n=1 then [108,111,103] else if n=2 then [114,101,100,97,99,116] else if n=3 then [114,101,118,105,101,119] else [110,111,116,105,102,121]
def oblT (o:OblD):Txt:= [32,111,110,32]++onW o.on++ [32]++dutyW o.kind++ [32]++o.arg
def oblsT (l:List OblD):Txt:=(l.map oblT).flatten
def ruleT (r:RuleD):Txt:=(if r.deny then [32,100,101,110,121,32] else [32,112,101,114,109,105,116,32])++(r.id++tgtT r.tgt)++(if r.cond= [] then [] else [32,105,102,32]++exprT r.cond)++oblsT r.obls++ [59]
def algW (n:Int):Txt:=
 if n=1 then [100,101,110,121,111,118,101,114] else if n=2 then [112,101,114,109,105,116,111,118,101,114] else if n=3 then [102,105,114,115,116] else if n=4 then [111,110,108,121]
 else if n=5 then [100,101,110,121,117,110,108,101,115,115] else [112,101,114,109,105,116,117,110,108,101,115,115]
mutual
def polT:PolD→Txt
 | .mk id set alg tgt rules kids obls=>(if set then [115,101,116,32] else [112,111,108,105,99,121,32])++(id++ [32]++algW alg++tgtT tgt++ [32,123])++(rules.map ruleT).flatten++kidsT kids++ [32,125]++oblsT obls
def kidsT:List PolD→Txt
 | []=> []
 |k::r=> [32]++polT k++kidsT r
end
def showP (p:PolD):Txt:=if rightE p=0 then polT p else []
end Go.Bf

set_option linter.unusedSimpArgs false
set_option linter.unusedVariables false
namespace Go.Bf
open Go Go.Ab
theorem zipIdx_take_succ {α:Type} (l:List α) (i:Nat) (h:i<l.length):(l.take (i+1)).zipIdx=(l.take i).zipIdx++ [(l[i],i)]:=by
 grind [List.take_succ_eq_append_getElem,Nat.min_eq_left,Nat.le_of_lt]
theorem chsOK_succ (l:Txt) (i:Nat) (h:i<l.length):chsOK (l.take (i+1))=(chsOK (l.take i) && chOK l[i] i):=by
 grind [chsOK,zipIdx_take_succ]
theorem chsOK_bad (l) (i:Nat) (h:i<l.length) (hb:chOK l[i] i=false):chsOK l=false:=by
 rw [chsOK,List.all_eq_false]
 exact ⟨(l[i],i),by grind,by grind⟩
theorem chCases (c:UInt8):
  (decide (97≤(c.toNat:Int))=true∧decide ((c.toNat:Int)≤122)=true∧decide (48≤(c.toNat:Int))=true∧decide ((c.toNat:Int)≤57)=false∧((c.toNat:Int)==95)=false)∨
  (decide (97≤(c.toNat:Int))=false∧decide ((c.toNat:Int)≤122)=true∧decide (48≤(c.toNat:Int))=true∧decide ((c.toNat:Int)≤57)=true∧((c.toNat:Int)==95)=false)∨
  (decide (97≤(c.toNat:Int))=false∧decide ((c.toNat:Int)≤122)=true∧decide (48≤(c.toNat:Int))=true∧decide ((c.toNat:Int)≤57)=false∧((c.toNat:Int)==95)=true)∨
  (decide (97≤(c.toNat:Int))=false∧decide ((c.toNat:Int)≤122)=true∧decide (48≤(c.toNat:Int))=false∧decide ((c.toNat:Int)≤57)=true∧((c.toNat:Int)==95)=false)∨
  (decide (97≤(c.toNat:Int))=false∧decide ((c.toNat:Int)≤122)=true∧decide (48≤(c.toNat:Int))=true∧decide ((c.toNat:Int)≤57)=false∧((c.toNat:Int)==95)=false)∨
  (decide (97≤(c.toNat:Int))=true∧decide ((c.toNat:Int)≤122)=false∧decide (48≤(c.toNat:Int))=true∧decide ((c.toNat:Int)≤57)=false∧((c.toNat:Int)==95)=false):=by
 simp only [decide_eq_true_eq,decide_eq_false_iff_not,beq_iff_eq,beq_eq_false_iff_ne,ne_eq]
 omega
theorem firstE_take {α:Type} {f:α→Int} {l:List α} {i:Nat} (h:i<l.length) (h0:firstE f (l.take i)=0) (h1:f l[i]=0):firstE f (l.take (i+1))=0:=by
 rw [List.take_succ_eq_append_getElem h]
 generalize l.take i=a at h0
 induction a with
 |nil=>grind [firstE]
 |cons x r ih=>
  simp only [firstE] at h0
  split at h0
  ·simp_all [List.cons_append,firstE,if_true]
  omega
theorem firstE_at {α:Type} {f:α→Int} {l:List α} {i:Nat} (h:i<l.length) (h0:firstE f (l.take i)=0) (h1:f l[i]≠0):firstE f l=f l[i]:=by
 induction l generalizing i with
 |nil=>cases h
 |cons x r ih=>
  cases i with
  |zero=>grind [firstE]
  |succ i=>
   simp only [List.take_succ_cons,firstE] at h0
   split at h0
   ·rename_i hx
    simp only [firstE,hx,if_true,List.getElem_cons_succ]
    grind
   omega
theorem need_bad {e x:Int} {w} (h:need e w= .bad x) (hw:w= .bad x→x≠0):x≠0:=by
 grind [need]
theorem ruleW_bad {m} {r} {e:Int} (h:ruleW m r= .bad e):e≠0:=by
 grind [ruleW,need_bad]
theorem headW_bad {m} {id} {set} {alg:Int} {tgt} {nr nk:Nat} {obls} {e:Int} (h:headW m id set alg tgt nr nk obls= .bad e):e≠0:=by
 grind [headW,need_bad]
theorem rulesW_split (m):∀(l:List RuleD) (i:Nat),rulesW m l=(match rulesW m (l.take i) with
  | .bad e=> .bad e
  | .ok m1=>rulesW m1 (l.drop i))
 | [],i=>by simp [rulesW]
 |r::l,0=>by rfl
 |r::l,i+1=>by
  simp only [List.take_succ_cons,List.drop_succ_cons,rulesW]
  cases ruleW m r with
  |bad e=>rfl
  |ok m1=>simp only; exact rulesW_split m1 l i
theorem rulesW_next {m m1:MetD} {l:List RuleD} {i:Nat} (hi:i<l.length) (h:rulesW m (l.take i)= .ok m1):rulesW m (l.take (i+1))=ruleW m1 l[i]:=by
 rw [rulesW_split m _ i,List.take_take,Nat.min_eq_left (by omega),h,List.take_succ_eq_append_getElem hi,List.drop_append_of_le_length (by grind),List.drop_of_length_le (by grind)]
 grind [rulesW,ruleW]
theorem rulesW_stop {m m1} {l} {i:Nat} {e:Int} (hi:i<l.length) (h:rulesW m (l.take i)= .ok m1) (hr:ruleW m1 l[i]= .bad e):rulesW m l= .bad e:=by
 rw [rulesW_split m l (i+1),rulesW_next hi h,hr]
theorem kidsW_split (m) (d:Nat):∀(l:List PolD) (i:Nat),kidsW m d l=(match kidsW m d (l.take i) with
  | .bad e=> .bad e
  | .ok m1=>kidsW m1 d (l.drop i))
 | [],i=>by simp [kidsW]
 |r::l,0=>by rfl
 |r::l,i+1=>by
  simp only [List.take_succ_cons,List.drop_succ_cons,kidsW]
  cases polW m d r with
  |bad e=>rfl
  |ok m1=>simp only; exact kidsW_split m1 d l i
theorem kidsW_next {m m1:MetD} {d:Nat} {l:List PolD} {i:Nat} (hi:i<l.length) (h:kidsW m d (l.take i)= .ok m1):kidsW m d (l.take (i+1))=polW m1 d l[i]:=by
 rw [kidsW_split m d _ i,List.take_take,Nat.min_eq_left (by omega),h,List.take_succ_eq_append_getElem hi,List.drop_append_of_le_length (by grind),List.drop_of_length_le (by grind)]
 grind [kidsW,polW]
theorem kidsW_stop {m m1} {d:Nat} {l} {i:Nat} {e:Int} (hi:i<l.length) (h:kidsW m d (l.take i)= .ok m1) (hr:polW m1 d l[i]= .bad e):kidsW m d l= .bad e:=by
 rw [kidsW_split m d l (i+1),kidsW_next hi h,hr]
end Go.Bf

set_option linter.unusedSimpArgs false
set_option linter.unusedVariables false
namespace Go.Proofs.YtcgcjihjhlenkaaDoor
open Go Go.Ab Go.Bf
theorem name_ok (l) (h):FnOK Tryd.prog 36 [.s l] h fun r h' =>r= .v (.bool (nameOK l))∧h' =h:=by
 refine FnOK.body hU hm Tryd.func36 rfl (by kernel_rfl) 49 rfl [.tmp 2] rfl (Nat.le_of_ble_eq_true rfl) (fun hwf=> ?_)
 simp -implicitDefEqProofs only [go_sem]
 refine .intro (fun m ρ h' =>h' =h∧∃i:Nat,i≤l.length∧m=l.length - i∧chsOK (l.take i)=true∧lk ρ 0=some (.s l)∧lk ρ 8=some (.v (.int .i64 l.length))∧lk ρ 9=some (.v (.int .i64 i))) l.length ?_ ?_
 ·refine ⟨rfl,0,by omega,rfl,rfl, ?_, ?_, ?_⟩<;>simp -implicitDefEqProofs only [go_sem]
 ·rintro m ρ h' ⟨rfl,i,hi,rfl,hc,r0,r8,r9⟩
  simp -implicitDefEqProofs only [go_sem,r8,r9]
  refine .intro (fun e=> ?_) (fun e=> ?_)
  ·have hlt:i<l.length:=Int.ofNat_lt.1 (of_decide_eq_true e)
   have w1:IntKind.i64.wrap ((i:Int)+1)=((i+1:Nat):Int):=by rw [wr64 _ (by have:=hwf (.s l) (by simp); simp only [wfA,wf1,lim] at this; omega)]; omega
   have w0:IntKind.i64.wrap (0+1)=1:=rfl
   have hb:=chsOK_bad l i hlt
   have hg:=chsOK_succ l i hlt
   rw [hc] at hg
   have hcl:=chCases l[i]
   have h255:=l[i].toNat_lt
   simp -implicitDefEqProofs only [go_sem,r0,r9]
   refine .at i hlt ?_
   generalize hcc:l[i]=c at hb hg hcl h255⊢
   by_cases hi0:i=0
   ·subst hi0
    rcases hcl with ⟨a1,a2,a3,a4,a5⟩|⟨a1,a2,a3,a4,a5⟩|⟨a1,a2,a3,a4,a5⟩|⟨a1,a2,a3,a4,a5⟩|⟨a1,a2,a3,a4,a5⟩|⟨a1,a2,a3,a4,a5⟩
    ·simp -implicitDefEqProofs only [go_sem,r9,a1,a2,a3,a4,a5,w0]
     refine ⟨_, ?_,rfl,0+1,by omega,rfl,by simp [hg,chOK,ltr,a1,a2], ?_, ?_, ?_⟩
     ·omega
     all_goals simp -implicitDefEqProofs only [go_sem,r0,r8]
    all_goals
     simp -implicitDefEqProofs only [go_sem,a1,a2,a3,a4,a5]
     exact .same (.refl _) ⟨by simp [nameOK,hb (by simp [chOK,ltr,a1,a2]),oneOr],rfl⟩
   ·have hin:((i:Int)==0)=false:=by simp; omega
    rcases hcl with ⟨a1,a2,a3,a4,a5⟩|⟨a1,a2,a3,a4,a5⟩|⟨a1,a2,a3,a4,a5⟩|⟨a1,a2,a3,a4,a5⟩|⟨a1,a2,a3,a4,a5⟩|⟨a1,a2,a3,a4,a5⟩
    ·simp -implicitDefEqProofs only [go_sem,r9,a1,a2,a3,a4,a5,w1]
     refine ⟨_, ?_,rfl,i+1,by omega,rfl,by simp [hg,chOK,ltr,dgt,a1,a2,a3,a4,a5,hi0], ?_, ?_, ?_⟩
     ·omega
     all_goals simp -implicitDefEqProofs only [go_sem,r0,r8]
    ·simp -implicitDefEqProofs only [go_sem,r9,a1,a3,a4,w1,hin]
     refine ⟨_, ?_,rfl,i+1,by omega,rfl,by simp [hg,chOK,ltr,dgt,a1,a2,a3,a4,a5,hi0], ?_, ?_, ?_⟩
     ·omega
     all_goals simp -implicitDefEqProofs only [go_sem,r0,r8]
    ·simp -implicitDefEqProofs only [go_sem,r9,a1,a3,a4,a5,w1,hin]
     refine ⟨_, ?_,rfl,i+1,by omega,rfl,by simp [hg,chOK,ltr,dgt,a1,a2,a3,a4,a5,hi0], ?_, ?_, ?_⟩
     ·omega
     all_goals simp -implicitDefEqProofs only [go_sem,r0,r8]
    ·simp -implicitDefEqProofs only [go_sem,a1,a3,a5,hin]
     exact .same (.refl _) ⟨by simp [nameOK,hb (by simp [chOK,ltr,dgt,a1,a2,a3,a4,a5]),oneOr],rfl⟩
    ·simp -implicitDefEqProofs only [go_sem,a1,a3,a4,a5,hin]
     exact .same (.refl _) ⟨by simp [nameOK,hb (by simp [chOK,ltr,dgt,a1,a2,a3,a4,a5]),oneOr],rfl⟩
    ·simp -implicitDefEqProofs only [go_sem,a1,a2,a3,a4,a5,hin]
     exact .same (.refl _) ⟨by simp [nameOK,hb (by simp [chOK,ltr,dgt,a1,a2,a3,a4,a5]),oneOr],rfl⟩
  ·have hge:i=l.length:=by have:=of_decide_eq_false e; omega
   subst hge
   rw [List.take_length] at hc
   by_cases h0:l= []
   ·subst h0
    have b0:((([]:Txt)== [])=true):=rfl
    simp -implicitDefEqProofs only [go_sem,r0,b0]
    exact .same (.refl _) ⟨rfl,rfl⟩
   ·have b0:(l== [])=false:=by simpa using h0
    have hp:1≤l.length:=List.length_pos_iff.2 h0
    simp -implicitDefEqProofs only [go_sem,r0,b0]
    exact .same (.refl _) ⟨by simp [nameOK,hc,oneOr,hp]; omega,rfl⟩
end Go.Proofs.YtcgcjihjhlenkaaDoor

set_option linter.unusedSimpArgs false
set_option linter.unusedVariables false
namespace Go.Proofs.YtcgcjihjhlenkaaDoor
open Go Go.Ab Go.Bf
theorem attr_ok (a) (h):FnOK Tryd.prog 49 [attrA a] h fun r h' =>r= .v (.bool (attrOK a))∧h' =h:=by
 refine FnOK.body hU hm Tryd.func49 rfl (by kernel_rfl) 16 rfl [.tmp 2] rfl (Nat.le_of_ble_eq_true rfl) (fun hwf=> ?_)
 simp -implicitDefEqProofs only [go_sem,attrA]
 intro id hid
 cases d1:decide (1≤a.cat)
 ·simp -implicitDefEqProofs only [go_sem,d1]
  exact .mk _ (.refl _) (.upd_new hid) ⟨by grind [attrOK,oneOr],rfl⟩
 cases d2:decide (a.cat≤4)
 ·simp -implicitDefEqProofs only [go_sem,d1,d2]
  exact .mk _ (.refl _) (.upd_new hid) ⟨by grind [attrOK,oneOr],rfl⟩
 simp -implicitDefEqProofs only [go_sem,d1,d2]
 refine (name_ok _ _).pthen ?_
 simp -implicitDefEqProofs only [go_sem]
 exact .mk _ (.refl _) (.upd_new hid) ⟨by grind [attrOK,oneOr],rfl⟩
theorem valRight_ok (v) (h):FnOK Tryd.prog 50 [valA v] h fun r h' =>r= .v (.bool (valOK v))∧h' =h:=by
 refine FnOK.body hU hm Tryd.func50 rfl (by kernel_rfl) 61 rfl [.tmp 2] rfl (Nat.le_of_ble_eq_true rfl) (fun hwf=> ?_)
 simp -implicitDefEqProofs only [go_sem,valA]
 intro id hid
 cases k1:(v.kind==1)
 case true=>
  have e1:v.kind=1:=by grind
  cases d1:(v.n==0)<;>cases d2:(v.n==1)
  ·simp -implicitDefEqProofs only [go_sem,k1,d1,d2]
   exact .mk _ (.refl _) (.upd_new hid) ⟨by grind [valOK,oneOr],rfl⟩
  all_goals
   simp -implicitDefEqProofs only [go_sem,k1,d1,d2]
   exact .mk _ (.refl _) (.upd_new hid) ⟨by grind [valOK,oneOr],rfl⟩
 have n1:v.kind≠1:=by grind
 cases k2:(v.kind==2)
 case true=>
  have e1:v.kind=2:=by grind
  simp -implicitDefEqProofs only [go_sem,k1,k2]
  exact .mk _ (.refl _) (.upd_new hid) ⟨by grind [valOK,oneOr],rfl⟩
 have n2:v.kind≠2:=by grind
 cases k3:(v.kind==3)
 case true=>
  have e1:v.kind=3:=by grind
  cases d1:(v.n==0)
  all_goals
   simp -implicitDefEqProofs only [go_sem,k1,k2,k3,d1]
   exact .mk _ (.refl _) (.upd_new hid) ⟨by simp [valOK,e1,d1,oneOr]<;>omega,rfl⟩
 have n3:v.kind≠3:=by grind
 cases k4:(v.kind==4)
 case true=>
  have e1:v.kind=4:=by grind
  cases d1:decide (0≤v.n)<;>cases d2:decide (v.n≤1099511627776)
  all_goals
   simp -implicitDefEqProofs only [go_sem,k1,k2,k3,k4,d1,d2]
   exact .mk _ (.refl _) (.upd_new hid) ⟨by grind [valOK,oneOr],rfl⟩
 have n4:v.kind≠4:=by grind
 cases k5:(v.kind==5)
 case true=>
  have e1:v.kind=5:=by grind
  cases d1:(v.n==0)
  ·simp -implicitDefEqProofs only [go_sem,k1,k2,k3,k4,k5,d1]
   exact .mk _ (.refl _) (.upd_new hid) ⟨by grind [valOK,oneOr],rfl⟩
  ·simp -implicitDefEqProofs only [go_sem,k1,k2,k3,k4,k5,d1]
   refine (name_ok _ _).pthen ?_
   simp -implicitDefEqProofs only [go_sem]
   exact .mk _ (.refl _) (.upd_new hid) ⟨by grind [valOK,oneOr],rfl⟩
 have n5:v.kind≠5:=by grind
 simp -implicitDefEqProofs only [go_sem,k1,k2,k3,k4,k5]
 exact .mk _ (.refl _) (.upd_new hid) ⟨by grind [valOK,oneOr],rfl⟩
theorem match_ok (m) (h):FnOK Tryd.prog 56 [matchA m] h fun r h' =>r= .v (.bool (matchOK m))∧h' =h:=by
 refine FnOK.body hU hm Tryd.func56 rfl (by kernel_rfl) 21 rfl [.tmp 2] rfl (Nat.le_of_ble_eq_true rfl) (fun hwf=> ?_)
 simp -implicitDefEqProofs only [go_sem,matchA]
 intro id hid
 simp -implicitDefEqProofs only [go_sem]
 refine (attr_ok m.attr _).pthen ?_
 cases d0:attrOK m.attr
 ·simp -implicitDefEqProofs only [go_sem]
  exact .mk _ (.refl _) (.upd_new hid) ⟨by grind [matchOK,oneOr],rfl⟩
 cases d1:decide (1≤m.op)
 ·simp -implicitDefEqProofs only [go_sem,d1]
  exact .mk _ (.refl _) (.upd_new hid) ⟨by grind [matchOK,oneOr],rfl⟩
 cases d2:decide (m.op≤3)
 ·simp -implicitDefEqProofs only [go_sem,d1,d2]
  exact .mk _ (.refl _) (.upd_new hid) ⟨by grind [matchOK,oneOr],rfl⟩
 simp -implicitDefEqProofs only [go_sem,d1,d2]
 refine (valRight_ok m.val _).pthen ?_
 simp -implicitDefEqProofs only [go_sem]
 exact .mk _ (.refl _) (.upd_new hid) ⟨by grind [matchOK,oneOr],rfl⟩
theorem many_ok (n:Nat) (h:Heap):FnOK Tryd.prog 45 [.v (.int .i64 n)] h fun r h' =>r= .v (.int .i64 (manyE n))∧h' =h:=by
 refine FnOK.body hU hm Tryd.func45 rfl (by kernel_rfl) 9 rfl [.tmp 2] rfl (Nat.le_of_ble_eq_true rfl) (fun hwf=> ?_)
 cases d1:((n:Int)==0)
 case true=>
  simp -implicitDefEqProofs only [go_sem,d1]
  exact .same (.refl _) ⟨by grind [manyE,oneOr],rfl⟩
 cases d2:decide (8<(n:Int))
 ·have e2:¬n>8:=by grind
  simp -implicitDefEqProofs only [go_sem,d1,d2]
  exact .same (.refl _) ⟨by grind [manyE,oneOr],rfl⟩
 ·have e2:n>8:=by grind
  simp -implicitDefEqProofs only [go_sem,d1,d2]
  exact .same (.refl _) ⟨by grind [manyE,oneOr],rfl⟩
theorem manyE_le {n:Nat} (h:manyE n=0):1≤n∧n≤8:=by
 grind [manyE]
theorem allOf_ok (l) (h:Heap):FnOK Tryd.prog 46 [allA l] h fun r h' =>r= .v (.int .i64 (allE l))∧h' =h:=by
 refine FnOK.body hU hm Tryd.func46 rfl (by kernel_rfl) 22 rfl [.tmp 2] rfl (Nat.le_of_ble_eq_true rfl) (fun hwf=> ?_)
 simp -implicitDefEqProofs only [go_sem,allA,List.length_map]
 refine (many_ok _ _).pthen ?_
 cases d1:(manyE l.length !=0)
 case true=>
  have e1:manyE l.length≠0:=by grind
  simp -implicitDefEqProofs only [go_sem,d1]
  exact .same (.refl _) ⟨by grind [allE,oneOr],rfl⟩
 have e1:manyE l.length=0:=by grind
 have hlen:=manyE_le e1
 simp -implicitDefEqProofs only [go_sem,d1,List.length_map]
 refine .intro (fun m ρ h' =>Ab.Sub h h'∧∃i:Nat,i≤l.length∧m=l.length - i∧(l.take i).all matchOK=true∧lk ρ 12=some (allA l)∧lk ρ 13=some (.v (.int .i64 l.length))∧lk ρ 14=some (.v (.int .i64 i))) l.length ?_ ?_
 ·refine ⟨.refl _,0,by omega,rfl,rfl, ?_, ?_, ?_⟩<;>simp -implicitDefEqProofs only [go_sem,allA]
 ·rintro m ρ h' ⟨hs,i,hi,rfl,hc,r12,r13,r14⟩
  simp -implicitDefEqProofs only [go_sem,r13,r14]
  refine .intro (fun e=> ?_) (fun e=> ?_)
  ·have hlt:i<l.length:=Int.ofNat_lt.1 (of_decide_eq_true e)
   have w1:IntKind.i64.wrap ((i:Int)+1)=((i+1:Nat):Int):=by grind [wr64]
   simp -implicitDefEqProofs only [go_sem,r12,r14,allA]
   refine .at i (by grind) (by rw [List.getElem_map]; rfl) ?_
   simp -implicitDefEqProofs only [go_sem,List.getElem_map,matchA]
   intro id hid
   simp -implicitDefEqProofs only [go_sem]
   refine (match_ok l[i] _).pthen ?_
   cases d2:matchOK l[i]
   ·simp -implicitDefEqProofs only [go_sem]
    refine .mk _ (.refl _) (hs.new hid _) ⟨?_,rfl⟩
    have:l.all matchOK=false:=List.all_eq_false.2 ⟨_,List.getElem_mem hlt,by grind⟩
    simp [allE,e1,this,oneOr]
   ·simp -implicitDefEqProofs only [go_sem,r14,w1]
    refine ⟨_, ?_,hs.new hid _,i+1,by omega,rfl, ?_, ?_, ?_, ?_⟩
    ·omega
    ·grind [List.take_succ_eq_append_getElem]
    all_goals simp -implicitDefEqProofs only [go_sem,r12,r13,allA]
  ·have hge:i=l.length:=by grind
   subst hge
   rw [List.take_length] at hc
   simp -implicitDefEqProofs only [go_sem]
   exact .mk _ (.refl _) hs ⟨by grind [allE,oneOr],rfl⟩
end Go.Proofs.YtcgcjihjhlenkaaDoor

set_option linter.unusedSimpArgs false
set_option linter.unusedVariables false
namespace Go.Bf
open Go Go.Ab
def eqMatch (a b:MatchD):Bool:=a.attr.cat==b.attr.cat && (a.attr.name==b.attr.name && (a.attr.must==b.attr.must && (a.op==b.op && (a.val.kind==b.val.kind && (a.val.n==b.val.n && a.val.s==b.val.s)))))
def eqNode (a b:NodeD):Bool:=a.op==b.op && (a.val.kind==b.val.kind && (a.val.n==b.val.n && (a.val.s==b.val.s && (a.attr.cat==b.attr.cat && (a.attr.name==b.attr.name && a.attr.must==b.attr.must)))))
def eqObl (a b:OblD):Bool:=a.on==b.on && (a.kind==b.kind && a.arg==b.arg)
def eqL {α:Type} (f:α→α→Bool):List α→List α→Bool
 | [],[]=>true
 |x::a,y::b=>f x y && eqL f a b
 |_,_=>false
theorem eqL_true {α:Type} {f:α→α→Bool}:∀ {a b:List α},a.length=b.length→(∀j (h1:j<a.length) (h2:j<b.length),f a[j] b[j]=true)→eqL f a b=true
 | [],[],_,_=>rfl
 |x::a,y::b,hl,h=>by
  simp only [eqL,Bool.and_eq_true]
  exact ⟨h 0 (by simp) (by simp),eqL_true (by grind) fun j h1 h2=>h (j+1) (by grind) (by grind)⟩
theorem eqL_len {α:Type} {f:α→α→Bool}:∀ {a b:List α},a.length≠b.length→eqL f a b=false
 | [],[],h=>by omega
 | [],_::_,_=>rfl
 |_::_,[],_=>rfl
 |x::a,y::b,h=>by
  simp only [eqL]
  rw [eqL_len (by grind),Bool.and_false]
theorem eqL_at {α:Type} {f:α→α→Bool}:∀ {a b:List α} (j:Nat) (h1:j<a.length) (h2:j<b.length),f a[j] b[j]=false→eqL f a b=false
 |x::a,y::b,0,_,_,h=>by grind [eqL]
 |x::a,y::b,j+1,h1,h2,h=>by
  simp only [eqL]
  rw [eqL_at j (by grind) (by grind) (by grind),Bool.and_false]
theorem eqL_eq {α:Type} {f:α→α→Bool} (hf:∀x y,f x y=true↔x=y):∀ {a b:List α},eqL f a b=true↔a=b
 | [],[]=>by simp [eqL]
 | [],_::_=>by simp [eqL]
 |_::_,[]=>by simp [eqL]
 |x::a,y::b=>by simp [eqL,hf,eqL_eq hf]
theorem eqMatch_eq (a b):eqMatch a b=true↔a=b:=by
 obtain ⟨⟨a1,a2,a3⟩,a4,a5,a6,a7⟩:=a
 obtain ⟨⟨b1,b2,b3⟩,b4,b5,b6,b7⟩:=b
 simp [eqMatch,and_assoc]
theorem eqNode_eq (a b):eqNode a b=true↔a=b:=by
 obtain ⟨a4,⟨a5,a6,a7⟩,⟨a1,a2,a3⟩⟩:=a
 obtain ⟨b4,⟨b5,b6,b7⟩,⟨b1,b2,b3⟩⟩:=b
 simp [eqNode,and_assoc]
theorem eqObl_eq (a b):eqObl a b=true↔a=b:=by cases a; cases b; simp [eqObl]
end Go.Bf
namespace Go.Proofs.YtcgcjihjhlenkaaDoor
open Go Go.Ab Go.Bf
theorem sameMatch_ok (a b) (h):FnOK Tryd.prog 28 [allA a,allA b] h fun r h' =>r= .v (.bool (eqL eqMatch a b))∧h' =h:=by
 refine FnOK.body hU hm Tryd.func28 rfl (by kernel_rfl) 26 rfl [.tmp 4] rfl (Nat.le_of_ble_eq_true rfl) (fun hwf=> ?_)
 cases d1:((a.length:Int) !=(b.length:Int))
 case true=>
  have e1:a.length≠b.length:=by
   grind
  simp -implicitDefEqProofs only [go_sem,allA,List.length_map,d1]
  exact .same (.refl _) ⟨by rw [eqL_len e1]; rfl,rfl⟩
 have e1:a.length=b.length:=by grind
 simp -implicitDefEqProofs only [go_sem,allA,List.length_map,d1]
 refine .intro (fun m ρ h' =>Ab.Sub h h'∧∃i:Nat,i≤a.length∧m=a.length - i∧(∀j (h1:j<a.length) (h2:j<b.length),j<i→eqMatch a[j] b[j]=true)∧lk ρ 0=some (.sl (a.map matchA) .no)∧lk ρ 1=some (.sl (b.map matchA) .no)∧lk ρ 5=some (.v (.int .i64 i))) a.length ?_ ?_
 ·refine ⟨.refl _,0,by omega,rfl,fun j _ _ hj=>(by omega), ?_, ?_, ?_⟩<;>simp -implicitDefEqProofs only [go_sem]
 ·rintro m ρ h' ⟨hs,i,hi,rfl,hc,r0,r1,r5⟩
  simp -implicitDefEqProofs only [go_sem,r0,r1,r5,List.length_map]
  refine .intro (fun e=> ?_) (fun e=> ?_)
  ·have hlt:i<a.length:=Int.ofNat_lt.1 (of_decide_eq_true e)
   have hlt2:i<b.length:=by omega
   have w1:IntKind.i64.wrap ((i:Int)+1)=((i+1:Nat):Int):=by
    have:=hwf (allA a) (by simp)
    simp only [allA,wfA,wf1,lim,List.length_map] at this
    rw [wr64 _ (by omega)]; omega
   simp -implicitDefEqProofs only [go_sem,r0,r1,r5,List.length_map]
   refine ⟨.of (by kernel_rfl), ?_⟩
   refine .at i (by grind) (by rw [List.getElem_map]; rfl) ?_
   simp -implicitDefEqProofs only [go_sem,r0,r1,r5,List.getElem_map,matchA]
   refine .at i (by grind) (by rw [List.getElem_map]; rfl) ?_
   simp -implicitDefEqProofs only [go_sem,r0,r1,r5,List.getElem_map,matchA]
   cases d3:eqMatch a[i] b[i]
   ·have d4:=d3
    simp only [eqMatch] at d4
    simp -implicitDefEqProofs only [go_sem,r0,r1,r5,d4]
    exact .mk _ (.refl _) hs ⟨by rw [eqL_at i hlt hlt2 d3]; rfl,rfl⟩
   ·have d4:=d3
    simp only [eqMatch] at d4
    simp -implicitDefEqProofs only [go_sem,r0,r1,r5,d4,w1]
    refine ⟨_, ?_,hs,i+1,by omega,rfl,fun j h1 h2 hj=> ?_, ?_, ?_, ?_⟩
    ·omega
    ·grind
    all_goals simp -implicitDefEqProofs only [go_sem,r0,r1,r5,w1]
  ·have hge:i=a.length:=by grind
   subst hge
   simp -implicitDefEqProofs only [go_sem,r0,r1,r5]
   exact .mk _ (.refl _) hs ⟨by rw [eqL_true e1 fun j h1 h2=>hc j h1 h2 h1]; rfl,rfl⟩
theorem sameObl_ok (a b) (h):FnOK Tryd.prog 16 [oblsA a,oblsA b] h fun r h' =>r= .v (.bool (eqL eqObl a b))∧h' =h:=by
 refine FnOK.body hU hm Tryd.func16 rfl (by kernel_rfl) 26 rfl [.tmp 4] rfl (Nat.le_of_ble_eq_true rfl) (fun hwf=> ?_)
 cases d1:((a.length:Int) !=(b.length:Int))
 case true=>
  have e1:a.length≠b.length:=by
   grind
  simp -implicitDefEqProofs only [go_sem,oblsA,List.length_map,d1]
  exact .same (.refl _) ⟨by rw [eqL_len e1]; rfl,rfl⟩
 have e1:a.length=b.length:=by grind
 simp -implicitDefEqProofs only [go_sem,oblsA,List.length_map,d1]
 refine .intro (fun m ρ h' =>Ab.Sub h h'∧∃i:Nat,i≤a.length∧m=a.length - i∧(∀j (h1:j<a.length) (h2:j<b.length),j<i→eqObl a[j] b[j]=true)∧lk ρ 0=some (.sl (a.map oblA) .no)∧lk ρ 1=some (.sl (b.map oblA) .no)∧lk ρ 5=some (.v (.int .i64 i))) a.length ?_ ?_
 ·refine ⟨.refl _,0,by omega,rfl,fun j _ _ hj=>(by omega), ?_, ?_, ?_⟩<;>simp -implicitDefEqProofs only [go_sem]
 ·rintro m ρ h' ⟨hs,i,hi,rfl,hc,r0,r1,r5⟩
  simp -implicitDefEqProofs only [go_sem,r0,r5,List.length_map]
  refine .intro (fun e=> ?_) (fun e=> ?_)
  ·have hlt:i<a.length:=Int.ofNat_lt.1 (of_decide_eq_true e)
   have hlt2:i<b.length:=by omega
   have w1:IntKind.i64.wrap ((i:Int)+1)=((i+1:Nat):Int):=by
    have:=hwf (oblsA a) (by simp)
    simp only [oblsA,wfA,wf1,lim,List.length_map] at this
    rw [wr64 _ (by omega)]; omega
   simp -implicitDefEqProofs only [go_sem,r0,r5]
   refine ⟨.of (by kernel_rfl), ?_⟩
   refine .at i (by grind) (by rw [List.getElem_map]; rfl) ?_
   simp -implicitDefEqProofs only [go_sem,r1,r5,List.getElem_map,oblA]
   refine .at i (by grind) (by rw [List.getElem_map]; rfl) ?_
   simp -implicitDefEqProofs only [go_sem,List.getElem_map,oblA]
   cases d3:eqObl a[i] b[i]
   ·have d4:=d3
    simp only [eqObl] at d4
    simp -implicitDefEqProofs only [go_sem,d4]
    exact .mk _ (.refl _) hs ⟨by rw [eqL_at i hlt hlt2 d3]; rfl,rfl⟩
   ·have d4:=d3
    simp only [eqObl] at d4
    simp -implicitDefEqProofs only [go_sem,r5,d4,w1]
    refine ⟨_, ?_,hs,i+1,by omega,rfl,fun j h1 h2 hj=> ?_, ?_, ?_, ?_⟩
    ·omega
    ·grind
    all_goals simp -implicitDefEqProofs only [go_sem,r0,r1]
  ·have hge:i=a.length:=by grind
   subst hge
   simp -implicitDefEqProofs only [go_sem]
   exact .mk _ (.refl _) hs ⟨by rw [eqL_true e1 fun j h1 h2=>hc j h1 h2 h1]; rfl,rfl⟩
theorem sameNode_ok (a b) (h):FnOK Tryd.prog 17 [condA a,condA b] h fun r h' =>r= .v (.bool (eqL eqNode a b))∧h' =h:=by
 refine FnOK.body hU hm Tryd.func17 rfl (by kernel_rfl) 26 rfl [.tmp 4] rfl (Nat.le_of_ble_eq_true rfl) (fun hwf=> ?_)
 cases d1:((a.length:Int) !=(b.length:Int))
 case true=>
  have e1:a.length≠b.length:=by
   grind
  simp -implicitDefEqProofs only [go_sem,condA,List.length_map,d1]
  exact .same (.refl _) ⟨by rw [eqL_len e1]; rfl,rfl⟩
 have e1:a.length=b.length:=by grind
 simp -implicitDefEqProofs only [go_sem,condA,List.length_map,d1]
 refine .intro (fun m ρ h' =>Ab.Sub h h'∧∃i:Nat,i≤a.length∧m=a.length - i∧(∀j (h1:j<a.length) (h2:j<b.length),j<i→eqNode a[j] b[j]=true)∧lk ρ 0=some (.sl (a.map nodeA) .no)∧lk ρ 1=some (.sl (b.map nodeA) .no)∧lk ρ 5=some (.v (.int .i64 i))) a.length ?_ ?_
 ·refine ⟨.refl _,0,by omega,rfl,fun j _ _ hj=>(by omega), ?_, ?_, ?_⟩<;>simp -implicitDefEqProofs only [go_sem]
 ·rintro m ρ h' ⟨hs,i,hi,rfl,hc,r0,r1,r5⟩
  simp -implicitDefEqProofs only [go_sem,r0,r1,r5,List.length_map]
  refine .intro (fun e=> ?_) (fun e=> ?_)
  ·have hlt:i<a.length:=Int.ofNat_lt.1 (of_decide_eq_true e)
   have hlt2:i<b.length:=by omega
   have w1:IntKind.i64.wrap ((i:Int)+1)=((i+1:Nat):Int):=by
    have:=hwf (condA a) (by simp)
    simp only [condA,wfA,wf1,lim,List.length_map] at this
    rw [wr64 _ (by omega)]; omega
   simp -implicitDefEqProofs only [go_sem,r0,r1,r5,List.length_map]
   refine ⟨.of (by kernel_rfl), ?_⟩
   refine .at i (by grind) (by rw [List.getElem_map]; rfl) ?_
   simp -implicitDefEqProofs only [go_sem,r0,r1,r5,List.getElem_map,nodeA]
   refine .at i (by grind) (by rw [List.getElem_map]; rfl) ?_
   simp -implicitDefEqProofs only [go_sem,r0,r1,r5,List.getElem_map,nodeA]
   cases d3:eqNode a[i] b[i]
   ·have d4:=d3
    simp only [eqNode] at d4
    simp -implicitDefEqProofs only [go_sem,r0,r1,r5,d4]
    exact .mk _ (.refl _) hs ⟨by rw [eqL_at i hlt hlt2 d3]; rfl,rfl⟩
   ·have d4:=d3
    simp only [eqNode] at d4
    simp -implicitDefEqProofs only [go_sem,r0,r1,r5,d4,w1]
    refine ⟨_, ?_,hs,i+1,by omega,rfl,fun j h1 h2 hj=> ?_, ?_, ?_, ?_⟩
    ·omega
    ·grind
    all_goals simp -implicitDefEqProofs only [go_sem,r0,r1,r5,w1]
  ·have hge:i=a.length:=by grind
   subst hge
   simp -implicitDefEqProofs only [go_sem,r0,r1,r5]
   exact .mk _ (.refl _) hs ⟨by rw [eqL_true e1 fun j h1 h2=>hc j h1 h2 h1]; rfl,rfl⟩
end Go.Proofs.YtcgcjihjhlenkaaDoor

set_option linter.unusedSimpArgs false
set_option linter.unusedVariables false
namespace Go.Bf
open Go Go.Ab
theorem lens_le (xs) (B:Nat) (h:∀x∈xs,x.length≤B):Lib.lens xs≤xs.length*B:=by
 induction xs with
 |nil=>simp [Lib.lens]
 |cons x r ih=>
  have h1:=h x (by simp)
  have h2:=ih fun y hy=>h y (by grind)
  simp only [Lib.lens,List.map_cons,List.sum_cons,List.length_cons,Nat.add_mul,Nat.one_mul] at h2⊢
  omega
theorem join_length (xs) (sep):(Lib.join xs sep).length≤Lib.lens xs+xs.length*sep.length:=by
 cases xs with
 |nil=>simp [Lib.join_nil]
 |cons x r=>
  rw [Lib.join_cons,List.length_append,Lib.joinTail_length]
  simp only [Lib.lens,List.map_cons,List.sum_cons,List.length_cons,Nat.add_mul,Nat.one_mul,Nat.mul_comm sep.length]
  omega
theorem join_le (xs) (sep) (n B:Nat) (hn:xs.length≤n) (h:∀x∈xs,x.length≤B):(Lib.join xs sep).length≤n*(B+sep.length):=by
 have h1:=join_length xs sep
 have h2:=lens_le xs B h
 have h3:xs.length*(B+sep.length)≤n*(B+sep.length):=Nat.mul_le_mul_right _ hn
 rw [Nat.mul_add] at h3
 omega
theorem flatten_le (xs:List Txt) (n B:Nat) (hn:xs.length≤n) (h:∀x∈xs,x.length≤B):xs.flatten.length≤n*B:=by
 have h2:=lens_le xs B h
 have h3:xs.length*B≤n*B:=Nat.mul_le_mul_right _ hn
 have h4:xs.flatten.length=Lib.lens xs:=by rw [List.length_flatten]; rfl
 omega
theorem nameOK_le {s} (h:nameOK s=true):s.length≤16:=by
 grind [nameOK]
theorem catW_le (n:Int):(catW n).length≤7:=by
 unfold catW; repeat' split
 all_goals decide
theorem opW_le (n:Int):(opW n).length=1:=by
 grind [opW]
theorem fnW_le (n:Int):(fnW n).length≤4:=by
 unfold fnW; repeat' split
 all_goals decide
theorem onW_le (n:Int):(onW n).length≤6:=by
 unfold onW; split<;>decide
theorem dutyW_le (n:Int):(dutyW n).length≤6:=by
 unfold dutyW; repeat' split
 all_goals decide
theorem algW_le (n:Int):(algW n).length≤12:=by
 unfold algW; repeat' split
 all_goals decide
theorem attrT_le {a} (h:attrOK a=true):(attrT a).length≤25:=by
 simp only [attrOK,Bool.and_eq_true] at h
 grind [nameOK_le,catW_le,attrT,List.length_append,List.length_cons,List.length_nil]
theorem quoteT_le (l:Txt) (h:l.length≤64):(quoteT l).length≤194:=by
 have:=flatten_le (l.map quoteB) 64 3 (by grind) fun x hx=>by
  grind [quoteB]
 unfold quoteT
 simp only [List.length_append,List.length_cons,List.length_nil]
 omega
theorem valT_le {v} (h:valOK v=true) (h1: -9223372036854775808≤v.n) (h2:v.n≤9223372036854775807):(valT v).length≤194:=by
 have hi:=Lib.itoa_length_le v.n h1 h2
 unfold valT
 unfold valOK at h
 split
 ·cases (v.n==1)<;>decide
 split
 ·simp only [List.length_append,List.length_cons,List.length_nil]; omega
 split
 ·rename_i k5
  simp only [k5] at h
  simp at h
  have:=nameOK_le h.2
  simp only [List.length_append,List.length_cons,List.length_nil]; omega
 split
 ·rename_i k3
  simp only [k3] at h
  simp at h
  exact quoteT_le _ h.2
 ·omega
theorem matchT_le {m} (h:attrOK m.attr=true) (hv:(valT m.val).length≤194):(matchT m).length≤222:=by
 grind [attrT_le,opW_le,matchT,List.length_append,List.length_cons,List.length_nil]
theorem oblT_le {o} (h:oblOK o=true):(oblT o).length≤34:=by
 simp only [oblOK,Bool.and_eq_true] at h
 grind [nameOK_le,onW_le,dutyW_le,oblT,List.length_append,List.length_cons,List.length_nil]
theorem oblsE_zero {l} (h:oblsE l=0):l.length≤8∧∀o∈l,oblOK o=true:=by
 grind [oblsE,List.all_eq_true]
theorem oblsT_le {l} (h:oblsE l=0):(oblsT l).length≤272:=by
 obtain ⟨h1,h2⟩:=oblsE_zero h
 exact flatten_le (l.map oblT) 8 34 (by grind) fun x hx=>by
  grind [oblT_le]
theorem manyE_zero {n:Nat} (h:manyE n=0):0<n∧n≤8:=by
 grind [manyE]
theorem firstE_zero {α:Type} {f:α→Int} {l:List α} (h:firstE f l=0):∀x∈l,f x=0:=by
 induction l with
 |nil=>simp
 |cons y r ih=>
  simp only [firstE] at h
  grind
theorem allE_zero {l} (h:allE l=0):0<l.length∧l.length≤8∧∀m∈l,matchOK m=true:=by
 unfold allE at h
 split at h
 ·simp_all [manyE_zero,List.all_eq_true]
 omega
theorem anyE_zero {l} (h:anyE l=0):0<l.length∧l.length≤8∧∀m∈l,allE m=0:=by
 unfold anyE at h
 split at h
 ·rename_i hm
  have:=manyE_zero hm
  exact ⟨this.1,this.2,firstE_zero h⟩
 omega
theorem tgtE_zero {l} (h:tgtE l=0):l.length≤8∧∀m∈l,anyE m=0:=by
 grind [tgtE,firstE_zero]
theorem matchOK_cases {m} (h:matchOK m=true):attrOK m.attr=true∧1≤m.op∧m.op≤3∧valOK m.val=true:=by
 simp_all [matchOK,Bool.and_eq_true,decide_eq_true_eq]
def tot (st:List Txt):Nat:=Lib.lens st+st.length
theorem tot_append (a b):tot (a++b)=tot a+tot b:=by
 grind [tot,Lib.lens]
theorem tot_one (s):tot [s]=s.length+1:=by rfl
theorem mem_tot {st} {s} (h:s∈st):s.length≤tot st:=by
 induction st with
 |nil=>cases h
 |cons x r ih=>
  have:tot (x::r)=tot [x]+tot r:=tot_append [x] r
  rw [this,tot_one]
  rcases List.mem_cons.1 h with rfl|h
  ·omega
  ·have:=ih h; omega
theorem fn_tot (st) (k:Nat) (w) (hw:w.length≤4):tot (st.take k++ [[40]++w++ [32]++Lib.join (st.drop k) [32]++ [41]])≤tot st+9:=by
 grind [tot,tot_append,List.take_append_drop,join_length,tot_one,List.length_append,List.length_cons,List.length_nil]
theorem stepD_some {bs bs'} {n} (h:stepD bs n=some bs'):
  (n.op=1∧valOK n.val=true∧bs' =bs++ [false])∨(n.op=2∧attrOK n.attr=true∧bs' =bs++ [true])∨
  (3≤n.op∧n.op≤13∧arity n.op≤bs.length∧bs'.length=bs.length - arity n.op+1):=by
 unfold stepD at h
 split at h
 ·cases h
 rename_i w hw
 split at h
 case isFalse=>cases h
 rename_i hc
 obtain ⟨hf,hl,hd⟩:=hc
 unfold wantsD at hw
 unfold fieldsOK at hf
 split at hw
 ·rename_i h12
  rcases h12 with h1|h2
  ·simp_all
  simp_all
 ·rename_i h12
  have ha:3≤n.op∧n.op≤13∧w.length=arity n.op:=by
   unfold arity
   grind
  grind
theorem stepT_length {bs bs'} {st} {n} (h:stepD bs n=some bs') (hl:st.length=bs.length):(stepT st n).length=bs'.length:=by
 unfold stepT
 rcases stepD_some h with ⟨h1,_,rfl⟩|⟨h1,_,rfl⟩|⟨h1,h2,h3,h4⟩
 ·grind
 ·grind
 grind
end Go.Bf

set_option linter.unusedSimpArgs false
set_option linter.unusedVariables false
namespace Go.Bf
open Go Go.Ab
def inV (v:ValD):Prop:= -9223372036854775808≤v.n∧v.n≤9223372036854775807
def inA (l:List MatchD):Prop:=∀m∈l,inV m.val
def inY (l:List (List MatchD)):Prop:=∀a∈l,inA a
def inT (t:TgtD):Prop:=∀a∈t,inY a
def inL (l:List NodeD):Prop:=∀n∈l,inV n.val
def inR (r:RuleD):Prop:=inT r.tgt∧inL r.cond
mutual
def inP:PolD→Prop
 | .mk id set alg tgt rules kids obls=>inT tgt∧(∀r∈rules,inR r)∧inK kids
def inK:List PolD→Prop
 | []=>True
 |k::r=>inP k∧inK r
end
theorem inK_eq:∀l:List PolD,inK l↔∀k∈l,inP k
 | []=>by simp [inK]
 |k::r=>by simp [inK,inK_eq r]
theorem allT_le {l} (h:allE l=0) (hi:inA l):(allT l).length≤1792:=by
 obtain ⟨_,h1,h2⟩:=allE_zero h
 exact join_le (l.map matchT) [44,32] 8 222 (by grind) fun x hx=>by
  obtain ⟨m,hm,rfl⟩:=List.mem_map.1 hx
  have:=matchOK_cases (h2 m hm)
  exact matchT_le this.1 (valT_le this.2.2.2 (hi m hm).1 (hi m hm).2)
theorem anyT_le {l} (h:anyE l=0) (hi:inY l):(anyT l).length≤14370:=by
 obtain ⟨_,h1,h2⟩:=anyE_zero h
 have:=join_le (l.map allT) [32,111,114,32] 8 1792 (by grind) fun x hx=>by
  obtain ⟨m,hm,rfl⟩:=List.mem_map.1 hx
  exact allT_le (h2 m hm) (hi m hm)
 unfold anyT
 simp only [List.length_append,List.length_cons,List.length_nil] at this⊢
 omega
theorem tgtT_le {t} (h:tgtE t=0) (hi:inT t):(tgtT t).length≤115006:=by
 obtain ⟨h1,h2⟩:=tgtE_zero h
 have:=join_le (t.map anyT) [32,97,110,100,32] 8 14370 (by grind) fun x hx=>by
  obtain ⟨m,hm,rfl⟩:=List.mem_map.1 hx
  exact anyT_le (h2 m hm) (hi m hm)
 unfold tgtT
 split
 ·simp
 ·simp only [List.length_append,List.length_cons,List.length_nil] at this⊢
  omega
theorem stepT_tot {bs bs' :List Bool} {st:List Txt} {n:NodeD} (h:stepD bs n=some bs') (hi:inV n.val):tot (stepT st n)≤tot st+195:=by
 unfold stepT
 rcases stepD_some h with ⟨h1,h2,rfl⟩|⟨h1,h2,rfl⟩|⟨h1,h2,h3,h4⟩
 ·have:=valT_le h2 hi.1 hi.2
  rw [if_pos h1,tot_append,tot_one]; omega
 ·have:=attrT_le h2
  rw [if_neg (by omega),if_pos h1,tot_append,tot_one]; omega
 ·have:=fn_tot st (st.length - arity n.op) (fnW n.op) (fnW_le _)
  rw [if_neg (by omega),if_neg (by omega)]; omega
theorem stepsT_tot:∀(l:List NodeD) (bs bs' :List Bool) (st:List Txt),stepsD bs l=some bs'→inL l→st.length=bs.length→(l.foldl stepT st).length=bs'.length∧tot (l.foldl stepT st)≤tot st+195*l.length
 | [],bs,bs',st,h,hi,hl=>by
  grind [stepsD,Option.some.injEq]
 |n::r,bs,bs',st,h,hi,hl=>by
  simp only [stepsD] at h
  cases hs:stepD bs n with
  |none=>grind
  |some b2=>
   rw [hs] at h
   have h1:=stepT_tot (st:=st) hs (hi n (by simp))
   have h2:=stepsT_tot r b2 bs' (stepT st n) h (fun x hx=>hi x (by grind)) (stepT_length hs hl)
   simp only [List.foldl_cons,List.length_cons]
   omega
theorem exprE_zero {l} (h:exprE l=0) (hn:l≠ []):l.length≤32∧stepsD [] l=some [false]:=by
 grind [exprE]
theorem exprE_take {l} (h:exprE l=0) (i:Nat):∃bs,stepsD [] (l.take i)=some bs:=by
 by_cases hn:l= []
 ·simp_all [stepsD]
 ·have h2:=(exprE_zero h hn).2
  have:∀(l:List NodeD) (bs:List Bool) (b:List Bool) (i:Nat),stepsD bs l=some b→∃bs',stepsD bs (l.take i)=some bs' :=by
   intro l
   induction l with
   |nil=>grind
   |cons n r ih=>
    intro bs b i hh
    cases i with
    |zero=>grind [stepsD]
    |succ i=>
     simp only [List.take_succ_cons,stepsD] at hh⊢
     cases hs:stepD bs n with
     |none=>grind
     |some b2=>simp_all
  exact this l [] _ i h2
theorem exprT_le {l} (h:exprE l=0) (hi:inL l):(exprT l).length≤6240:=by
 by_cases hn:l= []
 ·grind [exprT]
 obtain ⟨h1,h2⟩:=exprE_zero h hn
 obtain ⟨h3,h4⟩:=stepsT_tot l [] [false] [] h2 hi rfl
 unfold exprT
 cases hx:l.foldl stepT [] with
 |nil=>simp
 |cons s r=>
  grind [mem_tot,stepT,tot,Lib.lens,List.headD_cons]
def ruleE (r:RuleD):Prop:=nameOK r.id=true∧tgtE r.tgt=0∧exprE r.cond=0∧oblsE r.obls=0
theorem ruleT_le {r} (h:ruleE r) (hi:inR r):(ruleT r).length≤122000:=by
 have h1:=nameOK_le h.1
 have h2:=tgtT_le h.2.1 hi.1
 have h3:=exprT_le h.2.2.1 hi.2
 have h4:=oblsT_le h.2.2.2
 unfold ruleT
 cases r.deny<;>simp only [List.length_append,List.length_cons,List.length_nil,if_true,Bool.false_eq_true,if_false]<;>split<;>simp<;>omega
mutual
def polE (d:Nat):PolD→Prop
 | .mk id set alg tgt rules kids obls=>d≤4∧nameOK id=true∧1≤alg∧alg≤6∧(set=true→rules= [])∧(set=false→kids= []∧alg≠4)∧tgtE tgt=0∧oblsE obls=0∧rules.length≤16∧kids.length≤16∧(∀r∈rules,ruleE r)∧kidsE (d+1) kids
def kidsE (d:Nat):List PolD→Prop
 | []=>True
 |k::r=>polE d k∧kidsE d r
end
theorem kidsE_eq (d:Nat):∀l:List PolD,kidsE d l↔∀k∈l,polE d k
 | []=>by simp [kidsE]
 |k::r=>by simp [kidsE,kidsE_eq d r]
theorem kidsT_eq:∀l:List PolD,kidsT l=(l.map fun k=> [32]++polT k).flatten
 | []=>by rfl
 |k::r=>by simp [kidsT,kidsT_eq r]
def polB:Nat→Nat
 |0=>0
 |n+1=>3000000+16*(1+polB n)
theorem polT_le:∀(n d:Nat) (p:PolD),d+n=5→polE d p→inP p→(polT p).length≤polB n
 |0,d, .mk id set alg tgt rules kids obls,hd,h,hi=>by grind [polE]
 |n+1,d, .mk id set alg tgt rules kids obls,hd,h,hi=>by
  obtain ⟨_,g1,_,_,_,_,g2,g3,g4,g5,g6,g7⟩:=h
  obtain ⟨i1,i2,i3⟩:=hi
  have h1:=nameOK_le g1
  have h2:=tgtT_le g2 i1
  have h4:=oblsT_le g3
  have h5:=algW_le alg
  have h6:=flatten_le (rules.map ruleT) 16 122000 (by grind) fun x hx=>by
   grind [ruleT_le]
  have h7:=flatten_le (kids.map fun k=> [32]++polT k) 16 (1+polB n) (by grind) fun x hx=>by
   obtain ⟨k,hk,rfl⟩:=List.mem_map.1 hx
   have:=polT_le n (d+1) k (by omega) (by grind [kidsE_eq]) (by grind [inK_eq])
   simp only [List.length_append,List.length_cons,List.length_nil]; omega
  simp only [polT,polB,kidsT_eq]
  cases set<;>simp only [List.length_append,List.length_cons,List.length_nil,if_true,Bool.false_eq_true,if_false]<;>omega
theorem polB_le:polB 4≤1000000000000:=by decide
theorem meetD_name {m m'} {s} (h:meetD m s=some m'):nameOK s=true:=by
 grind [meetD]
theorem need_ok' {e:Int} {w} {m} (h:need e w= .ok m):e=0∧w= .ok m:=by
 grind [need]
theorem ruleW_ok {m m'} {r} (h:ruleW m r= .ok m'):ruleE r:=by
 unfold ruleW at h
 split at h
 ·cases h
 ·rename_i m1 hm
  split at h
  ·cases h
  ·obtain ⟨h1,h⟩:=need_ok' h
   obtain ⟨h2,h⟩:=need_ok' h
   obtain ⟨h3,h⟩:=need_ok' h
   exact ⟨meetD_name hm,h1,h2,h3⟩
theorem rulesW_ok:∀(l:List RuleD) (m m' :MetD),rulesW m l= .ok m'→∀r∈l,ruleE r
 | [],_,_,_,r,hr=>by grind
 |x::l,m,m',h,r,hr=>by
  simp only [rulesW] at h
  cases hx:ruleW m x with
  |bad e=>grind
  |ok m1=>
   rw [hx] at h
   rcases List.mem_cons.1 hr with rfl|hr
   ·exact ruleW_ok hx
   ·exact rulesW_ok l m1 m' h r hr
theorem headW_ok' {m m1} {id} {set} {alg:Int} {tgt} {nr nk:Nat} {obls} (h:headW m id set alg tgt nr nk obls= .ok m1):
  meetD m id=some m1∧1≤alg∧alg≤6∧(set=true→nr=0)∧(set=false→nk=0∧alg≠4)∧tgtE tgt=0∧oblsE obls=0∧nr≤16∧nk≤16:=by
 unfold headW at h
 split at h
 ·cases h
 split at h
 ·cases h
 split at h
 ·cases h
 obtain ⟨h3,h⟩:=need_ok' h
 obtain ⟨h4,h⟩:=need_ok' h
 grind
mutual
theorem polW_ok:∀(p:PolD) (d:Nat) (m m' :MetD),polW m d p= .ok m'→polE d p
 | .mk id set alg tgt rules kids obls,d,m,m',h=>by
  simp only [polW] at h
  split at h
  ·cases h
  rename_i hd
  split at h
  ·cases h
  rename_i m1 h1
  split at h
  ·cases h
  rename_i m2 h2
  obtain ⟨g1,g2,g3,g4,g5,g6,g7,g8,g9⟩:=headW_ok' h1
  simp only [polE]
  exact ⟨by omega,meetD_name g1,g2,g3,fun e=>List.length_eq_zero_iff.1 (g4 e),fun e=>⟨List.length_eq_zero_iff.1 (g5 e).1,(g5 e).2⟩,g6,g7,g8,g9,rulesW_ok _ _ _ h2,kidsW_ok kids (d+1) m2 m' h⟩
theorem kidsW_ok:∀(l:List PolD) (d:Nat) (m m' :MetD),kidsW m d l= .ok m'→kidsE d l
 | [],_,_,_,_=>by simp [kidsE]
 |k::r,d,m,m',h=>by
  simp only [kidsW] at h
  split at h
  ·cases h
  rename_i m1 h1
  simp only [kidsE]
  exact ⟨polW_ok k d m m1 h1,kidsW_ok r d m1 m' h⟩
end
end Go.Bf

set_option linter.unusedSimpArgs false
set_option linter.unusedVariables false
namespace Go.Bf
open Go Go.Ab
def eqT (a b:TgtD):Bool:=eqL (eqL (eqL eqMatch)) a b
def eqR (r s:RuleD):Bool:=r.id==s.id && (r.deny==s.deny && (eqT r.tgt s.tgt && (eqL eqNode r.cond s.cond && eqL eqObl r.obls s.obls)))
mutual
def eqP:PolD→PolD→Bool
 | .mk i1 s1 a1 t1 r1 k1 o1, .mk i2 s2 a2 t2 r2 k2 o2=>i1==i2 && (s1==s2 && (a1==a2 && (eqT t1 t2 && (eqL eqObl o1 o2 && (eqL eqR r1 r2 && eqK k1 k2)))))
def eqK:List PolD→List PolD→Bool
 | [],[]=>true
 |x::a,y::b=>eqP x y && eqK a b
 |_,_=>false
end
theorem eqK_eqL:∀a b:List PolD,eqK a b=eqL eqP a b
 | [],[]=>rfl
 | [],_::_=>rfl
 |_::_,[]=>rfl
 |x::a,y::b=>by simp only [eqK,eqL,eqK_eqL a b]
theorem eqT_eq (a b):eqT a b=true↔a=b:=eqL_eq fun x y=>eqL_eq fun x y=>eqL_eq eqMatch_eq
theorem eqR_eq (a b):eqR a b=true↔a=b:=by
 obtain ⟨a1,a2,a3,a4,a5⟩:=a
 obtain ⟨b1,b2,b3,b4,b5⟩:=b
 grind [eqR,eqT_eq,eqL_eq,eqNode_eq,eqObl_eq]
mutual
theorem eqP_eq:∀a b:PolD,eqP a b=true↔a=b
 | .mk i1 s1 a1 t1 r1 k1 o1, .mk i2 s2 a2 t2 r2 k2 o2=>by
  simp only [eqP,Bool.and_eq_true,beq_iff_eq,eqT_eq,eqL_eq eqObl_eq,eqL_eq eqR_eq,eqK_eq k1 k2,PolD.mk.injEq]
  constructor
  ·rintro ⟨h1,h2,h3,h4,h5,h6,h7⟩; exact ⟨h1,h2,h3,h4,h6,h7,h5⟩
  ·rintro ⟨h1,h2,h3,h4,h5,h6,h7⟩; exact ⟨h1,h2,h3,h4,h7,h5,h6⟩
theorem eqK_eq:∀a b:List PolD,eqK a b=true↔a=b
 | [],[]=>by simp [eqK]
 | [],_::_=>by simp [eqK]
 |_::_,[]=>by simp [eqK]
 |x::a,y::b=>by simp [eqK,eqP_eq x y,eqK_eq a b]
end
end Go.Bf
namespace Go.Proofs.YtcgcjihjhlenkaaDoor
open Go Go.Ab Go.Bf
theorem targets_ok (a b) (h):FnOK Tryd.prog 15 [tgtA a,tgtA b] h fun r h' =>r= .v (.bool (eqT a b))∧h' =h:=by
 refine FnOK.body hU hm Tryd.func15 rfl (by kernel_rfl) 54 rfl [.tmp 4] rfl (Nat.le_of_ble_eq_true rfl) (fun hwf=> ?_)
 cases d1:((a.length:Int) !=(b.length:Int))
 case true=>
  have e1:a.length≠b.length:=by
   grind
  simp -implicitDefEqProofs only [go_sem,tgtA,List.length_map,d1]
  exact .same (.refl _) ⟨by rw [eqT,eqL_len e1]; rfl,rfl⟩
 have e1:a.length=b.length:=by grind
 have hwa:=hwf (tgtA a) (by simp)
 simp only [tgtA,wfA,wf1,lim,List.length_map] at hwa
 simp -implicitDefEqProofs only [go_sem,tgtA,List.length_map,d1]
 refine .intro (fun m ρ h' =>Ab.Sub h h'∧∃i:Nat,i≤a.length∧m=a.length - i∧(∀j (h1:j<a.length) (h2:j<b.length),j<i→eqL (eqL eqMatch) a[j] b[j]=true)∧lk ρ 0=some (.sl (a.map anyA) .no)∧lk ρ 1=some (.sl (b.map anyA) .no)∧lk ρ 13=some (.v (.int .i64 a.length))∧lk ρ 14=some (.v (.int .i64 i))) a.length ?_ ?_
 ·refine ⟨.refl _,0,by omega,rfl,fun j _ _ hj=>(by omega), ?_, ?_, ?_, ?_⟩<;>simp -implicitDefEqProofs only [go_sem]
 ·rintro m ρ h' ⟨hs,i,hi,rfl,hc,r0,r1,r13,r14⟩
  simp -implicitDefEqProofs only [go_sem,r0,r1,r13,r14,List.length_map]
  refine .intro (fun e=> ?_) (fun e=> ?_)
  ·have hlt:i<a.length:=Int.ofNat_lt.1 (of_decide_eq_true e)
   have hlt2:i<b.length:=by omega
   have w1:IntKind.i64.wrap ((i:Int)+1)=((i+1:Nat):Int):=by grind [wr64]
   simp -implicitDefEqProofs only [go_sem,r0,r1,r13,r14,List.length_map]
   refine ⟨.of (by kernel_rfl), ?_⟩
   refine .at i (by grind) (by rw [List.getElem_map]; rfl) ?_
   simp -implicitDefEqProofs only [go_sem,r0,r1,r13,r14,List.getElem_map,anyA]
   refine .at i (by grind) (by rw [List.getElem_map]; rfl) ?_
   cases d2:((a[i].length:Int) !=(b[i].length:Int))
   case true=>
    have e2:a[i].length≠b[i].length:=by
     grind
    simp -implicitDefEqProofs only [go_sem,r0,r1,r13,r14,List.getElem_map,anyA,List.length_map,d2]
    exact .mk _ (.refl _) hs ⟨by rw [eqT,eqL_at i hlt hlt2 (eqL_len e2)]; rfl,rfl⟩
   have e2:a[i].length=b[i].length:=by grind
   simp -implicitDefEqProofs only [go_sem,r0,r1,r13,r14,List.getElem_map,anyA,List.length_map,d2]
   refine .at i (by grind) (by rw [List.getElem_map]; rfl) ?_
   simp -implicitDefEqProofs only [go_sem,r0,r1,r13,r14,List.getElem_map,anyA,List.length_map]
   refine LoopC.wf fun hwi=> ?_
   have hwk:=hwi 31 (.sl (a[i].map allA) .no) (by simp -implicitDefEqProofs only [go_sem])
   simp only [wfA,wf1,lim,List.length_map] at hwk
   refine .intro (fun m ρ h' =>Ab.Sub h h'∧∃k:Nat,k≤a[i].length∧m=a[i].length - k∧(∀j (h1:j<a[i].length) (h2:j<b[i].length),j<k→eqL eqMatch a[i][j] b[i][j]=true)∧lk ρ 5=some (.v (.int .i64 i))∧lk ρ 0=some (.sl (a.map anyA) .no)∧lk ρ 1=some (.sl (b.map anyA) .no)∧lk ρ 13=some (.v (.int .i64 a.length))∧lk ρ 14=some (.v (.int .i64 i))∧lk ρ 32=some (.v (.int .i64 a[i].length))∧lk ρ 33=some (.v (.int .i64 k))) a[i].length ?_ ?_
   ·refine ⟨hs,0,by omega,rfl,fun j _ _ hj=>(by omega), ?_, ?_, ?_, ?_, ?_, ?_, ?_⟩<;>simp -implicitDefEqProofs only [go_sem,r0,r1,r13,r14]
   ·rintro m ρ h' ⟨hs,k,hk,rfl,hck,r5,r0,r1,r13,r14,r32,r33⟩
    simp -implicitDefEqProofs only [go_sem,r0,r1,r5,r13,r14,r32,r33]
    refine .intro (fun e3=> ?_) (fun e3=> ?_)
    ·have hkt:k<a[i].length:=Int.ofNat_lt.1 (of_decide_eq_true e3)
     have hkt2:k<b[i].length:=by omega
     simp -implicitDefEqProofs only [go_sem,r0,r1,r5,r13,r14,r32,r33]
     refine .quiet (by kernel_rfl) ?_
     simp -implicitDefEqProofs only [go_sem,r0,r1,r5,r13,r14,r32,r33]
     refine .at i (by grind) (by rw [List.getElem_map]; rfl) ?_
     simp -implicitDefEqProofs only [go_sem,r0,r1,r5,r13,r14,r32,r33,List.getElem_map,anyA]
     have w2:IntKind.i64.wrap ((k:Int)+1)=((k+1:Nat):Int):=by grind [wr64]
     refine .at k (by grind) (by rw [List.getElem_map]; rfl) ?_
     simp -implicitDefEqProofs only [go_sem,r0,r1,r5,r13,r14,r32,r33,List.getElem_map,allA]
     refine .at i (by grind) (by rw [List.getElem_map]; rfl) ?_
     simp -implicitDefEqProofs only [go_sem,r0,r1,r5,r13,r14,r32,r33,List.getElem_map,anyA]
     refine .at k (by grind) (by rw [List.getElem_map]; rfl) ?_
     simp -implicitDefEqProofs only [go_sem,r0,r1,r5,r13,r14,r32,r33,List.getElem_map,allA]
     have hsm:=fun h=>sameMatch_ok a[i][k] b[i][k] h
     simp only [allA] at hsm
     refine ⟨_,hsm _, ?_⟩
     cases d3:eqL eqMatch a[i][k] b[i][k]
     ·simp -implicitDefEqProofs only [go_sem,r0,r1,r5,r13,r14,r32,r33,d3]
      exact .mk _ (.refl _) hs ⟨by rw [eqT,eqL_at i hlt hlt2 (eqL_at k hkt hkt2 d3)]; rfl,rfl⟩
     ·simp -implicitDefEqProofs only [go_sem,r0,r1,r5,r13,r14,r32,r33,d3,w2]
      refine ⟨_, ?_,hs,k+1,by omega,rfl,fun j h1 h2 hj=> ?_, ?_, ?_, ?_, ?_, ?_, ?_, ?_⟩
      ·omega
      ·grind
      all_goals simp -implicitDefEqProofs only [go_sem,r0,r1,r5,r13,r14,r32,r33,w2]
    ·have hge:k=a[i].length:=by grind
     subst hge
     simp -implicitDefEqProofs only [go_sem,r0,r1,r5,r13,r14,r32,r33,w1]
     refine ⟨_, ?_,hs,i+1,by omega,rfl,fun j h1 h2 hj=> ?_, ?_, ?_, ?_, ?_⟩
     ·omega
     ·grind [eqL_true]
     all_goals simp -implicitDefEqProofs only [go_sem,r0,r1,r13,r14,w1]
  ·have hge:i=a.length:=by grind
   subst hge
   simp -implicitDefEqProofs only [go_sem,r0,r1,r13,r14]
   exact .mk _ (.refl _) hs ⟨by rw [eqT,eqL_true e1 fun j h1 h2=>hc j h1 h2 h1]; rfl,rfl⟩
end Go.Proofs.YtcgcjihjhlenkaaDoor

set_option linter.unusedSimpArgs false
set_option linter.unusedVariables false
namespace Go.Proofs.YtcgcjihjhlenkaaDoor
open Go Go.Ab Go.Bf
theorem anyOf_ok (l) (h):FnOK Tryd.prog 37 [anyA l] h fun r h' =>r= .v (.int .i64 (anyE l))∧h' =h:=by
 refine FnOK.body hU hm Tryd.func37 rfl (by kernel_rfl) 25 rfl [.tmp 2] rfl (Nat.le_of_ble_eq_true rfl) (fun hwf=> ?_)
 simp -implicitDefEqProofs only [go_sem,anyA,List.length_map]
 refine (many_ok _ _).pthen ?_
 cases d1:(manyE l.length !=0)
 case true=>
  have e1:manyE l.length≠0:=by grind
  simp -implicitDefEqProofs only [go_sem,d1]
  exact .same (.refl _) ⟨by grind [anyE,oneOr],rfl⟩
 have e1:manyE l.length=0:=by grind
 have hlen:=manyE_le e1
 simp -implicitDefEqProofs only [go_sem,d1,List.length_map]
 refine .intro (fun m ρ h' =>Ab.Sub h h'∧∃i:Nat,i≤l.length∧m=l.length - i∧firstE allE (l.take i)=0∧lk ρ 13=some (anyA l)∧lk ρ 14=some (.v (.int .i64 l.length))∧lk ρ 15=some (.v (.int .i64 i))) l.length ?_ ?_
 ·refine ⟨.refl _,0,by omega,rfl,rfl, ?_, ?_, ?_⟩<;>simp -implicitDefEqProofs only [go_sem,anyA]
 ·rintro m ρ h' ⟨hs,i,hi,rfl,hc,r12,r13,r14⟩
  simp -implicitDefEqProofs only [go_sem,r13,r14]
  refine .intro (fun e=> ?_) (fun e=> ?_)
  ·have hlt:i<l.length:=Int.ofNat_lt.1 (of_decide_eq_true e)
   have w1:IntKind.i64.wrap ((i:Int)+1)=((i+1:Nat):Int):=by grind [wr64]
   simp -implicitDefEqProofs only [go_sem,r12,r14,anyA]
   refine .at i (by grind) (by rw [List.getElem_map]; rfl) ?_
   simp -implicitDefEqProofs only [go_sem,List.getElem_map,allA]
   refine (allOf_ok l[i] _).pthen ?_
   cases d2:(allE l[i] !=0)
   ·have e2:allE l[i]=0:=by grind
    simp -implicitDefEqProofs only [go_sem,r14,d2,w1]
    refine ⟨_, ?_,hs,i+1,by omega,rfl,firstE_take hlt hc e2, ?_, ?_, ?_⟩
    ·omega
    all_goals simp -implicitDefEqProofs only [go_sem,r12,r13,anyA]
   ·have e2:allE l[i]≠0:=by grind
    simp -implicitDefEqProofs only [go_sem,d2]
    refine .mk _ (.refl _) hs ⟨?_,rfl⟩
    grind [anyE,firstE_at,oneOr]
  ·have hge:i=l.length:=by grind
   subst hge
   rw [List.take_length] at hc
   simp -implicitDefEqProofs only [go_sem]
   exact .mk _ (.refl _) hs ⟨by grind [anyE,oneOr],rfl⟩
theorem target_ok (l) (h):FnOK Tryd.prog 30 [tgtA l] h fun r h' =>r= .v (.int .i64 (tgtE l))∧h' =h:=by
 refine FnOK.body hU hm Tryd.func30 rfl (by kernel_rfl) 21 rfl [.tmp 2] rfl (Nat.le_of_ble_eq_true rfl) (fun hwf=> ?_)
 cases d1:decide (8<(l.length:Int))
 case true=>
  have e1:8<l.length:=by grind
  simp -implicitDefEqProofs only [go_sem,tgtA,List.length_map,d1]
  exact .same (.refl _) ⟨by grind [tgtE,oneOr],rfl⟩
 have e1:¬8<l.length:=by grind
 simp -implicitDefEqProofs only [go_sem,d1,tgtA,List.length_map]
 refine .intro (fun m ρ h' =>Ab.Sub h h'∧∃i:Nat,i≤l.length∧m=l.length - i∧firstE anyE (l.take i)=0∧lk ρ 9=some (tgtA l)∧lk ρ 10=some (.v (.int .i64 l.length))∧lk ρ 11=some (.v (.int .i64 i))) l.length ?_ ?_
 ·refine ⟨.refl _,0,by omega,rfl,rfl, ?_, ?_, ?_⟩<;>simp -implicitDefEqProofs only [go_sem,tgtA]
 ·rintro m ρ h' ⟨hs,i,hi,rfl,hc,r12,r13,r14⟩
  simp -implicitDefEqProofs only [go_sem,r13,r14]
  refine .intro (fun e=> ?_) (fun e=> ?_)
  ·have hlt:i<l.length:=Int.ofNat_lt.1 (of_decide_eq_true e)
   have w1:IntKind.i64.wrap ((i:Int)+1)=((i+1:Nat):Int):=by grind [wr64]
   simp -implicitDefEqProofs only [go_sem,r12,r14,tgtA]
   refine .at i (by grind) (by rw [List.getElem_map]; rfl) ?_
   simp -implicitDefEqProofs only [go_sem,List.getElem_map,anyA]
   refine (anyOf_ok l[i] _).pthen ?_
   cases d2:(anyE l[i] !=0)
   ·have e2:anyE l[i]=0:=by grind
    simp -implicitDefEqProofs only [go_sem,r14,d2,w1]
    refine ⟨_, ?_,hs,i+1,by omega,rfl,firstE_take hlt hc e2, ?_, ?_, ?_⟩
    ·omega
    all_goals simp -implicitDefEqProofs only [go_sem,r12,r13,tgtA]
   ·have e2:anyE l[i]≠0:=by grind
    simp -implicitDefEqProofs only [go_sem,d2]
    refine .mk _ (.refl _) hs ⟨?_,rfl⟩
    grind [tgtE,firstE_at,oneOr]
  ·have hge:i=l.length:=by grind
   subst hge
   rw [List.take_length] at hc
   simp -implicitDefEqProofs only [go_sem]
   exact .mk _ (.refl _) hs ⟨by grind [tgtE,oneOr],rfl⟩
theorem obls_ok (l) (h):FnOK Tryd.prog 31 [oblsA l] h fun r h' =>r= .v (.int .i64 (oblsE l))∧h' =h:=by
 refine FnOK.body hU hm Tryd.func31 rfl (by kernel_rfl) 39 rfl [.tmp 2] rfl (Nat.le_of_ble_eq_true rfl) (fun hwf=> ?_)
 cases d1:decide (8<(l.length:Int))
 case true=>
  have e1:8<l.length:=by grind
  simp -implicitDefEqProofs only [go_sem,oblsA,List.length_map,d1]
  exact .same (.refl _) ⟨by grind [oblsE,oneOr],rfl⟩
 have e1:¬8<l.length:=by grind
 simp -implicitDefEqProofs only [go_sem,d1,oblsA,List.length_map]
 refine .intro (fun m ρ h' =>Ab.Sub h h'∧∃i:Nat,i≤l.length∧m=l.length - i∧(l.take i).all oblOK=true∧lk ρ 8=some (oblsA l)∧lk ρ 9=some (.v (.int .i64 l.length))∧lk ρ 10=some (.v (.int .i64 i))) l.length ?_ ?_
 ·refine ⟨.refl _,0,by omega,rfl,rfl, ?_, ?_, ?_⟩<;>simp -implicitDefEqProofs only [go_sem,oblsA]
 ·rintro m ρ h' ⟨hs,i,hi,rfl,hc,r12,r13,r14⟩
  simp -implicitDefEqProofs only [go_sem,r13,r14]
  refine .intro (fun e=> ?_) (fun e=> ?_)
  ·have hlt:i<l.length:=Int.ofNat_lt.1 (of_decide_eq_true e)
   have w1:IntKind.i64.wrap ((i:Int)+1)=((i+1:Nat):Int):=by grind [wr64]
   simp -implicitDefEqProofs only [go_sem,r12,r14,oblsA]
   refine .at i (by grind) (by rw [List.getElem_map]; rfl) ?_
   simp -implicitDefEqProofs only [go_sem,List.getElem_map,oblA]
   intro id hid
   have bad:oblOK l[i]=false→oblsE l=1:=fun hb=>by
    have:l.all oblOK=false:=List.all_eq_false.2 ⟨_,List.getElem_mem hlt,by grind⟩
    simp [oblsE,e1,this]
   cases c1:decide (l[i].on<1)
   case true=>
    simp -implicitDefEqProofs only [go_sem,c1]
    exact .mk _ (.refl _) (hs.new hid _) ⟨by rw [bad (by have:=of_decide_eq_true c1; simp [oblOK]; omega)]; rfl,rfl⟩
   cases c2:decide (2<l[i].on)
   case true=>
    simp -implicitDefEqProofs only [go_sem,c1,c2]
    exact .mk _ (.refl _) (hs.new hid _) ⟨by rw [bad (by have:=of_decide_eq_true c2; simp [oblOK]; omega)]; rfl,rfl⟩
   cases c3:decide (l[i].kind<1)
   case true=>
    simp -implicitDefEqProofs only [go_sem,c1,c2,c3]
    exact .mk _ (.refl _) (hs.new hid _) ⟨by rw [bad (by have:=of_decide_eq_true c3; simp [oblOK]; omega)]; rfl,rfl⟩
   cases c4:decide (4<l[i].kind)
   case true=>
    simp -implicitDefEqProofs only [go_sem,c1,c2,c3,c4]
    exact .mk _ (.refl _) (hs.new hid _) ⟨by rw [bad (by have:=of_decide_eq_true c4; simp [oblOK]; omega)]; rfl,rfl⟩
   simp -implicitDefEqProofs only [go_sem,c1,c2,c3,c4]
   refine (name_ok _ _).pthen ?_
   cases d2:nameOK l[i].arg
   ·simp -implicitDefEqProofs only [go_sem]
    exact .mk _ (.refl _) (hs.new hid _) ⟨by rw [bad (by grind [oblOK])]; rfl,rfl⟩
   ·simp -implicitDefEqProofs only [go_sem,r14,w1]
    refine ⟨_, ?_,hs.new hid _,i+1,by omega,rfl, ?_, ?_, ?_, ?_⟩
    ·omega
    ·grind [of_decide_eq_false,List.take_succ_eq_append_getElem,oblOK]
    all_goals simp -implicitDefEqProofs only [go_sem,r12,r13,oblsA]
  ·have hge:i=l.length:=by grind
   subst hge
   rw [List.take_length] at hc
   simp -implicitDefEqProofs only [go_sem]
   exact .mk _ (.refl _) hs ⟨by grind [oblsE,oneOr],rfl⟩
end Go.Proofs.YtcgcjihjhlenkaaDoor

set_option linter.unusedSimpArgs false
set_option linter.unusedVariables false
namespace Go.Proofs.YtcgcjihjhlenkaaDoor
open Go Go.Ab Go.Bf
theorem wants_ok (op:Int) (h):FnOK Tryd.prog 47 [.v (.int .i64 op)] h fun r h' =>r=(match wantsD op with
  |none=> .tup [.sl [] .no, .v (.bool false)]
  |some w=> .tup [.sl (w.map boolA) .no, .v (.bool true)])∧h' =h:=by
 refine FnOK.body hU hm Tryd.func47 rfl (by kernel_rfl) 35 rfl [.tmp 2, .tmp 3] rfl (Nat.le_of_ble_eq_true rfl) (fun hwf=> ?_)
 cases k1:(op==1)
 case true=>
  have e1:op=1:=by grind
  simp -implicitDefEqProofs only [go_sem,k1]
  exact .mk _ (weak_strip _) (.refl _) ⟨by grind [wantsD,oneOr,strip,stripL],rfl⟩
 have n1:op≠1:=by grind
 cases k2:(op==2)
 case true=>
  have e1:op=2:=by grind
  simp -implicitDefEqProofs only [go_sem,k1,k2]
  exact .mk _ (weak_strip _) (.refl _) ⟨by grind [wantsD,oneOr,strip,stripL],rfl⟩
 have n2:op≠2:=by grind
 cases k3:(op==3)
 case true=>
  have e1:op=3:=by grind
  simp -implicitDefEqProofs only [go_sem,k1,k2,k3]
  exact .mk _ (weak_strip _) (.refl _) ⟨by grind [wantsD,oneOr,strip,stripL,boolA],rfl⟩
 have n3:op≠3:=by grind
 cases k4:(op==4)
 case true=>
  have e1:op=4:=by grind
  simp -implicitDefEqProofs only [go_sem,k1,k2,k3,k4]
  exact .mk _ (weak_strip _) (.refl _) ⟨by grind [wantsD,oneOr,strip,stripL,boolA],rfl⟩
 have n4:op≠4:=by grind
 cases k5:(op==5)
 case true=>
  have e1:op=5:=by grind
  simp -implicitDefEqProofs only [go_sem,k1,k2,k3,k4,k5]
  exact .mk _ (weak_strip _) (.refl _) ⟨by grind [wantsD,oneOr,strip,stripL,boolA],rfl⟩
 have n5:op≠5:=by grind
 cases k11:(op==11)
 case true=>
  have e1:op=11:=by grind
  simp -implicitDefEqProofs only [go_sem,k1,k2,k3,k4,k5,k11]
  exact .mk _ (weak_strip _) (.refl _) ⟨by grind [wantsD,oneOr,strip,stripL,boolA],rfl⟩
 have n11:op≠11:=by grind
 cases k6:decide (6≤op)
 ·have n6:=of_decide_eq_false k6
  simp -implicitDefEqProofs only [go_sem,k1,k2,k3,k4,k5,k11,k6]
  exact .mk _ (weak_strip _) (.refl _) ⟨by grind [wantsD,oneOr,strip,stripL],rfl⟩
 cases k13:decide (op≤13)
 ·have n13:=of_decide_eq_false k13
  simp -implicitDefEqProofs only [go_sem,k1,k2,k3,k4,k5,k11,k6,k13]
  exact .mk _ (weak_strip _) (.refl _) ⟨by grind [wantsD,oneOr,strip,stripL],rfl⟩
 have n6:=of_decide_eq_true k6
 have n13:=of_decide_eq_true k13
 simp -implicitDefEqProofs only [go_sem,k1,k2,k3,k4,k5,k11,k6,k13]
 exact .mk _ (weak_strip _) (.refl _) ⟨by grind [wantsD,oneOr,strip,stripL,boolA],rfl⟩
theorem fields_ok (n) (h):FnOK Tryd.prog 48 [nodeA n] h fun r h' =>r= .v (.bool (fieldsOK n))∧h' =h:=by
 refine FnOK.body hU hm Tryd.func48 rfl (by kernel_rfl) 37 rfl [.tmp 2] rfl (Nat.le_of_ble_eq_true rfl) (fun hwf=> ?_)
 simp -implicitDefEqProofs only [go_sem,nodeA]
 intro id hid
 have fa:∀x y z:Bool,(x && (y && (z && true)))=(x && (y && (z && true))):=fun _ _ _=>rfl
 cases k1:(n.op==1)
 case true=>
  have e1:n.op=1:=by grind
  simp -implicitDefEqProofs only [go_sem,k1]
  refine (valRight_ok n.val _).pthen ?_
  cases d0:valOK n.val
  ·simp -implicitDefEqProofs only [go_sem]
   exact .mk _ (.refl _) (.upd_new hid) ⟨by grind [fieldsOK,oneOr],rfl⟩
  ·simp -implicitDefEqProofs only [go_sem]
   exact .mk _ (.refl _) (.upd_new hid) ⟨by grind [fieldsOK,oneOr,zeroAt],rfl⟩
 have n1:n.op≠1:=by grind
 cases k2:(n.op==2)
 case true=>
  have e1:n.op=2:=by grind
  simp -implicitDefEqProofs only [go_sem,k1,k2]
  refine (attr_ok n.attr _).pthen ?_
  cases d0:attrOK n.attr
  ·simp -implicitDefEqProofs only [go_sem]
   exact .mk _ (.refl _) (.upd_new hid) ⟨by grind [fieldsOK,oneOr],rfl⟩
  ·simp -implicitDefEqProofs only [go_sem]
   exact .mk _ (.refl _) (.upd_new hid) ⟨by grind [fieldsOK,oneOr,zeroV],rfl⟩
 have n2:n.op≠2:=by grind
 cases d0:zeroV n.val
 ·have d1:=d0
  unfold zeroV at d1
  simp -implicitDefEqProofs only [go_sem,k1,k2,d1]
  exact .mk _ (.refl _) (.upd_new hid) ⟨by grind [fieldsOK,oneOr],rfl⟩
 ·have d1:=d0
  unfold zeroV at d1
  simp -implicitDefEqProofs only [go_sem,k1,k2,d1]
  exact .mk _ (.refl _) (.upd_new hid) ⟨by grind [fieldsOK,oneOr,zeroAt],rfl⟩
end Go.Proofs.YtcgcjihjhlenkaaDoor

set_option linter.unusedSimpArgs false
set_option linter.unusedVariables false
namespace Go.Proofs.YtcgcjihjhlenkaaDoor
open Go Go.Ab Go.Bf
theorem u4:(U 4).sz=1:=by rfl
theorem u4a:(U 4).k.agg=false:=by rfl
theorem u4b:(U 4).bytes=1:=by rfl
theorem u4f:fit (U 4).zero 1:=by simp only [go_sem]
theorem u4n:isAggA (U 4).zero=false:=by rfl
theorem b_one (l:List Bool):One (l.map boolA):=One.map (fun _=>rfl) l
theorem step_ok (y) (st) (n) (h0 h) (hy:WrA 4 h0 h y (st.map boolA)) (hl:st.length≤1000000):
  FnOK Tryd.prog 38 [y,nodeA n] h fun r h' =>∃z,r= .tup [z, .v (.bool (stepD st n).isSome)]∧match stepD st n with
   |none=>Ab.Sub h0 h'
   |some st' =>WrA 4 h0 h' z (st'.map boolA):=by
 refine FnOK.body hU hm Tryd.func38 rfl (by kernel_rfl) 60 rfl [.tmp 4, .tmp 5] rfl (Nat.le_of_ble_eq_true rfl) (fun hwf=> ?_)
 simp -implicitDefEqProofs only [go_sem,nodeA]
 intro id hid
 simp -implicitDefEqProofs only [go_sem]
 have hyb:=hy.base hid (some (.obj [.v (.int .i64 n.op), .v (.int .i64 n.val.kind), .v (.int .i64 n.val.n), .s n.val.s, .v (.int .i64 n.attr.cat), .s n.attr.name, .v (.bool n.attr.must)] 58))
 have hw:=wants_ok n.op (upd h id (some (.obj [.v (.int .i64 n.op), .v (.int .i64 n.val.kind), .v (.int .i64 n.val.n), .s n.val.s, .v (.int .i64 n.attr.cat), .s n.attr.name, .v (.bool n.attr.must)] 58)))
 cases hwd:wantsD n.op with
 |none=>
  rw [hwd] at hw
  have hst:stepD st n=none:=by grind [stepD]
  refine hw.pthen ?_
  simp -implicitDefEqProofs only [go_sem]
  exact .mk _ (.refl _) (.upd_new hid) ⟨_,by rw [hst]; rfl,by rw [hst]; exact hy.1⟩
 |some w=>
  rw [hwd] at hw
  have hwl:w.length≤2:=by
   grind [wantsD]
  refine hw.pthen ?_
  simp -implicitDefEqProofs only [go_sem]
  refine (fields_ok n _).pthen ?_
  cases d1:fieldsOK n
  ·have hst:stepD st n=none:=by grind [stepD]
   simp -implicitDefEqProofs only [go_sem]
   exact .mk _ (.refl _) (.upd_new hid) ⟨_,by rw [hst]; rfl,by rw [hst]; exact hy.1⟩
  cases d2:decide ((st.length:Int)<(w.length:Int))
  case true=>
   have e2:¬w.length≤st.length:=by grind
   have hst:stepD st n=none:=by grind [stepD]
   simp -implicitDefEqProofs only [go_sem,hyb.len,List.length_map,d2]
   exact .mk _ (.refl _) (.upd_new hid) ⟨_,by rw [hst]; rfl,by rw [hst]; exact hy.1⟩
  have e2:w.length≤st.length:=by grind
  have w1:IntKind.i64.wrap ((st.length:Int) - (w.length:Int))=((st.length - w.length:Nat):Int):=by grind [wr64]
  obtain ⟨hb,ehb⟩:∃hb,upd h id (some (.obj [.v (.int .i64 n.op), .v (.int .i64 n.val.kind), .v (.int .i64 n.val.n), .s n.val.s, .v (.int .i64 n.attr.cat), .s n.attr.name, .v (.bool n.attr.must)] 58))=hb:=⟨_,rfl⟩
  have hbid:hb id=some (.obj [.v (.int .i64 n.op), .v (.int .i64 n.val.kind), .v (.int .i64 n.val.n), .s n.val.s, .v (.int .i64 n.attr.cat), .s n.attr.name, .v (.bool n.attr.must)] 58):=by rw [←ehb]; exact upd_same ..
  have hsub:Ab.Sub h hb:=by rw [←ehb]; exact .upd_new hid
  rw [ehb] at hyb⊢
  simp -implicitDefEqProofs only [go_sem,hyb.len,List.length_map,d2,w1]
  refine .intro (fun m ρ h' =>h' =hb∧∃i:Nat,i≤w.length∧m=w.length - i∧(∀j,j<i→st[st.length - w.length+j]? =w[j]?)∧lk ρ 0=some y∧lk ρ 3=some (.ptr id 0)∧lk ρ 8=some (.v (.int .i64 ((st.length - w.length:Nat):Int)))∧lk ρ 36=some (.sl (w.map boolA) .no)∧lk ρ 37=some (.v (.int .i64 w.length))∧lk ρ 38=some (.v (.int .i64 i))) w.length ?_ ?_
  ·refine ⟨rfl,0,by omega,rfl,fun j hj=>(by omega), ?_, ?_, ?_, ?_, ?_, ?_⟩<;>simp -implicitDefEqProofs only [go_sem]
  ·rintro m ρ h' ⟨rfl,i,hi,rfl,hc,r0,r3,r8,r36,r37,r38⟩
   simp -implicitDefEqProofs only [go_sem,r37,r38]
   refine .intro (fun e=> ?_) (fun e=> ?_)
   ·have hlt:i<w.length:=Int.ofNat_lt.1 (of_decide_eq_true e)
    have w2:IntKind.i64.wrap ((i:Int)+1)=((i+1:Nat):Int):=by grind [wr64]
    have w3:IntKind.i64.wrap (((st.length - w.length:Nat):Int)+(i:Int))=((st.length - w.length+i:Nat):Int):=by grind [wr64]
    have hlt2:st.length - w.length+i<st.length:=by omega
    simp -implicitDefEqProofs only [go_sem,r36,r38]
    refine .at i (by grind) (by rw [List.getElem_map]; rfl) ?_
    simp -implicitDefEqProofs only [go_sem,r0,r8,List.getElem_map,boolA,w3]
    refine hyb.idx (b_one st) (st.length - w.length+i) rfl (by grind) u4 u4a fun p hp=> ?_
    simp -implicitDefEqProofs only [go_sem,hp _,List.getElem_map,boolA]
    cases d3:(st[st.length - w.length+i]==w[i])
    ·have hst:stepD st n=none:=by
      have:st.drop (st.length - w.length)≠w:=fun hh=>by
       grind
      simp [stepD,hwd,this]
     simp -implicitDefEqProofs only [go_sem]
     exact .mk _ (.refl _) hsub ⟨_,by rw [hst]; rfl,by rw [hst]; exact hy.1⟩
    ·simp -implicitDefEqProofs only [go_sem,r38,w2]
     refine ⟨_, ?_,rfl,i+1,by omega,rfl,fun j hj=> ?_, ?_, ?_, ?_, ?_, ?_, ?_⟩
     ·omega
     ·grind
     all_goals simp -implicitDefEqProofs only [go_sem,r0,r3,r8,r36,r37]
   ·have hge:i=w.length:=by grind
    subst hge
    have hdrop:st.drop (st.length - w.length)=w:=by
     apply List.ext_getElem?
     grind
    have hst:stepD st n=some (st.take (st.length - w.length)++ [n.op==2]):=by
     grind [stepD]
    simp -implicitDefEqProofs only [go_sem]
    refine .calls (hm1 id _) [0,1,2,3,4,5,6,7,8,9] (.hm1 hbid) (by kernel_rfl) rfl ?_
    simp -implicitDefEqProofs only [go_sem,r0,r8]
    refine hyb.cut (x:= .i64) (st.length - w.length) (by rfl) rfl (by simp) u4 fun z hz=> ?_
    rw [←List.map_take] at hz
    simp -implicitDefEqProofs only [go_sem,r3,hm1_same]
    refine hz.app (zs:= [.v (.bool (n.op==2))]) (b_one _) (b_one [n.op==2]) u4 (by decide) u4f u4n (fun k hk=>hk) (by grind [u4b]) fun z' h2 hz' => ?_
    refine ⟨fun j b hj=>((Sub.hm1 (upd_same ..)).trans hz'.1) j b hj, ?_⟩
    simp -implicitDefEqProofs only [go_sem]
    have hz2:=hz'.less (Sub.upd_new (hy.1.none hid))
    refine .same (.refl _) ⟨z',by rw [hst]; rfl, ?_⟩
    rw [hst]
    simp only [List.map_append]
    exact hz2
theorem condE_none {l} (h:l.length≤32) (hs:stepsD [] l=none):exprE l=1:=by
 grind [exprE,Nat.not_lt]
theorem stepsD_split (st):∀(l:List NodeD) (i:Nat),stepsD st l=(match stepsD st (l.take i) with
  |none=>none
  |some st' =>stepsD st' (l.drop i))
 | [],i=>by simp [stepsD]
 |n::r,0=>by rfl
 |n::r,i+1=>by
  simp only [List.take_succ_cons,List.drop_succ_cons,stepsD]
  cases stepD st n with
  |none=>rfl
  |some st' =>simp only; exact stepsD_split st' r i
theorem stepsD_length (st st') (l) (h:stepsD st l=some st'):st'.length≤st.length+l.length:=by
 induction l generalizing st with
 |nil=>grind [stepsD,Option.some.injEq]
 |cons n r ih=>
  simp only [stepsD] at h
  cases hs:stepD st n with
  |none=>grind
  |some s2=>
   grind [stepD]
theorem expr_ok (l) (h):FnOK Tryd.prog 32 [condA l] h fun r h' =>r= .v (.int .i64 (exprE l))∧h' =h:=by
 refine FnOK.body hU hm Tryd.func32 rfl (by kernel_rfl) 38 rfl [.tmp 2] rfl (Nat.le_of_ble_eq_true rfl) (fun hwf=> ?_)
 cases d1:decide (32<(l.length:Int))
 case true=>
  have e1:32<l.length:=by grind
  simp -implicitDefEqProofs only [go_sem,condA,List.length_map,d1]
  exact .same (.refl _) ⟨by grind [exprE,oneOr],rfl⟩
 have e1:l.length≤32:=by grind
 simp -implicitDefEqProofs only [go_sem,condA,List.length_map,d1]
 refine .intro (fun m ρ h' =>∃(i:Nat) (y:AV) (st:List Bool),WrA 4 h h' y (st.map boolA)∧stepsD [] (l.take i)=some st∧i≤l.length∧m=l.length - i∧
  lk ρ 0=some (condA l)∧lk ρ 3=some y∧lk ρ 10=some (condA l)∧lk ρ 11=some (.v (.int .i64 l.length))∧lk ρ 12=some (.v (.int .i64 i))) l.length ?_ ?_
 ·refine ⟨0,_,[], .nil (.refl _),rfl,by omega,rfl, ?_, ?_, ?_, ?_, ?_⟩<;>simp -implicitDefEqProofs only [go_sem,condA]
 ·rintro m ρ h' ⟨i,y,st,hy,hst,hi,rfl,r0,r3,r10,r11,r12⟩
  have hsl:=stepsD_length _ _ _ hst
  have hsl:st.length≤i:=by grind
  simp -implicitDefEqProofs only [go_sem,r11,r12]
  refine .intro (fun e=> ?_) (fun e=> ?_)
  ·have hlt:i<l.length:=Int.ofNat_lt.1 (of_decide_eq_true e)
   have w1:IntKind.i64.wrap ((i:Int)+1)=((i+1:Nat):Int):=by grind [wr64]
   have hnx:stepsD [] (l.take (i+1))=stepD st l[i]:=by
    rw [stepsD_split [] _ i,List.take_take,Nat.min_eq_left (by omega),hst,List.take_succ_eq_append_getElem hlt,List.drop_append_of_le_length (by grind),List.drop_of_length_le (by grind)]
    grind [stepsD,stepD]
   simp -implicitDefEqProofs only [go_sem,r10,r12,condA]
   refine .at i (by grind) (by rw [List.getElem_map]; rfl) ?_
   simp -implicitDefEqProofs only [go_sem,List.getElem_map,nodeA]
   intro id hid
   simp -implicitDefEqProofs only [go_sem,r3]
   have hyb:=hy.sub (Sub.upd_new (k:=some (.obj [.v (.int .i64 l[i].op), .v (.int .i64 l[i].val.kind), .v (.int .i64 l[i].val.n), .s l[i].val.s, .v (.int .i64 l[i].attr.cat), .s l[i].attr.name, .v (.bool l[i].attr.must)] 58)) hid)
   refine (step_ok y st l[i] h _ hyb (by omega)).mono fun r h2 ⟨z,e2,hz⟩=> ?_
   subst e2
   cases hsd:stepD st l[i] with
   |none=>
    rw [hsd] at hz
    simp -implicitDefEqProofs only [go_sem,Option.isSome_none]
    refine .mk _ (.refl _) hz ⟨?_,rfl⟩
    rw [condE_none e1 (by rw [stepsD_split [] l (i+1),hnx,hsd])]; rfl
   |some st' =>
    rw [hsd] at hz hnx
    simp -implicitDefEqProofs only [go_sem,r12,Option.isSome_some,w1]
    refine ⟨_, ?_,i+1,z,st',hz,hnx,by omega,rfl, ?_, ?_, ?_, ?_, ?_⟩
    ·omega
    all_goals simp -implicitDefEqProofs only [go_sem,r0,r10,r11,condA]
  ·have hge:i=l.length:=by grind
   subst hge
   rw [List.take_length] at hst
   have he:exprE l=if l= []∨st= [false] then 0 else 1:=by
    simp_all [exprE,if_neg]
   cases d2:decide (0<(l.length:Int))
   ·have e2:l= []:=by simp_all
    simp -implicitDefEqProofs only [go_sem,r0,condA,List.length_map,d2]
    exact .mk _ (.refl _) hy.1 ⟨by rw [he,if_pos (.inl e2)]; rfl,rfl⟩
   have e2:l≠ []:=by grind
   cases d3:((st.length:Int) !=1)
   case true=>
    have e3:st≠ [false]:=by grind
    simp -implicitDefEqProofs only [go_sem,r0,r3,condA,List.length_map,d2,hy.len,d3]
    exact .mk _ (.refl _) hy.1 ⟨by rw [he,if_neg (by grind)]; rfl,rfl⟩
   have e3:st.length=1:=by
    grind
   obtain ⟨b,rfl⟩:=List.length_eq_one_iff.1 e3
   simp -implicitDefEqProofs only [go_sem,r0,r3,condA,List.length_map,d2,hy.len]
   refine hy.idx (b_one [b]) 0 rfl (by simp) u4 u4a fun p hp=> ?_
   simp -implicitDefEqProofs only [go_sem,hp _,boolA,List.getElem_cons_zero]
   cases b
   ·simp -implicitDefEqProofs only [go_sem]
    exact .mk _ (.refl _) hy.1 ⟨by rw [he,if_pos (.inr rfl)]; rfl,rfl⟩
   ·simp -implicitDefEqProofs only [go_sem]
    exact .mk _ (.refl _) hy.1 ⟨by rw [he,if_neg (by grind)]; rfl,rfl⟩
end Go.Proofs.YtcgcjihjhlenkaaDoor

set_option linter.unusedSimpArgs false
set_option linter.unusedVariables false
namespace Go.Proofs.YtcgcjihjhlenkaaDoor
open Go Go.Ab Go.Bf
def Keeps (S:List Nat) (h h' :Heap):Prop:=∀j k,j∉S→h j=some k→h' j=some k
theorem Keeps.refl (S) (h):Keeps S h h:=fun _ _ _ e=>e
theorem Keeps.trans {S} {a b c} (x:Keeps S a b) (y:Keeps S b c):Keeps S a c:=fun j k hj e=>y j k hj (x j k hj e)
theorem Keeps.of {S} {a b} (x:Ab.Sub a b):Keeps S a b:=fun j k _ e=>x j k e
theorem Keeps.upd {S} {a} {i:Nat} {b} (hi:i∈S):Keeps S a (Ab.upd a i b):=fun j k hj e=>by
 grind [upd_other]
def WalkAt (h:Heap) (idw mid:Nat) (m:MetD):Prop:=h idw=some (.obj [.mp mid, .v (.int .i64 m.rules)] 47)∧h mid=some (.mp (setA m.met))∧(∀l∈m.met,l.length≤16)∧m.rules≤64
theorem WalkAt.ne {h} {idw mid:Nat} {m} (hw:WalkAt h idw mid m):idw≠mid:=fun e=>by
 have h1:=hw.1; have h2:=hw.2.1
 rw [e,h2] at h1; cases h1
theorem WalkAt.keep {h h'} {idw mid:Nat} {m} (hw:WalkAt h idw mid m) (hs:Ab.Sub h h'):WalkAt h' idw mid m:=⟨hs _ _ hw.1,hs _ _ hw.2.1,hw.2.2⟩
theorem u158:(U 82).sz=0:=by rfl
theorem nameOK_len {s} (h:nameOK s=true):s.length≤16:=by
 grind [nameOK]
theorem meetD_none {m} {s} (h:s∈m.met∨nameOK s=false):meetD m s=none:=by
 unfold meetD
 grind
theorem wname_ok (idw mid:Nat) (m) (s) (h) (hw:WalkAt h idw mid m):FnOK Tryd.prog 29 [.ptr idw 0, .s s] h fun r h' =>match meetD m s with
  |none=>r= .v (.bool false)∧Ab.Sub h h'
  |some m' =>r= .v (.bool true)∧Keeps [idw,mid] h h'∧WalkAt h' idw mid m' :=by
 refine FnOK.body hU hm Tryd.func29 rfl (by kernel_rfl) 28 rfl [.tmp 4] rfl (Nat.le_of_ble_eq_true rfl) (fun hwf=> ?_)
 obtain ⟨w1,w2,w3,w4⟩:=hw
 have hlen:s.length≤maxLen:=by
  have:=hwf (.s s) (by simp)
  simp only [wfA,wf1,lim] at this
  unfold maxLen; omega
 have hkeys:KeysA .str (setA m.met):=keysA_set fun l hl=>by grind [maxLen]
 simp -implicitDefEqProofs only [go_sem,w1,w2]
 refine ⟨hlen, .inr (by rfl),hkeys, ?_⟩
 rw [lookM_set _ _ u158]
 simp -implicitDefEqProofs only [go_sem]
 intro idv hidv
 simp -implicitDefEqProofs only [go_sem]
 cases d1:decide (s∈m.met)
 case true=>
  have hm:=meetD_none (.inl (of_decide_eq_true d1))
  simp -implicitDefEqProofs only [go_sem]
  rw [hm]
  exact .mk _ (.refl _) (.upd_new hidv) ⟨rfl, .refl _⟩
 have e1:=of_decide_eq_false d1
 simp -implicitDefEqProofs only [go_sem]
 refine (name_ok _ _).pthen ?_
 cases d2:nameOK s
 ·have hm:=meetD_none (m:=m) (.inr d2)
  simp -implicitDefEqProofs only [go_sem]
  rw [hm]
  exact .mk _ (.refl _) (.upd_new hidv) ⟨rfl, .refl _⟩
 have hm:meetD m s=some ⟨m.met++ [s],m.rules⟩:=by grind [meetD]
 have w1' :upd h idv (some (.obj [] 82)) idw=some (.obj [.mp mid, .v (.int .i64 m.rules)] 47):=by grind [upd_other]
 have w2' :upd h idv (some (.obj [] 82)) mid=some (.mp (setA m.met)):=by grind [upd_other]
 simp -implicitDefEqProofs only [go_sem,w1',w2']
 refine ⟨hlen,hkeys, ?_⟩
 rw [setM_new e1]
 rw [hm]
 refine .same (.refl _) ⟨rfl,(Keeps.of (.upd_new hidv)).trans (.upd (by simp)), ?_, ?_, ?_,w4⟩
 ·grind [upd_other]
 ·rw [upd_same]
 grind [List.mem_singleton,nameOK_len]
theorem wrule_ok (idw mid:Nat) (m) (r) (h) (hw:WalkAt h idw mid m):FnOK Tryd.prog 23 [.ptr idw 0,ruleA r] h fun x h' =>x= .v (.int .i64 (ruleW m r).err)∧Keeps [idw,mid] h h'∧∀m',ruleW m r= .ok m'→WalkAt h' idw mid m' :=by
 refine FnOK.body hU hm Tryd.func23 rfl (by kernel_rfl) 39 rfl [.tmp 4] rfl (Nat.le_of_ble_eq_true rfl) (fun hwf=> ?_)
 simp -implicitDefEqProofs only [go_sem,ruleA,tgtA,condA,oblsA]
 intro id hid
 have n1:idw≠id:=fun e=>by have:=hw.1; rw [e,hid] at this; cases this
 have n2:mid≠id:=fun e=>by have:=hw.2.1; rw [e,hid] at this; cases this
 have hwb:=hw.keep (Sub.upd_new (k:=some (.obj [.s r.id, .v (.bool r.deny), .sl (r.tgt.map anyA) .no, .sl (r.cond.map nodeA) .no, .sl (r.obls.map oblA) .no] 37)) hid)
 have hk0:Keeps [idw,mid] h (upd h id (some (.obj [.s r.id, .v (.bool r.deny), .sl (r.tgt.map anyA) .no, .sl (r.cond.map nodeA) .no, .sl (r.obls.map oblA) .no] 37))):= .of (.upd_new hid)
 simp -implicitDefEqProofs only [go_sem]
 obtain ⟨hb,ehb⟩:∃hb,upd h id (some (.obj [.s r.id, .v (.bool r.deny), .sl (r.tgt.map anyA) .no, .sl (r.cond.map nodeA) .no, .sl (r.obls.map oblA) .no] 37))=hb:=⟨_,rfl⟩
 have hbid:hb id=some (.obj [.s r.id, .v (.bool r.deny), .sl (r.tgt.map anyA) .no, .sl (r.cond.map nodeA) .no, .sl (r.obls.map oblA) .no] 37):=by rw [←ehb]; exact upd_same ..
 rw [ehb] at hwb hk0⊢
 refine (wname_ok idw mid m r.id hb hwb).mono fun x h2 hx=> ?_
 cases hm:meetD m r.id with
 |none=>
  rw [hm] at hx
  obtain ⟨rfl,hs⟩:=hx
  have hr:ruleW m r= .bad 1:=by grind [ruleW]
  simp -implicitDefEqProofs only [go_sem]
  exact .same (.refl _) ⟨by rw [hr]; rfl,hk0.trans (.of hs),fun m' h' =>by grind⟩
 |some m1=>
  rw [hm] at hx
  obtain ⟨rfl,hk,hw2⟩:=hx
  have g2:=hw2.1
  have hle:=hw2.2.2.2
  have hid2:h2 id=some (.obj [.s r.id, .v (.bool r.deny), .sl (r.tgt.map anyA) .no, .sl (r.cond.map nodeA) .no, .sl (r.obls.map oblA) .no] 37):=hk id _ (by grind) hbid
  have w1:IntKind.i64.wrap ((m1.rules:Int)+1)=((m1.rules+1:Nat):Int):=by grind [wr64]
  have hk3:Keeps [idw,mid] h (upd h2 idw (some (.obj [.mp mid, .v (.int .i64 ((m1.rules+1:Nat):Int))] 47))):=(hk0.trans hk).trans (.upd (by simp))
  have hid3:upd h2 idw (some (.obj [.mp mid, .v (.int .i64 ((m1.rules+1:Nat):Int))] 47)) id=some (.obj [.s r.id, .v (.bool r.deny), .sl (r.tgt.map anyA) .no, .sl (r.cond.map nodeA) .no, .sl (r.obls.map oblA) .no] 37):=by
   grind [upd_other]
  cases d1:decide (64<((m1.rules+1:Nat):Int))
  case true=>
   have e1:m1.rules+1>64:=by grind
   have hr:ruleW m r= .bad 6:=by grind [ruleW]
   simp -implicitDefEqProofs only [go_sem,g2,w1,d1]
   exact .same (.refl _) ⟨by rw [hr]; rfl,hk3,fun m' h' =>by grind⟩
  have e1:¬m1.rules+1>64:=by grind
  have hr:ruleW m r=need (tgtE r.tgt) (need (exprE r.cond) (need (oblsE r.obls) (.ok ⟨m1.met,m1.rules+1⟩))):=by grind [ruleW]
  simp -implicitDefEqProofs only [go_sem,g2,w1,d1,hid3]
  refine (target_ok r.tgt _).pthen ?_
  cases d2:(tgtE r.tgt !=0)
  case true=>
   have e2:tgtE r.tgt≠0:=by grind
   have hr:ruleW m r= .bad (tgtE r.tgt):=by grind [need]
   simp -implicitDefEqProofs only [go_sem,d2]
   exact .same (.refl _) ⟨by rw [hr]; rfl,hk3,fun m' h' =>by grind⟩
  have e2:tgtE r.tgt=0:=by grind
  rw [need,if_pos e2] at hr
  simp -implicitDefEqProofs only [go_sem,d2,hid3]
  refine (expr_ok r.cond _).pthen ?_
  cases d3:(exprE r.cond !=0)
  case true=>
   have e3:exprE r.cond≠0:=by grind
   have hr:ruleW m r= .bad (exprE r.cond):=by grind [need]
   simp -implicitDefEqProofs only [go_sem,d3]
   exact .same (.refl _) ⟨by rw [hr]; rfl,hk3,fun m' h' =>by grind⟩
  have e3:exprE r.cond=0:=by grind
  rw [need,if_pos e3] at hr
  simp -implicitDefEqProofs only [go_sem,d3,hid3]
  refine (obls_ok r.obls _).pthen ?_
  simp -implicitDefEqProofs only [go_sem]
  by_cases e4:oblsE r.obls=0
  ·rw [need,if_pos e4] at hr
   refine .same (.refl _) ⟨by rw [hr,e4]; rfl,hk3,fun m' h' => ?_⟩
   rw [hr] at h'
   cases h'
   refine ⟨upd_same .., ?_,hw2.2.2.1,by grind⟩
   rw [upd_other _ _ hw2.ne.symm]; exact hw2.2.1
  ·rw [need,if_neg e4] at hr
   exact .same (.refl _) ⟨by rw [hr]; rfl,hk3,fun m' h' =>by grind⟩
end Go.Proofs.YtcgcjihjhlenkaaDoor

set_option linter.unusedSimpArgs false
set_option linter.unusedVariables false
namespace Go.Proofs.YtcgcjihjhlenkaaDoor
open Go Go.Ab Go.Bf
theorem headW_none {m} {id} {set} {alg:Int} {tgt} {nr nk:Nat} {obls} (h:meetD m id=none):headW m id set alg tgt nr nk obls= .bad 1:=by
 grind [headW]
theorem whead_ok (idw mid:Nat) (m) (id) (set) (alg:Int) (tgt) (rules) (kids) (obls) (h) (hw:WalkAt h idw mid m):
  FnOK Tryd.prog 22 [.ptr idw 0,polA (.mk id set alg tgt rules kids obls)] h fun x h' =>x= .v (.int .i64 (headW m id set alg tgt rules.length kids.length obls).err)∧Keeps [idw,mid] h h'∧∀m',headW m id set alg tgt rules.length kids.length obls= .ok m'→WalkAt h' idw mid m' :=by
 refine FnOK.body hU hm Tryd.func22 rfl (by kernel_rfl) 68 rfl [.tmp 4] rfl (Nat.le_of_ble_eq_true rfl) (fun hwf=> ?_)
 simp only [go_sem,polA,tgtA,oblsA]
 intro ip hip
 have n1:idw≠ip:=fun e=>by have:=hw.1; rw [e,hip] at this; cases this
 have n2:mid≠ip:=fun e=>by have:=hw.2.1; rw [e,hip] at this; cases this
 have hwb:=hw.keep (Sub.upd_new (k:=some (.obj [.s id, .v (.bool set), .v (.int .i64 alg), .sl (tgt.map anyA) .no, .sl (rules.map ruleA) .no, .sl (kidsA kids) .no, .sl (obls.map oblA) .no] 28)) hip)
 have hk0:Keeps [idw,mid] h (upd h ip (some (.obj [.s id, .v (.bool set), .v (.int .i64 alg), .sl (tgt.map anyA) .no, .sl (rules.map ruleA) .no, .sl (kidsA kids) .no, .sl (obls.map oblA) .no] 28))):= .of (.upd_new hip)
 simp only [go_sem]
 obtain ⟨hb,ehb⟩:∃hb,upd h ip (some (.obj [.s id, .v (.bool set), .v (.int .i64 alg), .sl (tgt.map anyA) .no, .sl (rules.map ruleA) .no, .sl (kidsA kids) .no, .sl (obls.map oblA) .no] 28))=hb:=⟨_,rfl⟩
 have hbip:hb ip=some (.obj [.s id, .v (.bool set), .v (.int .i64 alg), .sl (tgt.map anyA) .no, .sl (rules.map ruleA) .no, .sl (kidsA kids) .no, .sl (obls.map oblA) .no] 28):=by rw [←ehb]; exact upd_same ..
 rw [ehb] at hwb hk0⊢
 refine (wname_ok idw mid m id hb hwb).mono fun x h2 hx=> ?_
 cases hm:meetD m id with
 |none=>
  rw [hm] at hx
  obtain ⟨rfl,hs⟩:=hx
  simp only [go_sem]
  exact .same (.refl _) ⟨by rw [headW_none hm]; rfl,hk0.trans (.of hs),fun m' h' =>by rw [headW_none hm] at h'; cases h'⟩
 |some m1=>
  rw [hm] at hx
  obtain ⟨rfl,hk,hw2⟩:=hx
  have hip2:h2 ip=some (.obj [.s id, .v (.bool set), .v (.int .i64 alg), .sl (tgt.map anyA) .no, .sl (rules.map ruleA) .no, .sl (kidsA kids) .no, .sl (obls.map oblA) .no] 28):=hk ip _ (by simp [n1.symm,n2.symm]) hbip
  have hkk:=hk0.trans hk
  have bad:∀e,headW m id set alg tgt rules.length kids.length obls= .bad e→(.v (.int .i64 e):AV)= .v (.int .i64 (headW m id set alg tgt rules.length kids.length obls).err)∧Keeps [idw,mid] h h2∧∀m',headW m id set alg tgt rules.length kids.length obls= .ok m'→WalkAt h2 idw mid m' :=
   fun e he=>⟨by rw [he]; rfl,hkk,fun m' h' =>by rw [he] at h'; cases h'⟩
  cases d1:decide (alg<1)
  case true=>
   have e1:=of_decide_eq_true d1
   simp only [go_sem,d1,hip2]
   exact .same (.refl _) (bad 1 (by simp [headW,hm,e1]))
  cases d2:decide (6<alg)
  case true=>
   have e2:=of_decide_eq_true d2
   simp only [go_sem,d1,d2,hip2]
   exact .same (.refl _) (bad 1 (by simp [headW,hm,e2]))
  have e1:¬(alg<1∨alg>6):=by have:=of_decide_eq_false d1; have:=of_decide_eq_false d2; omega
  have tail:∀(z:Unit),¬(set=true∧rules.length>0∨set=false∧(kids.length>0∨alg=4))→headW m id set alg tgt rules.length kids.length obls=need (tgtE tgt) (need (oblsE obls) (if rules.length>16∨kids.length>16 then .bad 6 else .ok m1)):=fun _ hh=>by
   simp only [headW,hm]
   rw [if_neg e1,if_neg hh]
  cases set
  ·cases d4:decide (0<(kids.length:Int))
   case true=>
    have f4:0<kids.length:=by have:=of_decide_eq_true d4; omega
    simp -implicitDefEqProofs only [go_sem,d1,d2,hip2,kidsA_eq,List.length_map,d4]
    exact .same (.refl _) (bad 1 (by simp [headW,hm,e1,f4]))
   have g4:¬0<kids.length:=by have:=of_decide_eq_false d4; omega
   cases d5:(alg==4)
   case true=>
    have f5:alg=4:=by simpa using d5
    simp -implicitDefEqProofs only [go_sem,d1,d2,hip2,kidsA_eq,List.length_map,d4,d5]
    exact .same (.refl _) (bad 1 (by simp [headW,hm,f5]))
   have g5:alg≠4:=by simpa using d5
   simp -implicitDefEqProofs only [go_sem,d1,d2,hip2,kidsA_eq,List.length_map,d4,d5]
   have e3:=tail () (by simp [g4,g5])
   refine (target_ok tgt _).pthen ?_
   cases t1:(tgtE tgt !=0)
   case true=>
    have f1:tgtE tgt≠0:=by simpa using t1
    simp only [go_sem,t1]
    exact .same (.refl _) (bad _ (by rw [e3]; simp [need,f1]))
   have f1:tgtE tgt=0:=by simpa using t1
   simp only [go_sem,t1,hip2]
   refine (obls_ok obls _).pthen ?_
   cases t2:(oblsE obls !=0)
   case true=>
    have f2:oblsE obls≠0:=by simpa using t2
    simp only [go_sem,t2]
    exact .same (.refl _) (bad _ (by rw [e3]; simp [need,f1,f2]))
   have f2:oblsE obls=0:=by simpa using t2
   cases t3:decide (16<(rules.length:Int))
   case true=>
    have f3:16<rules.length:=by have:=of_decide_eq_true t3; omega
    simp only [go_sem,t2,hip2,List.length_map,t3]
    exact .same (.refl _) (bad _ (by rw [e3]; simp [need,f1,f2,f3]))
   have f3:¬16<rules.length:=by have:=of_decide_eq_false t3; omega
   cases t4:decide (16<(kids.length:Int))
   case true=>
    have f4:16<kids.length:=by have:=of_decide_eq_true t4; omega
    simp only [go_sem,t2,hip2,List.length_map,t3,kidsA_eq,t4]
    exact .same (.refl _) (bad _ (by rw [e3]; simp [need,f1,f2,f4]))
   have f4:¬16<kids.length:=by have:=of_decide_eq_false t4; omega
   simp only [go_sem,t2,hip2,List.length_map,t3,kidsA_eq,t4]
   have e4:headW m id false alg tgt rules.length kids.length obls= .ok m1:=by rw [e3]; simp [need,f1,f2,f3,f4]
   exact .same (.refl _) ⟨by rw [e4]; rfl,hkk,fun m' h' =>by rw [e4] at h'; cases h'; exact hw2⟩
  ·cases d3:decide (0<(rules.length:Int))
   case true=>
    have f3:0<rules.length:=by have:=of_decide_eq_true d3; omega
    simp -implicitDefEqProofs only [go_sem,d1,d2,hip2,List.length_map,d3]
    exact .same (.refl _) (bad 1 (by simp [headW,hm,e1,f3]))
   have g3:¬0<rules.length:=by have:=of_decide_eq_false d3; omega
   simp -implicitDefEqProofs only [go_sem,d1,d2,hip2,List.length_map,d3]
   have e3:=tail () (by simp [g3])
   refine (target_ok tgt _).pthen ?_
   cases t1:(tgtE tgt !=0)
   case true=>
    have f1:tgtE tgt≠0:=by simpa using t1
    simp only [go_sem,t1]
    exact .same (.refl _) (bad _ (by rw [e3]; simp [need,f1]))
   have f1:tgtE tgt=0:=by simpa using t1
   simp only [go_sem,t1,hip2]
   refine (obls_ok obls _).pthen ?_
   cases t2:(oblsE obls !=0)
   case true=>
    have f2:oblsE obls≠0:=by simpa using t2
    simp only [go_sem,t2]
    exact .same (.refl _) (bad _ (by rw [e3]; simp [need,f1,f2]))
   have f2:oblsE obls=0:=by simpa using t2
   cases t3:decide (16<(rules.length:Int))
   case true=>
    have f3:16<rules.length:=by have:=of_decide_eq_true t3; omega
    simp only [go_sem,t2,hip2,List.length_map,t3]
    exact .same (.refl _) (bad _ (by rw [e3]; simp [need,f1,f2,f3]))
   have f3:¬16<rules.length:=by have:=of_decide_eq_false t3; omega
   cases t4:decide (16<(kids.length:Int))
   case true=>
    have f4:16<kids.length:=by have:=of_decide_eq_true t4; omega
    simp only [go_sem,t2,hip2,List.length_map,t3,kidsA_eq,t4]
    exact .same (.refl _) (bad _ (by rw [e3]; simp [need,f1,f2,f4]))
   have f4:¬16<kids.length:=by have:=of_decide_eq_false t4; omega
   simp only [go_sem,t2,hip2,List.length_map,t3,kidsA_eq,t4]
   have e4:headW m id true alg tgt rules.length kids.length obls= .ok m1:=by rw [e3]; simp [need,f1,f2,f3,f4]
   exact .same (.refl _) ⟨by rw [e4]; rfl,hkk,fun m' h' =>by rw [e4] at h'; cases h'; exact hw2⟩
end Go.Proofs.YtcgcjihjhlenkaaDoor

set_option linter.unusedSimpArgs false
set_option linter.unusedVariables false
namespace Go.Proofs.YtcgcjihjhlenkaaDoor
open Go Go.Ab Go.Bf
theorem polA_len (k):(polA k).cells.length=7:=by
 cases k; rfl
theorem polW_deep {m} {d:Nat} {p} (h:4<d):polW m d p= .bad 6:=by
 cases p; grind [polW]
theorem polW_head {m} {d:Nat} {id} {set} {alg:Int} {tgt} {rules} {kids} {obls} {e:Int} (h:¬4<d)
  (hh:headW m id set alg tgt rules.length kids.length obls= .bad e):polW m d (.mk id set alg tgt rules kids obls)= .bad e:=by
 grind [polW]
theorem polW_rules {m m1} {d:Nat} {id} {set} {alg:Int} {tgt} {rules} {kids} {obls} {e:Int} (h:¬4<d)
  (hh:headW m id set alg tgt rules.length kids.length obls= .ok m1) (hr:rulesW m1 rules= .bad e):polW m d (.mk id set alg tgt rules kids obls)= .bad e:=by
 grind [polW]
theorem polW_kids {m m1 m2} {d:Nat} {id} {set} {alg:Int} {tgt} {rules} {kids} {obls} (h:¬4<d)
  (hh:headW m id set alg tgt rules.length kids.length obls= .ok m1) (hr:rulesW m1 rules= .ok m2):polW m d (.mk id set alg tgt rules kids obls)=kidsW m2 (d+1) kids:=by
 grind [polW]
theorem polW_bad:∀(n d:Nat) (m:MetD) (p:PolD) (e:Int),d+n=5→polW m d p= .bad e→e≠0
 |0,d,m,p,e,hd,h=>by grind [polW_deep]
 |n+1,d,m, .mk id set alg tgt rules kids obls,e,hd,h=>by
  by_cases h4:4<d
  ·omega
  cases hh:headW m id set alg tgt rules.length kids.length obls with
  |bad e' =>grind [polW_head,headW_bad]
  |ok m1=>
   cases hr:rulesW m1 rules with
   |bad e' =>
    rw [polW_rules h4 hh hr] at h; cases h
    clear hh hd
    induction rules generalizing m1 with
    |nil=>cases hr
    |cons r l ih=>
     grind [rulesW,ruleW,ruleW_bad]
   |ok m2=>
    rw [polW_kids h4 hh hr] at h
    have ih:=fun m p e=>polW_bad n (d+1) m p e (by omega)
    clear hh hr
    induction kids generalizing m2 with
    |nil=>cases h
    |cons k l ihk=>
     simp only [kidsW] at h
     cases hx:polW m2 (d+1) k with
     |bad x=>rw [hx] at h; cases h; exact ih _ _ _ hx
     |ok m3=>rw [hx] at h; exact ihk m3 h
theorem need_ok {e:Int} {w} {m} (h:need e w= .ok m):e=0∧w= .ok m:=by
 grind [need]
theorem headW_ok {m m1} {id} {set} {alg:Int} {tgt} {nr nk:Nat} {obls} (h:headW m id set alg tgt nr nk obls= .ok m1):
  meetD m id=some m1∧1≤alg∧alg≤6∧(set=true→nr=0)∧(set=false→nk=0∧alg≠4)∧tgtE tgt=0∧oblsE obls=0∧nr≤16∧nk≤16:=by
 unfold headW at h
 split at h
 ·cases h
 split at h
 ·cases h
 split at h
 ·cases h
 obtain ⟨h3,h⟩:=need_ok h
 obtain ⟨h4,h⟩:=need_ok h
 grind
theorem wpol_ok:∀(n d:Nat),d+n=5→∀(idw mid:Nat) (m:MetD) (p:PolD) (h:Heap),WalkAt h idw mid m→
  FnOK Tryd.prog 12 [.ptr idw 0,polA p, .v (.int .i64 d)] h fun x h' =>x= .v (.int .i64 (polW m d p).err)∧Keeps [idw,mid] h h'∧∀m',polW m d p= .ok m'→WalkAt h' idw mid m'
 |n,d,hd,idw,mid,m, .mk id set alg tgt rules kids obls,h,hw=>by
  refine FnOK.body hU hm Tryd.func12 rfl (by kernel_rfl) 52 rfl [.tmp 6] rfl (Nat.le_of_ble_eq_true rfl) (fun hwf=> ?_)
  simp -implicitDefEqProofs only [go_sem,polA,tgtA,oblsA]
  intro ip hip
  have n1:idw≠ip:=fun e=>by have:=hw.1; rw [e,hip] at this; cases this
  have n2:mid≠ip:=fun e=>by have:=hw.2.1; rw [e,hip] at this; cases this
  have hwb:=hw.keep (Sub.upd_new (k:=some (.obj [.s id, .v (.bool set), .v (.int .i64 alg), .sl (tgt.map anyA) .no, .sl (rules.map ruleA) .no, .sl (kidsA kids) .no, .sl (obls.map oblA) .no] 28)) hip)
  have hk0:Keeps [idw,mid] h (upd h ip (some (.obj [.s id, .v (.bool set), .v (.int .i64 alg), .sl (tgt.map anyA) .no, .sl (rules.map ruleA) .no, .sl (kidsA kids) .no, .sl (obls.map oblA) .no] 28))):= .of (.upd_new hip)
  obtain ⟨hb,ehb⟩:∃hb,upd h ip (some (.obj [.s id, .v (.bool set), .v (.int .i64 alg), .sl (tgt.map anyA) .no, .sl (rules.map ruleA) .no, .sl (kidsA kids) .no, .sl (obls.map oblA) .no] 28))=hb:=⟨_,rfl⟩
  have hbip:hb ip=some (.obj [.s id, .v (.bool set), .v (.int .i64 alg), .sl (tgt.map anyA) .no, .sl (rules.map ruleA) .no, .sl (kidsA kids) .no, .sl (obls.map oblA) .no] 28):=by rw [←ehb]; exact upd_same ..
  rw [ehb] at hwb hk0⊢
  cases d0:decide (4<(d:Int))
  case true=>
   have e0:4<d:=by grind
   simp -implicitDefEqProofs only [go_sem,d0]
   exact .same (.refl _) ⟨by rw [polW_deep e0]; rfl,hk0,fun m' h' =>by grind [polW_deep]⟩
  have e0:¬4<d:=by grind
  simp -implicitDefEqProofs only [go_sem,d0,hbip]
  have hhead:=whead_ok idw mid m id set alg tgt rules kids obls hb hwb
  simp only [polA,tgtA,oblsA] at hhead
  refine hhead.mono fun x h2 ⟨ex,hk,hw2⟩=> ?_
  subst ex
  have hk2:=hk0.trans hk
  cases hh:headW m id set alg tgt rules.length kids.length obls with
  |bad e=>
   have hne:=headW_bad hh
   have t1:(e !=0)=true:=by grind
   simp -implicitDefEqProofs only [go_sem,Went.err,t1]
   exact .same (.refl _) ⟨by rw [polW_head e0 hh]; rfl,hk2,fun m' h' =>by grind [polW_head]⟩
  |ok m1=>
   have hw2:=hw2 _ hh
   have hle:=(headW_ok hh).2.2.2.2.2.2.2
   have hip2:=hk ip _ (by grind) hbip
   simp -implicitDefEqProofs only [go_sem,Went.err,hip2,List.length_map]
   refine .intro (fun k ρ h' =>∃(i:Nat) (mi:MetD),i≤rules.length∧k=rules.length - i∧rulesW m1 (rules.take i)= .ok mi∧Keeps [idw,mid] h h'∧WalkAt h' idw mid mi∧
    h' ip=some (.obj [.s id, .v (.bool set), .v (.int .i64 alg), .sl (tgt.map anyA) .no, .sl (rules.map ruleA) .no, .sl (kidsA kids) .no, .sl (obls.map oblA) .no] 28)∧
    lk ρ 0=some (.ptr idw 0)∧lk ρ 2=some (.v (.int .i64 d))∧lk ρ 4=some (.ptr ip 0)∧lk ρ 23=some (.sl (rules.map ruleA) .no)∧lk ρ 24=some (.v (.int .i64 rules.length))∧lk ρ 25=some (.v (.int .i64 i))) rules.length ?_ ?_
   ·refine ⟨0,m1,by omega,rfl,rfl,hk2,hw2,hip2, ?_, ?_, ?_, ?_, ?_, ?_⟩<;>simp -implicitDefEqProofs only [go_sem]
   ·rintro k ρ h' ⟨i,mi,hi,rfl,hri,hki,hwi,hipi,r0,r2,r4,r23,r24,r25⟩
    simp -implicitDefEqProofs only [go_sem,r24,r25]
    refine .intro (fun e=> ?_) (fun e=> ?_)
    ·have hlt:i<rules.length:=Int.ofNat_lt.1 (of_decide_eq_true e)
     have w1:IntKind.i64.wrap ((i:Int)+1)=((i+1:Nat):Int):=by grind [wr64]
     simp -implicitDefEqProofs only [go_sem,r23,r25]
     refine .at i (by grind) (by rw [List.getElem_map]; rfl) ?_
     simp -implicitDefEqProofs only [go_sem,List.getElem_map,ruleA]
     intro ir hir
     have hrl:=wrule_ok idw mid mi rules[i] _ (hwi.keep (Sub.upd_new (k:=some (.obj [.s rules[i].id, .v (.bool rules[i].deny),tgtA rules[i].tgt,condA rules[i].cond,oblsA rules[i].obls] 37)) hir))
     simp only [ruleA] at hrl
     simp -implicitDefEqProofs only [go_sem,r0]
     refine hrl.mono fun x h3 ⟨ex,hk3,hw3⟩=> ?_
     subst ex
     have hk4:=(hki.trans (.of (Sub.upd_new hir))).trans hk3
     have hip3:=hk3 ip _ (by grind) ((Sub.upd_new hir) _ _ hipi)
     cases hx:ruleW mi rules[i] with
     |bad x=>
      have t1:(x !=0)=true:=by grind [ruleW_bad]
      simp -implicitDefEqProofs only [go_sem,Went.err,t1]
      have hp:=polW_rules (d:=d) (kids:=kids) e0 hh (rulesW_stop hlt hri hx)
      exact .same (.refl _) ⟨by rw [hp]; rfl,hk4,fun m' h' =>by grind⟩
     |ok m3=>
      simp -implicitDefEqProofs only [go_sem,r25,Went.err,w1]
      refine ⟨_, ?_,i+1,m3,by omega,rfl,by grind [rulesW_next],hk4,hw3 _ hx,hip3, ?_, ?_, ?_, ?_, ?_, ?_⟩
      ·omega
      all_goals simp -implicitDefEqProofs only [go_sem,r0,r2,r4,r23,r24]
    ·have hge:i=rules.length:=by grind
     subst hge
     rw [List.take_length] at hri
     have hpk:=polW_kids (d:=d) (kids:=kids) e0 hh hri
     simp -implicitDefEqProofs only [go_sem,r4,hipi,kidsA_eq,List.length_map]
     refine .intro (fun k ρ h' =>∃(i:Nat) (mj:MetD),i≤kids.length∧k=kids.length - i∧kidsW mi (d+1) (kids.take i)= .ok mj∧Keeps [idw,mid] h h'∧WalkAt h' idw mid mj∧
      lk ρ 0=some (.ptr idw 0)∧lk ρ 2=some (.v (.int .i64 d))∧lk ρ 37=some (.sl (kids.map polA) .no)∧lk ρ 38=some (.v (.int .i64 kids.length))∧lk ρ 39=some (.v (.int .i64 i))) kids.length ?_ ?_
     ·refine ⟨0,mi,by omega,rfl,rfl,hki,hwi, ?_, ?_, ?_, ?_, ?_⟩<;>simp -implicitDefEqProofs only [go_sem,r0,r2]
     ·rintro k ρ h' ⟨i,mj,hi,rfl,hkj,hki,hwi,r0,r2,r37,r38,r39⟩
      simp -implicitDefEqProofs only [go_sem,r38,r39]
      refine .intro (fun e=> ?_) (fun e=> ?_)
      ·have hlt:i<kids.length:=Int.ofNat_lt.1 (of_decide_eq_true e)
       have w1:IntKind.i64.wrap ((i:Int)+1)=((i+1:Nat):Int):=by grind [wr64]
       have w2:IntKind.i64.wrap ((d:Int)+1)=((d+1:Nat):Int):=by grind [wr64]
       obtain ⟨n',rfl⟩:∃n',n=n' +1:=⟨n - 1,by omega⟩
       have hrec:=wpol_ok n' (d+1) (by omega) idw mid mj kids[i]
       cases hki' :kids[i] with
       |mk kid kset kalg ktgt krules kkids kobls=>
       rw [hki'] at hrec
       simp only [polA,tgtA,oblsA] at hrec
       simp -implicitDefEqProofs only [go_sem,r37,r39]
       refine .at i (by grind) (by grind [polA_len]) ?_
       simp -implicitDefEqProofs only [go_sem,List.getElem_map,hki',polA,tgtA,oblsA]
       intro ir hir
       simp -implicitDefEqProofs only [go_sem,r0,r2,w2]
       refine (hrec _ (hwi.keep (Sub.upd_new hir))).mono fun x h3 ⟨ex,hk3,hw3⟩=> ?_
       subst ex
       have hk4:=(hki.trans (.of (Sub.upd_new hir))).trans hk3
       cases hx:polW mj (d+1) (.mk kid kset kalg ktgt krules kkids kobls) with
       |bad x=>
        have t1:(x !=0)=true:=by simpa using polW_bad n' (d+1) _ _ _ (by omega) hx
        simp -implicitDefEqProofs only [go_sem,Went.err,t1]
        have hp:=kidsW_stop hlt hkj (by rw [hki']; exact hx)
        exact .same (.refl _) ⟨by rw [hpk,hp]; rfl,hk4,fun m' h' =>by grind⟩
       |ok m3=>
        simp -implicitDefEqProofs only [go_sem,r39,Went.err,w1]
        refine ⟨_, ?_,i+1,m3,by omega,rfl,by grind [kidsW_next],hk4,hw3 _ hx, ?_, ?_, ?_, ?_, ?_⟩
        ·omega
        all_goals simp -implicitDefEqProofs only [go_sem,r0,r2,r37,r38]
      ·have hge:i=kids.length:=by grind
       subst hge
       rw [List.take_length] at hkj
       simp -implicitDefEqProofs only [go_sem]
       exact .same (.refl _) ⟨by rw [hpk,hkj]; rfl,hki,fun m' h' =>by grind⟩
theorem ne_new {h:Heap} {i j:Nat} {b} (e:upd h i (some b) j=none):j≠i:=fun hh=>by
 subst hh; rw [upd_same] at e; cases e
theorem right_ok (p) (h):FnOK Tryd.prog 5 [polA p] h fun r h' =>r= .v (.int .i64 (rightE p))∧h' =h:=by
 cases p with
 |mk id set alg tgt rules kids obls=>
 refine FnOK.body hU hm Tryd.func5 rfl (by kernel_rfl) 10 rfl [.tmp 2] rfl (Nat.le_of_ble_eq_true rfl) (fun hwf=> ?_)
 simp -implicitDefEqProofs only [go_sem,polA,tgtA,oblsA]
 intro ip hip
 simp -implicitDefEqProofs only [go_sem]
 intro im him
 simp -implicitDefEqProofs only [go_sem]
 intro iw hiw
 have n1:=ne_new him
 have n2:=ne_new hiw
 have hiw1:=hiw
 rw [upd_other _ _ n2] at hiw1
 have n3:=ne_new hiw1
 have s1:Ab.Sub h (upd (upd (upd h ip (some (.obj [.s id, .v (.bool set), .v (.int .i64 alg), .sl (tgt.map anyA) .no, .sl (rules.map ruleA) .no, .sl (kidsA kids) .no, .sl (obls.map oblA) .no] 28))) im (some (.mp []))) iw (some (.obj [.mp im, .v (.int .i64 0)] 47))):=
  ((Sub.upd_new hip).trans (.upd_new him)).trans (.upd_new hiw)
 obtain ⟨h3,e3⟩:∃h3,upd (upd (upd h ip (some (.obj [.s id, .v (.bool set), .v (.int .i64 alg), .sl (tgt.map anyA) .no, .sl (rules.map ruleA) .no, .sl (kidsA kids) .no, .sl (obls.map oblA) .no] 28))) im (some (.mp []))) iw (some (.obj [.mp im, .v (.int .i64 0)] 47))=h3:=⟨_,rfl⟩
 have g1:h3 ip=some (.obj [.s id, .v (.bool set), .v (.int .i64 alg), .sl (tgt.map anyA) .no, .sl (rules.map ruleA) .no, .sl (kidsA kids) .no, .sl (obls.map oblA) .no] 28):=by
  rw [←e3,upd_other _ _ n3.symm,upd_other _ _ n1.symm,upd_same]
 have g2:WalkAt h3 iw im ⟨[],0⟩:=by
  refine ⟨by rw [←e3,upd_same]; rfl,by rw [←e3,upd_other _ _ n2.symm,upd_same]; rfl,fun l hl=>(by grind),by decide⟩
 have hi0:h im=none:=by grind [upd_other]
 have hw0:h iw=none:=by grind [upd_other]
 simp -implicitDefEqProofs only [go_sem]
 rw [e3] at s1⊢
 simp -implicitDefEqProofs only [go_sem,g1]
 have hp:=wpol_ok 4 1 rfl iw im ⟨[],0⟩ (.mk id set alg tgt rules kids obls) h3 g2
 refine hp.mono fun x h4 ⟨ex,hk,_⟩=> ?_
 subst ex
 simp -implicitDefEqProofs only [go_sem]
 refine .mk _ (.refl _) (fun j k hj=> ?_) ⟨rfl,rfl⟩
 refine hk j k ?_ (s1 _ _ hj)
 grind
end Go.Proofs.YtcgcjihjhlenkaaDoor

set_option linter.unusedSimpArgs false
set_option linter.unusedVariables false
namespace Go.Proofs.YtcgcjihjhlenkaaDoor
open Go Go.Ab Go.Bf
set_option maxRecDepth 100000 in
theorem policies_ok:∀(p q:PolD) (h:Heap),FnOK Tryd.prog 10 [polA p,polA q] h fun r h' =>r= .v (.bool (eqP p q))∧h' =h
 | .mk i1 s1 a1 t1 r1 k1 o1, .mk i2 s2 a2 t2 r2 k2 o2,h=>by
  have ihk:∀(j:Nat) (hj:j<k1.length) (q:PolD) (h:Heap),FnOK Tryd.prog 10 [polA k1[j],polA q] h fun r h' =>r= .v (.bool (eqP k1[j] q))∧h' =h:=
   fun j hj q h=>policies_ok k1[j] q h
  refine FnOK.body hU hm Tryd.func10 rfl (by kernel_rfl) 134 rfl [.tmp 4] rfl (Nat.le_of_ble_eq_true rfl) (fun hwf=> ?_)
  have hlen:k1.length<9223372036854775808∧r1.length<9223372036854775808:=by
   have:=hwf (polA (.mk i1 s1 a1 t1 r1 k1 o1)) (by simp)
   simp only [polA,wfA] at this
   have g1:=this (.sl (kidsA k1) .no) (by simp)
   have g2:=this (.sl (r1.map ruleA) .no) (by simp)
   simp only [wf1,List.length_map,kidsA_eq] at g1 g2
   exact ⟨g1,g2⟩
  simp -implicitDefEqProofs only [go_sem,polA,tgtA,oblsA]
  intro ia hia
  simp -implicitDefEqProofs only [go_sem]
  intro ib hib
  have nab:=ne_new hib
  have hs0:=fun b=>(Sub.upd_new hia).trans (.upd_new (k:=b) hib)
  generalize hH:upd (upd h ia _) ib _=hb
  have hs0:Ab.Sub h hb:=by rw [←hH]; exact hs0 _
  have ga:hb ia=some (.obj [.s i1, .v (.bool s1), .v (.int .i64 a1), .sl (t1.map anyA) .no, .sl (r1.map ruleA) .no, .sl (kidsA k1) .no, .sl (o1.map oblA) .no] 28):=by rw [←hH,upd_other _ _ nab.symm,upd_same]
  have gb:hb ib=some (.obj [.s i2, .v (.bool s2), .v (.int .i64 a2), .sl (t2.map anyA) .no, .sl (r2.map ruleA) .no, .sl (kidsA k2) .no, .sl (o2.map oblA) .no] 28):=by rw [←hH,upd_same]
  clear hH
  have bad:eqP (.mk i1 s1 a1 t1 r1 k1 o1) (.mk i2 s2 a2 t2 r2 k2 o2)=false→(.v (.bool false):AV)= .v (.bool (eqP (.mk i1 s1 a1 t1 r1 k1 o1) (.mk i2 s2 a2 t2 r2 k2 o2)))∧h=h:=fun e=>⟨by rw [e],rfl⟩
  cases d1:(i1==i2)
  case false=>
   simp -implicitDefEqProofs only [go_sem,ga,gb,d1]
   exact .mk _ (.refl _) hs0 (bad (by simp [eqP,d1]))
  cases d2:(s1==s2)
  case false=>
   simp -implicitDefEqProofs only [go_sem,ga,gb,d1,d2]
   exact .mk _ (.refl _) hs0 (bad (by simp only [eqP,d2,Bool.false_and,Bool.and_false]))
  cases d3:(a1==a2)
  case false=>
   have d3' :(a1 !=a2)=true:=by simp only [bne,d3,Bool.not_false]
   simp -implicitDefEqProofs only [go_sem,ga,gb,d1,d2,d3']
   exact .mk _ (.refl _) hs0 (bad (by simp only [eqP,d3,Bool.false_and,Bool.and_false]))
  have d3' :(a1 !=a2)=false:=by simp only [bne,d3,Bool.not_true]
  have f1:=targets_ok t1 t2 hb
  have f2:=sameObl_ok o1 o2 hb
  simp only [tgtA] at f1
  simp only [oblsA] at f2
  simp -implicitDefEqProofs only [go_sem,ga,gb,d1,d2,d3']
  refine f1.pthen ?_
  cases d4:eqT t1 t2
  case false=>
   simp -implicitDefEqProofs only [go_sem,ga,gb,d4]
   exact .mk _ (.refl _) hs0 (bad (by simp only [eqP,d4,Bool.false_and,Bool.and_false]))
  simp -implicitDefEqProofs only [go_sem,ga,gb,d4]
  refine f2.pthen ?_
  cases d5:eqL eqObl o1 o2
  case false=>
   simp -implicitDefEqProofs only [go_sem,ga,gb,d5]
   exact .mk _ (.refl _) hs0 (bad (by simp only [eqP,d5,Bool.false_and,Bool.and_false]))
  cases d6:((r1.length:Int) !=(r2.length:Int))
  case true=>
   have e6:r1.length≠r2.length:=by intro e; rw [e] at d6; simp at d6
   simp -implicitDefEqProofs only [go_sem,ga,gb,d5,List.length_map,d6]
   exact .mk _ (.refl _) hs0 (bad (by simp only [eqP,eqL_len e6,Bool.false_and,Bool.and_false]))
  have e6:r1.length=r2.length:=by have:(r1.length:Int)=r2.length:=(by simpa using d6); omega
  cases d7:((k1.length:Int) !=(k2.length:Int))
  case true=>
   have e7:k1.length≠k2.length:=by intro e; rw [e] at d7; simp at d7
   simp -implicitDefEqProofs only [go_sem,ga,gb,d5,List.length_map,d6,kidsA_eq,d7]
   exact .mk _ (.refl _) hs0 (bad (by simp only [eqP,eqK_eqL,eqL_len e7,Bool.false_and,Bool.and_false]))
  have e7:k1.length=k2.length:=by have:(k1.length:Int)=k2.length:=(by simpa using d7); omega
  simp -implicitDefEqProofs only [go_sem,ga,gb,d5,List.length_map,d6,kidsA_eq,d7]
  refine .intro (fun m ρ h' =>Ab.Sub hb h'∧∃i:Nat,i≤r1.length∧m=r1.length - i∧(∀j (h1:j<r1.length) (h2:j<r2.length),j<i→eqR r1[j] r2[j]=true)∧lk ρ 2=some (.ptr ia 0)∧lk ρ 3=some (.ptr ib 0)∧lk ρ 64=some (.v (.int .i64 r1.length))∧lk ρ 65=some (.v (.int .i64 i))) r1.length ?_ ?_
  ·refine ⟨.refl _,0,by omega,rfl,fun j _ _ hj=>(by omega), ?_, ?_, ?_, ?_⟩<;>simp -implicitDefEqProofs only [go_sem]
  ·rintro m ρ h' ⟨hs,i,hi,rfl,hc,q2,q3,q64,q65⟩
   have ga1:=hs _ _ ga
   have gb1:=hs _ _ gb
   simp -implicitDefEqProofs only [go_sem,q2,q3,q64,q65]
   refine .intro (fun e=> ?_) (fun e=> ?_)
   ·have hlt:i<r1.length:=Int.ofNat_lt.1 (of_decide_eq_true e)
    have hlt2:i<r2.length:=by omega
    have w1:IntKind.i64.wrap ((i:Int)+1)=((i+1:Nat):Int):=by rw [wr64 _ (by omega)]; omega
    simp -implicitDefEqProofs only [go_sem,q2,q3,q64,q65]
    refine .tree h' (.news [0,1,2,3,4,5,6,7,8,9] [10,11] (.seq [12,13])) (.refl _) (by kernel_rfl) rfl ?_
    simp -implicitDefEqProofs only [go_sem,q2,q3,q64,q65,ga1,gb1]
    refine .at i (by simpa using hlt) (by rw [List.getElem_map]; rfl) ?_
    simp -implicitDefEqProofs only [go_sem,q2,q3,q64,q65,ga1,gb1,List.getElem_map,ruleA]
    refine .at i (by simpa using hlt2) (by rw [List.getElem_map]; rfl) ?_
    simp -implicitDefEqProofs only [go_sem,q2,q3,q64,q65,ga1,gb1,List.getElem_map,ruleA]
    refine ⟨.refl _,by simp, ?_⟩
    intro j6 h6 j7 h7
    have n76:=ne_new h7
    have h7a:=h7
    rw [upd_other _ _ n76] at h7a
    have sb:=fun a b=>((Sub.refl h').put h6 a).put h7a b
    simp -implicitDefEqProofs only [go_sem,upd_ne,n76,n76.symm]
    refine ⟨(sb _ _).put h6 _,((sb _ _).put h6 _).put h7a _, ?_⟩
    generalize hH:upd (upd (upd (upd h' j6 _) j7 _) j6 _) j7 _=h2
    have hs2:Ab.Sub h' h2:=by rw [←hH]; exact ((sb _ _).put h6 _).put h7a _
    have g6:h2 j6=some (.obj [.s r1[i].id, .v (.bool r1[i].deny), .sl (r1[i].tgt.map anyA) .no, .sl (r1[i].cond.map nodeA) .no, .sl (r1[i].obls.map oblA) .no] 37):=by rw [←hH,upd_other _ _ n76.symm,upd_same]; rfl
    have g7:h2 j7=some (.obj [.s r2[i].id, .v (.bool r2[i].deny), .sl (r2[i].tgt.map anyA) .no, .sl (r2[i].cond.map nodeA) .no, .sl (r2[i].obls.map oblA) .no] 37):=by rw [←hH,upd_same]; rfl
    clear hH
    have hs3:=hs.trans hs2
    have f1:=targets_ok r1[i].tgt r2[i].tgt h2
    have f2:=sameNode_ok r1[i].cond r2[i].cond h2
    have f3:=sameObl_ok r1[i].obls r2[i].obls h2
    have bad2:eqR r1[i] r2[i]=false→(.v (.bool false):AV)= .v (.bool (eqP (.mk i1 s1 a1 t1 r1 k1 o1) (.mk i2 s2 a2 t2 r2 k2 o2)))∧h=h:=fun e=>bad (by
     simp only [eqP,eqL_at i hlt hlt2 e,Bool.false_and,Bool.and_false])
    cases c1:(r1[i].id==r2[i].id)
    case false=>
     simp -implicitDefEqProofs only [go_sem,q2,q3,q64,q65,g6,g7,c1]
     exact .mk _ (.refl _) (hs0.trans hs3) (bad2 (by simp only [eqR,c1,Bool.false_and,Bool.and_false]))
    cases c2:(r1[i].deny==r2[i].deny)
    case false=>
     simp -implicitDefEqProofs only [go_sem,q2,q3,q64,q65,g6,g7,c1,c2]
     exact .mk _ (.refl _) (hs0.trans hs3) (bad2 (by simp only [eqR,c2,Bool.false_and,Bool.and_false]))
    simp -implicitDefEqProofs only [go_sem,q2,q3,q64,q65,g6,g7,c1,c2]
    refine f1.pthen ?_
    cases c3:eqT r1[i].tgt r2[i].tgt
    case false=>
     simp -implicitDefEqProofs only [go_sem,q2,q3,q64,q65,g6,g7,c3]
     exact .mk _ (.refl _) (hs0.trans hs3) (bad2 (by simp only [eqR,c3,Bool.false_and,Bool.and_false]))
    simp -implicitDefEqProofs only [go_sem,q2,q3,q64,q65,g6,g7,c3]
    refine f2.pthen ?_
    cases c4:eqL eqNode r1[i].cond r2[i].cond
    case false=>
     simp -implicitDefEqProofs only [go_sem,q2,q3,q64,q65,g6,g7,c4]
     exact .mk _ (.refl _) (hs0.trans hs3) (bad2 (by simp only [eqR,c4,Bool.false_and,Bool.and_false]))
    simp -implicitDefEqProofs only [go_sem,q2,q3,q64,q65,g6,g7,c4]
    refine f3.pthen ?_
    cases c5:eqL eqObl r1[i].obls r2[i].obls
    case false=>
     simp -implicitDefEqProofs only [go_sem,q2,q3,q64,q65,g6,g7,c5]
     exact .mk _ (.refl _) (hs0.trans hs3) (bad2 (by simp only [eqR,c5,Bool.false_and,Bool.and_false]))
    simp -implicitDefEqProofs only [go_sem,q2,q3,q64,q65,g6,g7,c5,w1]
    refine ⟨_, ?_,hs3,i+1,by omega,rfl,fun j h1 h2 hj=> ?_, ?_, ?_, ?_, ?_⟩
    ·omega
    ·by_cases hji:j=i
     ·subst hji; simp only [eqR,c1,c2,c3,c4,c5,Bool.and_self]
     ·exact hc j h1 h2 (by omega)
    all_goals simp -implicitDefEqProofs only [go_sem,q2,q3,q64,q65,w1]
   ·have hge:i=r1.length:=by have:=of_decide_eq_false e; omega
    subst hge
    have hrr:eqL eqR r1 r2=true:=eqL_true e6 fun j h1 h2=>hc j h1 h2 h1
    simp -implicitDefEqProofs only [go_sem,q2,q3,q64,q65,ga1,gb1,kidsA_eq,List.length_map]
    refine .intro (fun m ρ h' =>Ab.Sub hb h'∧∃i:Nat,i≤k1.length∧m=k1.length - i∧(∀j (h1:j<k1.length) (h2:j<k2.length),j<i→eqP k1[j] k2[j]=true)∧lk ρ 2=some (.ptr ia 0)∧lk ρ 3=some (.ptr ib 0)∧lk ρ 117=some (.v (.int .i64 k1.length))∧lk ρ 118=some (.v (.int .i64 i))) k1.length ?_ ?_
    ·refine ⟨hs,0,by omega,rfl,fun j _ _ hj=>(by omega), ?_, ?_, ?_, ?_⟩<;>simp -implicitDefEqProofs only [go_sem,q2,q3]
    ·rintro m ρ h' ⟨hs,i,hi,rfl,hc,q2,q3,q117,q118⟩
     have ga1:=hs _ _ ga
     have gb1:=hs _ _ gb
     simp -implicitDefEqProofs only [go_sem,q2,q3,q117,q118]
     refine .intro (fun e=> ?_) (fun e=> ?_)
     ·have hlt:i<k1.length:=Int.ofNat_lt.1 (of_decide_eq_true e)
      have hlt2:i<k2.length:=by omega
      have w1:IntKind.i64.wrap ((i:Int)+1)=((i+1:Nat):Int):=by rw [wr64 _ (by omega)]; omega
      have ihi:=ihk i hlt k2[i] h'
      simp -implicitDefEqProofs only [go_sem,q2,q3,q117,q118,ga1,gb1]
      refine .quiet (by kernel_rfl) ?_
      simp -implicitDefEqProofs only [go_sem,q2,q3,q117,q118,ga1,gb1,kidsA_eq]
      cases ek1:k1[i] with
      |mk x1 x2 x3 x4 x5 x6 x7=>
      cases ek2:k2[i] with
      |mk y1 y2 y3 y4 y5 y6 y7=>
      have ihi2:=ihi
      rw [ek1,ek2] at ihi
      simp only [polA,tgtA,oblsA] at ihi
      refine .at i (by simpa using hlt) (by rw [List.getElem_map]; exact polA_len _) ?_
      simp -implicitDefEqProofs only [go_sem,q2,q3,q117,q118,ga1,gb1,List.getElem_map,ek1,polA,tgtA,oblsA,kidsA_eq]
      refine .at i (by simpa using hlt2) (by rw [List.getElem_map]; exact polA_len _) ?_
      simp -implicitDefEqProofs only [go_sem,q2,q3,q117,q118,ga1,gb1,List.getElem_map,ek2,polA,tgtA,oblsA,kidsA_eq]
      simp only [kidsA_eq] at ihi
      refine ⟨_,ihi, ?_⟩
      rw [←ek1,←ek2]
      cases c6:eqP k1[i] k2[i]
      ·simp -implicitDefEqProofs only [go_sem,q2,q3,q117,q118]
       exact .mk _ (.refl _) (hs0.trans hs) (bad (by simp only [eqP,eqK_eqL,eqL_at i hlt hlt2 c6,Bool.and_false]))
      ·simp -implicitDefEqProofs only [go_sem,q2,q3,q117,q118,w1]
       refine ⟨_, ?_,hs,i+1,by omega,rfl,fun j h1 h2 hj=> ?_, ?_, ?_, ?_, ?_⟩
       ·omega
       ·by_cases hji:j=i
        ·subst hji; exact c6
        ·exact hc j h1 h2 (by omega)
       all_goals simp -implicitDefEqProofs only [go_sem,q2,q3,q117,q118,w1]
     ·have hge:i=k1.length:=by have:=of_decide_eq_false e; omega
      subst hge
      have hkk:eqL eqP k1 k2=true:=eqL_true e7 fun j h1 h2=>hc j h1 h2 h1
      simp -implicitDefEqProofs only [go_sem,q2,q3,q117,q118]
      exact .mk _ (.refl _) (hs0.trans hs) ⟨by simp only [eqP,d1,d2,d3,d4,d5,hrr,eqK_eqL,hkk,Bool.and_self]; rfl,rfl⟩
termination_by p=>SizeOf.sizeOf p
decreasing_by
 have:=List.sizeOf_lt_of_mem (List.getElem_mem hj)
 simp only [PolD.mk.sizeOf_spec]
 omega
end Go.Proofs.YtcgcjihjhlenkaaDoor

set_option linter.unusedSimpArgs false
set_option linter.unusedVariables false
namespace Go.Ab
open Go
inductive Av (F:Nat→Prop):AV→Prop where
 |v (x:Value):Av F (.v x)
 |s (l:List UInt8):Av F (.s l)
 |agg (xs:List AV) (h:∀x∈xs,Av F x):Av F (.agg xs)
 |tup (xs:List AV) (h:∀x∈xs,Av F x):Av F (.tup xs)
 |sl (xs:List AV) (p:Perm) (h:∀x∈xs,Av F x) (hp:∀id,p= .own id→¬F id):Av F (.sl xs p)
 |pe (x:AV) (o:Nat) (h:Av F x):Av F (.pe x o)
 |ptr (id o:Nat) (h:¬F id):Av F (.ptr id o)
 |oa (id o l:Nat) (h:¬F id):Av F (.oa id o l)
 |ob (id o l c z:Nat) (h:¬F id):Av F (.ob id o l c z)
 |ifc (t:TypeId) (x:AV) (h:Av F x):Av F (.ifc t x)
 |fn (f:FuncId) (xs:List AV) (h:∀x∈xs,Av F x):Av F (.fn f xs)
 |mp (id:Nat) (h:¬F id):Av F (.mp id)
theorem Av.cells {F} {x} (h:Av F x):∀y∈x.cells,Av F y:=by
 cases h with
 |agg xs hx=>exact hx
 |_=>intro y hy; rw [List.mem_singleton.1 hy]; constructor<;>assumption
theorem Av.of_cells {F} {x} (h:∀y∈x.cells,Av F y):Av F x:=by
 cases x with
 |agg xs=>exact .agg xs h
 |_=>exact h _ (List.mem_singleton.2 rfl)
theorem Rep.av {c} {F} (hF:∀id,F id→c.h id=none) {x} {u} (h:Rep c x u):Av F x:=by
 have nf:∀ {id:Nat} {k:Blk},c.h id=some k→¬F id:=fun hk hf=>by grind
 induction h with
 |v x=>exact .v x
 |s l hl=>exact .s l
 |agg xs vs hn hr ho ih=>exact .agg xs fun x hx=>by obtain ⟨i,hi,rfl⟩:=List.mem_iff_getElem.1 hx; grind
 |tup xs vs hn hr ih=>exact .tup xs fun x hx=>by obtain ⟨i,hi,rfl⟩:=List.mem_iff_getElem.1 hx; grind
 |sl xs p a cap sz val hc hm h0 hs hz hf hr ho hp ih=>
  refine .sl xs p (fun x hx=> ?_) fun id e=> ?_
  ·obtain ⟨i,hi,rfl⟩:=List.mem_iff_getElem.1 hx
   refine .of_cells fun y hy=> ?_
   obtain ⟨j,hj,rfl⟩:=List.mem_iff_getElem.1 hy
   grind
  ·subst e
   obtain ⟨m,h1,_⟩:=hp
   grind
 |pe x off b o val hb hf hr ho ih=>
  refine .pe x off (.of_cells fun y hy=> ?_)
  obtain ⟨j,hj,rfl⟩:=List.mem_iff_getElem.1 hy
  grind
 |ptr id off cs t h=>exact .ptr _ _ (nf h)
 |oa id off len cap o cs t h hc hm ho=>exact .oa _ _ _ (nf h)
 |ob id off len cap sz o cs t h hc hm ho=>exact .ob _ _ _ _ _ (nf h)
 |ifc t x u h ih=>exact .ifc t x ih
 |fn f xs vs hn hr ih=>exact .fn f xs fun x hx=>by obtain ⟨i,hi,rfl⟩:=List.mem_iff_getElem.1 hx; grind
 |mp id m h=>exact .mp _ (nf h)
noncomputable def Cx.back (c' :Cx) (g:Heap):Cx:= {c' with h:=fun id=>if g id=none then none else c'.h id}
theorem back_some {c' :Cx} {g:Heap} {id:Nat} {k:Blk} (h:(c'.back g).h id=some k):g id≠none∧c'.h id=some k:=by
 grind [Cx.back]
theorem back_at {c' :Cx} {g:Heap} {id:Nat} (h:g id≠none):(c'.back g).h id=c'.h id:=by
 simp_all [Cx.back,if_false]
theorem back_owned {c'} {g} {b o} (h:owned (c'.back g) b o):owned c' b o:=by
 obtain ⟨id,k,h1,h2,h3⟩:=h
 exact ⟨id,k,(back_some h1).2,h2,h3⟩
theorem back_fix {c'} {g} {b o} {u} (h:fix c' b o u):fix (c'.back g) b o u:=⟨h.1,fun ho=>h.2 (back_owned ho)⟩
theorem Rep.back {c' :Cx} {g:Heap} {x:AV} {u:Value} (h:Rep c' x u) (ha:Av (fun id=>g id=none) x):Rep (c'.back g) x u:=by
 induction h with
 |v x=>exact .v x
 |s l hl=>exact .s l hl
 |agg xs vs hn hr ho ih=>cases ha with|agg _ ha=>exact .agg xs vs hn (by grind) ho
 |tup xs vs hn hr ih=>cases ha with|tup _ ha=>exact .tup xs vs hn (by grind)
 |sl xs p a cap sz val hc hm h0 hs hz hf hr ho hp ih=>
  cases ha with
  |sl _ _ ha hq=>
   refine .sl xs p a cap sz val hc hm h0 hs hz (by grind [back_fix]) (fun i hi j hj=>ih i hi j hj ((ha _ (List.getElem_mem hi)).cells _ (List.getElem_mem hj))) ho ?_
   cases p with
   |no=>trivial
   |full=>exact hp
   |own id=>
    obtain ⟨m,h1,h2,h3⟩:=hp
    exact ⟨m,by rw [back_at (hq id rfl)]; omega,h2,h3⟩
 |pe x off b o val hb hf hr ho ih=>
  cases ha with
  |pe _ _ ha=>exact .pe x off b o val hb (by grind [back_fix]) (fun j hj=>ih j hj (ha.cells _ (List.getElem_mem hj))) ho
 |ptr id off cs t h=>cases ha with|ptr _ _ ha=>exact .ptr id off cs t (by grind [back_at])
 |oa id off len cap o cs t h hc hm ho=>cases ha with|oa _ _ _ ha=>exact .oa id off len cap o cs t (by grind [back_at]) hc hm ho
 |ob id off len cap sz o cs t h hc hm ho=>cases ha with|ob _ _ _ _ _ ha=>exact .ob id off len cap sz o cs t (by grind [back_at]) hc hm ho
 |ifc t x u h ih=>cases ha with|ifc _ _ ha=>exact .ifc t x u (ih ha)
 |fn f xs vs hn hr ih=>cases ha with|fn _ _ ha=>exact .fn f xs vs hn (by grind)
 |mp id m h=>cases ha with|mp _ ha=>exact .mp id m (by grind [back_at])
inductive Frz (g h:Heap):AV→AV→Prop where
 |keep (x:AV) (ha:Av (fun id=>g id=none) x):Frz g h x x
 |agg (xs ys:List AV) (hn:xs.length=ys.length) (hr:∀i (h1:i<xs.length) (h2:i<ys.length),Frz g h xs[i] ys[i]):Frz g h (.agg xs) (.agg ys)
 |tup (xs ys:List AV) (hn:xs.length=ys.length) (hr:∀i (h1:i<xs.length) (h2:i<ys.length),Frz g h xs[i] ys[i]):Frz g h (.tup xs) (.tup ys)
 |sl (xs ys:List AV) (p:Perm) (hn:xs.length=ys.length) (hz:∀i (h1:i<xs.length) (h2:i<ys.length),xs[i].cells.length=ys[i].cells.length)
   (hr:∀i (h1:i<xs.length) (h2:i<ys.length) j (h3:j<xs[i].cells.length) (h4:j<ys[i].cells.length),Frz g h xs[i].cells[j] ys[i].cells[j]):Frz g h (.sl xs p) (.sl ys .no)
 |ob (id off len cap sz:Nat) (cs:List AV) (t:TypeId) (ys:List AV) (hg:g id=none) (hh:h id=some (.obj cs t)) (hl:off+len*sz≤cs.length) (hn:ys.length=len) (hz:∀i (h1:i<ys.length),ys[i].cells.length=sz)
   (hr:∀i (h1:i<ys.length) j (h3:j<ys[i].cells.length) (h4:off+(i*sz+j)<cs.length),Frz g h (cs[off+(i*sz+j)]) ys[i].cells[j]):Frz g h (.ob id off len cap sz) (.sl ys .no)
 |ptr (id off:Nat) (cs:List AV) (t:TypeId) (ys:List AV) (hg:g id=none) (hh:h id=some (.obj cs t)) (hn:cs.length=ys.length) (hr:∀i (h1:i<cs.length) (h2:i<ys.length),Frz g h cs[i] ys[i]):Frz g h (.ptr id off) (.pe (.agg ys) off)
 |ifc (t:TypeId) (x y:AV) (hr:Frz g h x y):Frz g h (.ifc t x) (.ifc t y)
theorem Frz.rep {c' :Cx} {g h:Heap} (gd:Good c') (hh:Sub h c'.h) {x y:AV} (hz:Frz g h x y):∀ {u:Value},Rep c' x u→Rep (c'.back g) y u:=by
 have nown:∀ {id:Nat} {k:Blk} {o:Nat},g id=none→h id=some k→¬owned (c'.back g) (c'.φ id).block o:=fun {id k o} h1 h2 ho=>by
  obtain ⟨j,l,h3,h4,h5⟩:=ho
  obtain ⟨h6,h7⟩:=back_some h3
  exact gd.inj j id l k h7 (hh _ _ h2) (fun e=>h6 (by grind)) h4
 induction hz with
 |keep x ha=>exact fun hr=>hr.back ha
 |agg xs ys hn hr ih=>
  intro u hu
  obtain ⟨vs,rfl,h1,h2,h3⟩:=hu.agg_inv
  exact .agg ys vs (by omega) (fun i hi=>ih i (by omega) hi (h2 i (by omega))) fun i hi=>h3 i (by omega)
 |tup xs ys hn hr ih=>
  intro u hu
  obtain ⟨vs,rfl,h1,h2⟩:=hu.tup_inv
  exact .tup ys vs (by omega) (fun i hi=>ih i (by omega) hi (h2 i (by omega)))
 |sl xs ys p hn hz hr ih=>
  intro u hu
  obtain ⟨a,cap,sz,val,rfl,hs⟩:=hu.sl_inv
  rw [hn]
  have hcap:=hs.hc
  refine .sl ys .no a cap sz val (by omega) hs.hm hs.h0 hs.hs (fun i hi=>by rw [←hz i (by omega) hi]; exact hs.hz i (by omega)) (fun q hq i j hi hj=>back_fix (hs.hf q hq i j (by omega) hj)) (fun i hi j hj=> ?_) (fun i j hi hj=>hs.ho i j (by omega) hj) trivial
  exact ih i (by omega) hi j (by grind) hj (hs.hr i (by omega) j (by grind))
 |ob id off len cap sz cs t ys hg hid hl hn hz hr ih=>
  intro u hu
  obtain ⟨o,rfl,h1,h2,cs',t',h3,h4⟩:=hu.ob_inv
  have hcid:=hh _ _ hid
  obtain ⟨vs,v1,v2,v3⟩:=gd.obj id cs t hcid
  subst hn
  have hbd:∀i j,i<ys.length→j<sz→i*sz+j<ys.length*sz:=fun i j hi hj=>by
   have:(i+1)*sz≤ys.length*sz:=Nat.mul_le_mul_right _ (by omega)
   rw [Nat.add_mul,Nat.one_mul] at this
   omega
  refine .sl ys .no _ cap sz (fun i j=>vs.getD (off+(i*sz+j)) undef) h1 h2 (fun e=>by cases e) (fun q hq _=> ?_) hz (fun q hq i j hi hj=> ?_) (fun i hi j hj=> ?_) (fun i j hi hj=>(v3 _ (by grind)).2) trivial
  ·cases hq
   exact ⟨rfl,gd.lt hcid⟩
  ·cases hq
   obtain ⟨rfl,_⟩:=h4 (by omega)
   have hb:=hbd i j hi hj
   refine ⟨?_,nown hg hid⟩
   have:o+(i*sz+j)<vs.size:=by omega
   simp [World.cell?,Cx.back,v1,this]
  ·have hj' :j<sz:=by grind
   have hb:=hbd i j hi hj'
   exact ih i hi j hj (by omega) (v3 _ (by omega)).1
 |ptr id off cs t ys hg hid hn hr ih=>
  intro u hu
  obtain ⟨rfl,_⟩:=hu.ptr_inv
  have hcid:=hh _ _ hid
  obtain ⟨vs,v1,v2,v3⟩:=gd.obj id cs t hcid
  have:=Rep.pe (c:=c'.back g) (.agg ys) off (c'.φ id).block 0 (fun j=>vs.getD j undef) (gd.lt hcid) (fun j hj=>by
    have hj' :j<ys.length:=hj
    refine ⟨?_,nown hg hid⟩
    simp_all [World.cell?,Cx.back]) (fun j hj=>by
    have hj' :j<ys.length:=hj
    exact ih j (by omega) hj' (v3 j (by omega)).1) (fun j hj=>by
    have hj' :j<ys.length:=hj
    exact (v3 j (by omega)).2)
  rw [Nat.zero_add] at this
  exact this
 |ifc t x y hr ih=>
  intro u hu
  cases hu with
  |ifc _ _ u' h=>exact .ifc t y _ (ih h)
theorem FnOK.freeze {P:Program} {f:FuncId} {args:List AV} {h:Heap} {Q:AV→Prop}
  (hf:∀g,Sub h g→(∀x∈args,Av (fun id=>g id=none) x)→FnOK P f args g fun r h' =>Sub g h'∧∃y,Frz g h' r y∧Q y):FnOK P f args h fun r h' =>Q r∧h' =h:=by
 intro c vs hs gd h1 h2
 have hav:∀x∈args,Av (fun id=>c.h id=none) x:=fun x hx=>by
  obtain ⟨i,hi,rfl⟩:=List.mem_iff_getElem.1 hx
  exact (h2 i hi).av fun _ e=>e
 refine (hf c.h hs hav c vs (.refl _) gd h1 h2).mono ?_
 rintro u w' ⟨c',x,h',rfl,gd',hE,hr,hsub,hgh,y,hz,hq⟩
 have hkeep:∀id k,c.h id=some k→c'.h id=some k:=fun id k hk=>hsub _ _ (hgh _ _ hk)
 have hE2:Ext c (c'.back c.h):= {
  os:=hE.os,tape:=hE.tape,output:=hE.output,size:=hE.size,block:=hE.block,cell:=hE.cell,shape:=hE.shape
  steal:=fun b o hb ho=>hE.steal b o hb (back_owned ho)
  obj:=fun id cs t hi=>by rw [back_at (by grind)]; exact hE.obj id cs t hi
  spare:=fun id n sz hi=>by rw [back_at (by grind)]; exact hE.spare id n sz hi
  mp:=fun id m hi=>by rw [back_at (by grind)]; exact hE.mp id m hi
  ro:=fun id b vs hi=>by rw [back_at (by grind)]; exact hE.ro id b vs hi}
 have hold:∀id k,(c'.back c.h).h id=some k→c.h id=some k∧c'.h id=some k:=fun id k hk=>by
  obtain ⟨a1,a2⟩:=back_some hk
  cases hc:c.h id with
  |none=>grind
  |some k' =>grind
 refine ⟨c'.back c.h,y,h,rfl, ?_,hE2,hz.rep gd' hsub hr,fun id k hk=> ?_,hq,rfl⟩
 ·refine ⟨?_,fun i j k l hi hj hne=>gd'.inj i j k l (hold i k hi).2 (hold j l hj).2 hne,fun id cs t hi=> ?_,fun id n sz hi=>gd'.spare id n sz (hold id _ hi).2,fun id m hi=> ?_,fun id m hi=>gd'.keys id m (hold id _ hi).2,fun id b vs hi=>gd'.ro id b vs (hold id _ hi).2⟩
  ·obtain ⟨N,hN⟩:=gd'.fin
   exact ⟨N,fun id hid=>by grind [Cx.back]⟩
  ·obtain ⟨vs,v1,v2,v3⟩:=gd'.obj id cs t (hold id _ hi).2
   obtain ⟨vs0,w1,w2,w3⟩:=gd.obj id cs t (hold id _ hi).1
   exact ⟨vs,v1,v2,fun j hj=>⟨(v3 j hj).1.back ((w3 j hj).1.av fun _ e=>e),(v3 j hj).2⟩⟩
  ·obtain ⟨es,cl,v1,v2,v3⟩:=gd'.mp id m (hold id _ hi).2
   obtain ⟨es0,cl0,w1,w2,w3⟩:=gd.mp id m (hold id _ hi).1
   exact ⟨es,cl,v1,v2,fun i hi' hi2=>⟨(v3 i hi' hi2).1,(v3 i hi' hi2).2.back ((w3 i hi' (by omega)).2.av fun _ e=>e)⟩⟩
 ·rw [back_at (by rw [hs _ _ hk]; simp)]
  exact hkeep id k (hs _ _ hk)
end Go.Ab

set_option linter.unusedSimpArgs false
set_option linter.unusedVariables false
namespace Go.Ab
open Go
section
variable {P : Program} {U : TypeId → TI} {ρ : Env} {h h' : Heap} {sz : Nat} {y : AV} {xs : List AV} {e : TypeId}
def Rd (h:Heap) (sz:Nat) (y:AV) (xs:List AV):Prop:=
 Sized sz xs∧((∃q,y= .sl xs q)∨∃id off cap cs t,y= .ob id off xs.length cap sz∧h id=some (.obj cs t)∧off+xs.length*sz≤cs.length∧(cs.drop off).take (xs.length*sz)=flatA xs)
theorem Rd.sl (hs:Sized sz xs) (q:Perm):Rd h sz (.sl xs q) xs:=⟨hs, .inl ⟨q,rfl⟩⟩
theorem Rd.sub (hb:Rd h sz y xs) (hs:Sub h h'):Rd h' sz y xs:=by
 obtain ⟨h1,hb|⟨id,off,cap,cs,t,rfl,h2,h3⟩⟩:=hb
 ·exact ⟨h1, .inl hb⟩
 ·exact ⟨h1, .inr ⟨id,off,cap,cs,t,rfl,hs _ _ h2,h3⟩⟩
theorem Rd.len (hb:Rd h sz y xs) (e:TypeId) (k:AV→Prop):lenK y k (.slice e)=k (.v (.int .i64 xs.length)):=by
 obtain ⟨_,⟨q,rfl⟩|⟨id,off,cap,cs,t,rfl,_⟩⟩:=hb<;>rfl
theorem Rd.cells (hb:Rd h sz y xs):y.cells= [y]:=by
 obtain ⟨_,⟨q,rfl⟩|⟨id,off,cap,cs,t,rfl,_⟩⟩:=hb<;>rfl
theorem Rd.agg (hb:Rd h sz y xs):isAggA y=false:=by
 obtain ⟨_,⟨q,rfl⟩|⟨id,off,cap,cs,t,rfl,_⟩⟩:=hb<;>rfl
theorem Rd.fit (hb:Rd h sz y xs) (m:Nat):fit y m=(m=1):=by
 obtain ⟨_,⟨q,rfl⟩|⟨id,off,cap,cs,t,rfl,_⟩⟩:=hb<;>rfl
theorem Rd.src (hb:Rd h sz y xs) (hz:(U e).sz=sz) {f:List AV→Prop} (hf:f xs):srcA U e h y f:=by
 obtain ⟨_,⟨q,rfl⟩|⟨id,off,cap,cs,t,rfl,h2,h3,h4⟩⟩:=hb
 ·exact hf
 ·rw [srcA_ob,h2]
  exact ⟨hz.symm,xs,rfl,h3,h4.symm,hf⟩
def At (h:Heap) (p x:AV) (o:Nat):Prop:=p= .pe x o∨∃id a cs t,p= .ptr id (a+o)∧h id=some (.obj cs t)∧a+x.cells.length≤cs.length∧(cs.drop a).take x.cells.length=x.cells
theorem At.sub {p x:AV} {o:Nat} (ha:At h p x o) (hs:Sub h h'):At h' p x o:=by
 rcases ha with rfl|⟨id,a,cs,t,rfl,h2,h3⟩
 ·exact .inl rfl
 ·exact .inr ⟨id,a,cs,t,rfl,hs _ _ h2,h3⟩
theorem partA_drop {cs:List AV} {x:AV} {a o:Nat} {i:TI} {k:AV→Prop} (h1:a+x.cells.length≤cs.length) (h2:(cs.drop a).take x.cells.length=x.cells) (h3:i.sz≠0) (h4:o+i.sz≤x.cells.length):partA cs (a+o) i k=partA x.cells o i k:=by
 unfold partA
 split
 ·have e:(cs.drop (a+o)).take i.sz=(x.cells.drop o).take i.sz:=by
   grind [List.drop_take,List.drop_drop,Nat.min_eq_left]
  apply propext
  grind
 grind
theorem At.part {p x} {o} (ha:At h p x o) {ty} (hz:(U ty).sz≠0) (hl:o+(U ty).sz≤x.cells.length) (k):loadA U h ty p k=partA x.cells o (U ty) k:=by
 rcases ha with rfl|⟨id,a,cs,t,rfl,h2,h3,h4⟩
 ·rw [loadA_pe]
  unfold atA
  split
  ·rename_i hc
   obtain ⟨rfl,hc2,hc3⟩:=hc
   unfold partA
   split
   ·rename_i hag
    rw [hag] at hc3
    have:x= .agg x.cells:=by cases x<;>first|rfl|cases hc3
    rw [List.drop_zero,←hc2,List.take_length,Nat.zero_add,←this]
    simp
   simp_all [isAggA,false,cells_one]
  ·rfl
 ·rw [loadA_ptr,h2]
  exact partA_drop h3 h4 hz hl
theorem At.all {p x} (ha:At h p x 0) {ty} (hz:(U ty).sz≠0) (hl:x.cells.length=(U ty).sz) (hg:isAggA x=(U ty).k.agg) (k):loadA U h ty p k=k x:=by
 rw [ha.part hz (by omega)]
 unfold partA
 split
 ·rename_i hag
  rw [hag] at hg
  have:x= .agg x.cells:=by cases x<;>first|rfl|cases hg
  rw [List.drop_zero,←hl,List.take_length,Nat.zero_add,←this]
  simp
 simp_all [isAggA,false,cells_one]
theorem At.field {p x} {o} (ha:At h p x o) {f off} {t} {fs} {K} (hf:fs[f]? =some (off,t)) (hz:(U t).sz≠0) (hk:∀p',At h p' x (o+off)→K p'):faddrK U f p K (.strct fs):=by
 rcases ha with rfl|⟨id,a,cs,t',rfl,h2,h3,h4⟩
 ·rw [faddrK_pe,hf]
  exact ⟨hz,hk _ (.inl rfl)⟩
 ·rw [faddrK_ptr,hf]
  exact ⟨hz,hk _ (.inr ⟨id,a,cs,t',by grind,h2,h3,h4⟩)⟩
theorem Rd.idx (hb:Rd h sz y xs) {m:Int} {x:IntKind} {K:AV→Prop} (j:Nat) (hm:m=j) (hj:j<xs.length) (hz:(U e).sz=sz) (h0:sz≠0) (hk:∀p,At h p xs[j] 0→K p):iaddrK U y (.v (.int x m)) K (.slice e):=by
 subst hm
 have hc:=hb.1 xs[j] (List.getElem_mem hj)
 obtain ⟨hs,⟨q,rfl⟩|⟨id,off,cap,cs,t,rfl,h2,h3,h4⟩⟩:=hb
 ·refine (iaddrK_sl ..).mpr ⟨by omega, ?_⟩
  exact IdxE.at j hj (by omega) (hk _ (.inl rfl))
 ·refine (iaddrK_ob ..).mpr ⟨by omega,hz.symm,by omega,by omega,hk _ (.inr ⟨id,off+j*sz,cs,t,by simp,h2, ?_, ?_⟩)⟩
  ·have:(j+1)*sz≤xs.length*sz:=Nat.mul_le_mul_right _ (by omega)
   rw [Nat.add_mul,Nat.one_mul] at this
   rw [hc]; omega
  ·have e1:=flatA_part hs j hj
   rw [←h4,List.drop_take,List.take_take,List.drop_drop] at e1
   rw [hc]
   have:(j+1)*sz≤xs.length*sz:=by grind
   rw [Nat.add_mul,Nat.one_mul] at this
   rw [Nat.min_eq_left (by omega)] at e1
   exact e1
def Ow (tb:TypeId) (h:Heap) (sz id:Nat) (y:AV) (xs:List AV):Prop:=
 ∃cap rest,y= .ob id 0 xs.length cap sz∧h id=some (.obj (flatA xs++rest) tb)∧rest.length=(cap - xs.length)*sz∧xs.length≤cap∧Sized sz xs
variable {tb : TypeId} {id : Nat}
theorem Ow.rd (hw:Ow tb h sz id y xs):Rd h sz y xs:=by
 obtain ⟨cap,rest,rfl,h1,h2,h3,h4⟩:=hw
 have hl:=flatA_length h4
 exact ⟨h4, .inr ⟨id,0,cap,_,tb,rfl,h1,by grind,by grind⟩⟩
theorem Ow.sub (hw:Ow tb h sz id y xs) (hs:Sub h h'):Ow tb h' sz id y xs:=by
 obtain ⟨cap,rest,e1,h1,h2⟩:=hw
 exact ⟨cap,rest,e1,hs _ _ h1,h2⟩
theorem Ow.same (hw:Ow tb h sz id y xs) (hs:h' id=h id):Ow tb h' sz id y xs:=by
 obtain ⟨cap,rest,e1,h1,h2⟩:=hw
 exact ⟨cap,rest,e1,hs.trans h1,h2⟩
theorem Ow.none (hw:Ow tb h sz id y xs):h id≠Option.none:=by
 obtain ⟨cap,rest,e1,h1,h2⟩:=hw
 grind
theorem Ow.make {cs:List AV} {cap:Nat} {rest:List AV} (hs:Sized sz xs) (hcs:cs=flatA xs) {n:Nat} (hn:n=xs.length) (hc:n≤cap) (hr:rest.length=(cap - n)*sz):Ow tb (upd h id (some (.obj (cs++rest) tb))) sz id (.ob id 0 n cap sz) xs:=by
 subst hcs; subst hn
 exact ⟨cap,rest,rfl,upd_same ..,hr,hc,hs⟩
theorem newOb.ow {cs:List AV} {n:Nat} {Q:AV→Heap→Prop} (hs:Sized sz xs) (hcs:cs=flatA xs) (hn:n=xs.length) (hk:∀id y h',h id=Option.none→Ow tb h' sz id y xs→(∀j,j≠id→h' j=h j)→Q y h'):newOb h cs n sz tb Q:=
 fun id cap rest hid hc hr=>hk id _ _ hid (Ow.make hs hcs hn hc hr) fun j hj=>upd_other _ _ hj
theorem over_app2 {us vs} {o} {c}:over (us++vs) (us.length+o) c=us++over vs o c:=by
 simp [Ab.over,Nat.add_assoc,List.take_length_add_append,List.drop_length_add_append,List.append_assoc]
theorem flatA_set {xs} (hs:Sized sz xs) (j) (hj:j<xs.length) (x) (hx:x.cells.length=sz):flatA (xs.set j x)=over (flatA xs) (j*sz) x.cells:=by
 induction xs generalizing j with
 |nil=>grind
 |cons a r ih=>
  have h1:=hs a (by simp)
  have h2:Sized sz r:=fun z hz=>hs z (by grind)
  cases j with
  |zero=>
   simp only [List.set_cons_zero,flatA_cons,Ab.over,Nat.zero_mul,List.take_zero,List.nil_append,Nat.zero_add]
   rw [hx,←h1,List.drop_left]
  |succ j=>
   have hj' :j<r.length:=by grind
   have e1:(j+1)*sz=a.cells.length+j*sz:=by grind
   rw [List.set_cons_succ,flatA_cons,flatA_cons,ih h2 j hj',e1,over_app2]
theorem flatA_put {xs} (hs:Sized sz xs) (j) (hj:j<xs.length) (o) (c) (ho:o+c.length≤sz):over (flatA xs) (j*sz+o) c=flatA (xs.set j (.agg (over xs[j].cells o c))):=by
 have hc:=hs xs[j] (List.getElem_mem hj)
 have hl:(over xs[j].cells o c).length=sz:=by grind [over_length]
 rw [flatA_set hs j hj (.agg (over xs[j].cells o c)) hl]
 have hp:=flatA_part hs j hj
 have e1:(flatA xs).take (j*sz+o)=(flatA xs).take (j*sz)++xs[j].cells.take o:=by
  rw [←hp,List.take_take,Nat.min_eq_left (by omega),List.take_add]
 have e2:(flatA xs).drop (j*sz+o+c.length)=xs[j].cells.drop (o+c.length)++(flatA xs).drop (j*sz+sz):=by
  have e3:(flatA xs).drop (j*sz)=xs[j].cells++(flatA xs).drop (j*sz+sz):=by
   grind [List.drop_drop,List.take_append_drop]
  rw [Nat.add_assoc,←List.drop_drop,e3,List.drop_append_of_le_length (by omega)]
 show over (flatA xs) (j*sz+o) c=over (flatA xs) (j*sz) (over xs[j].cells o c)
 grind [over,Ab.over,List.append_assoc]
theorem over_app {us vs} {o} {c} (h1:o+c.length≤us.length):over (us++vs) o c=over us o c++vs:=by
 grind [Ab.over,List.append_assoc]
theorem Ow.st (hw:Ow tb h sz id y xs) (j:Nat) (hj:j<xs.length) (o:Nat) {off n:Nat} {z:AV} {Q:AV→Heap→Prop} (hoff:off=j*sz+o) (hf:Ab.fit z n) (hn:z.cells.length=n) (ho:o+n≤sz)
  (hk:∀h',Ow tb h' sz id y (xs.set j (.agg (over xs[j].cells o z.cells)))→(∀k,k≠id→h' k=h k)→Q (.v undef) h'):
  bindO (h id) fun b=>objL b fun cs t' =>Ab.fit z n∧off+n≤cs.length∧Q (.v undef) (upd h id (some (.obj (over cs off z.cells) t'))):=by
 obtain ⟨cap,rest,rfl,h1,h2,h3,h4⟩:=hw
 have hl:=flatA_length h4
 have hb:(j+1)*sz≤xs.length*sz:=Nat.mul_le_mul_right _ (by omega)
 rw [h1]
 refine ⟨hf,by grind, ?_⟩
 have e1:over (flatA xs++rest) off z.cells=flatA (xs.set j (.agg (over xs[j].cells o z.cells)))++rest:=by
  grind [over_app,flatA_put]
 rw [e1]
 refine hk _ ⟨cap,rest,by simp,upd_same ..,by grind,by grind,fun w hw=> ?_⟩ fun k hk=>upd_other _ _ hk
 rcases List.mem_or_eq_of_mem_set hw with hw|rfl
 ·exact h4 w hw
 ·exact (over_length (by rw [h4 xs[j] (List.getElem_mem hj)]; omega)).trans (h4 xs[j] (List.getElem_mem hj))
theorem Ow.idx (hw:Ow tb h sz id y xs) {m:Int} {x:IntKind} {K:AV→Prop} (j:Nat) (hm:m=j) (hj:j<xs.length) (hz:(U e).sz=sz) (h0:sz≠0) (hk:K (.ptr id (j*sz))):iaddrK U y (.v (.int x m)) K (.slice e):=by
 obtain ⟨cap,rest,rfl,h1,h2,h3,h4⟩:=hw
 simp_all [iaddrK_ob,Nat.zero_add,Int.toNat_natCast]
theorem Ow.at (hw:Ow tb h sz id y xs) (j:Nat) (hj:j<xs.length):At h (.ptr id (j*sz)) xs[j] 0:=by
 obtain ⟨cap,rest,rfl,h1,h2,h3,h4⟩:=hw
 have hl:=flatA_length h4
 have hc:=h4 xs[j] (by simp)
 have hb:(j+1)*sz≤xs.length*sz:=Nat.mul_le_mul_right _ (by omega)
 refine .inr ⟨id,j*sz,_,tb,rfl,h1,by grind, ?_⟩
 grind [List.length_drop,flatA_part]
def OwE (tb:TypeId) (h0 h:Heap) (sz:Nat) (y:AV) (xs:List AV):Prop:=(xs= []∧y= .sl [] .full)∨∃id,h0 id=Option.none∧Ow tb h sz id y xs
variable {h0 : Heap}
theorem OwE.rd (hw:OwE tb h0 h sz y xs):Rd h sz y xs:=by
 rcases hw with ⟨rfl,rfl⟩|⟨id,_,hw⟩
 ·exact .sl (fun z hz=>by grind) _
 ·exact hw.rd
theorem OwE.sub (hw:OwE tb h0 h sz y xs) (hs:Sub h h'):OwE tb h0 h' sz y xs:=by
 rcases hw with hw|⟨id,h1,hw⟩
 ·exact .inl hw
 ·exact .inr ⟨id,h1,hw.sub hs⟩
theorem OwE.ow (hw:OwE tb h0 h sz y xs) (hn:xs≠ []):∃id,h0 id=Option.none∧Ow tb h sz id y xs:=by
 rcases hw with hw|hw
 ·grind
 omega
theorem OwE.app {v:AV} {zs:List AV} {Q:AV→Heap→Prop} (hw:OwE tb h0 h sz y xs) (hs0:Sub h0 h) (hb:Rd h sz v zs) (hz:(U tb).sz=sz) (h1:sz≠0) (hby:(U tb).bytes≠0) (hf:Ab.fit (U tb).zero sz) (hne:zs≠ []) (hlen:(xs.length+zs.length)*(U tb).bytes≤140737488355328)
  (hk:∀id y' h',h0 id=Option.none→(h id=Option.none∨∃l c,y= .ob id 0 l c sz)→Ow tb h' sz id y' (xs++zs)→(∀j,j≠id→h' j=h j)→Q y' h'):apK U h y v Q (.slice tb):=by
 subst hz
 rcases hw with ⟨rfl,rfl⟩|⟨id,h2,cap,rest,rfl,h3,h4,h5,h6⟩
 ·refine (apK_full ..).mpr ⟨h1,hby,hb.src rfl ⟨by simp [Sized],hb.1,by omega,fun hn=>(hne hn).elim,fun _=> ?_⟩⟩
  refine .ob hf (newOb.ow (by simpa using hb.1) (by rfl) (by simp) fun id y' h' hid hw ho=> ?_)
  exact hk id _ _ (hs0.none hid) (.inl hid) (by grind) ho
 ·have hl:=flatA_length h6
  refine ⟨h1,hby,rfl,hb.src rfl ⟨hb.1,hlen, ?_⟩⟩
  rw [h3]
  have hsz:Sized (U tb).sz (xs++zs):=fun z hz=>(List.mem_append.1 hz).elim (h6 z) (hb.1 z)
  refine ⟨by grind,hf,fun hle=> ?_,fun hgt=> ?_⟩
  ·have hlz:=flatA_length hb.1
   have hmul:(cap - xs.length)*(U tb).sz=zs.length*(U tb).sz+(cap - (xs.length+zs.length))*(U tb).sz:=by rw [←Nat.add_mul]; grind
   refine hk id _ _ h2 (.inr ⟨_,_,rfl⟩) ⟨cap,rest.drop (zs.length*(U tb).sz),by simp, ?_, ?_,by grind,hsz⟩ fun j hj=>upd_other _ _ hj
   ·simp_all [upd_same,flatA_app,Nat.zero_add,Ab.over,List.take_left,List.drop_append,List.drop_of_length_le]
   grind
  ·refine newOb.ow hsz ?_ (by simp) fun id' y' h' hid hw ho=> ?_
   ·grind [flatA_app,List.take_left]
   ·exact hk id' _ _ (hs0.none hid) (.inl hid) hw ho
end
end Go.Ab

set_option linter.unusedSimpArgs false
set_option linter.unusedVariables false
namespace Go.Ab
open Go
mutual
def pureB:AV→Bool
 | .v _=>true
 | .s _=>true
 | .agg xs=>pureL xs
 | .tup xs=>pureL xs
 | .sl xs (.own _)=>false
 | .sl xs _=>pureL xs
 | .pe x _=>pureB x
 | .ifc _ x=>pureB x
 |_=>false
def pureL:List AV→Bool
 | []=>true
 |x::r=>pureB x && pureL r
end
mutual
theorem pureB_av {F:Nat→Prop}:∀x:AV,pureB x=true→Av F x
 | .v x,_=> .v x
 | .s l,_=> .s l
 | .agg xs,h=> .agg xs (pureL_av xs (by simpa [pureB] using h))
 | .tup xs,h=> .tup xs (pureL_av xs (by simpa [pureB] using h))
 | .sl xs .no,h=> .sl xs .no (pureL_av xs (by simpa [pureB] using h)) fun _ e=>by cases e
 | .sl xs .full,h=> .sl xs .full (pureL_av xs (by simpa [pureB] using h)) fun _ e=>by cases e
 | .sl xs (.own _),h=>by simp [pureB] at h
 | .pe x o,h=> .pe x o (pureB_av x (by simpa [pureB] using h))
 | .ptr i o,h=>by simp [pureB] at h
 | .oa i o l,h=>by simp [pureB] at h
 | .ifc t x,h=> .ifc t x (pureB_av x (by simpa [pureB] using h))
 | .fn f c,h=>by simp [pureB] at h
 | .mp i,h=>by simp [pureB] at h
 | .ob i o l c z,h=>by simp [pureB] at h
theorem pureL_av {F:Nat→Prop}:∀xs:List AV,pureL xs=true→∀x∈xs,Av F x
 | [],_,x,hx=>by cases hx
 |y::r,h,x,hx=>by
  simp only [pureL,Bool.and_eq_true] at h
  rcases List.mem_cons.1 hx with e|e
  ·rw [e]; exact pureB_av y h.1
  ·exact pureL_av r h.2 x e
end
theorem pureL_map {α:Type} {f:α→AV} (hf:∀a,pureB (f a)=true):∀l:List α,pureL (l.map f)=true
 | []=>rfl
 |a::r=>by simp [pureL,hf a,pureL_map hf r]
theorem pureL_mem {xs} (h:pureL xs=true):∀x∈xs,pureB x=true:=by
 induction xs with
 |nil=>simp
 |cons y r ih=>
  simp_all [pureL,Bool.and_eq_true,List.mem_cons]
theorem pureB_cells {x} (h:pureB x=true):∀c∈x.cells,pureB c=true:=by
 cases x with
 |agg cs=>exact pureL_mem (show pureL cs=true by grind [pureB])
 |_=>intro c hc; rw [List.mem_singleton.1 hc]; exact h
theorem Frz.pure {g h} {x} (hx:pureB x=true):Frz g h x x:= .keep x (pureB_av x hx)
theorem Ow.frz {g h:Heap} {tb:TypeId} {sz id:Nat} {y:AV} {xs ys:List AV} (hw:Ow tb h sz id y xs) (hg:g id=Option.none) (hn:xs.length=ys.length) (hz:∀i (h1:i<xs.length) (h2:i<ys.length),xs[i].cells.length=ys[i].cells.length)
  (hr:∀i (h1:i<xs.length) (h2:i<ys.length) j (h3:j<xs[i].cells.length) (h4:j<ys[i].cells.length),Frz g h xs[i].cells[j] ys[i].cells[j]):Frz g h y (.sl ys .no):=by
 obtain ⟨cap,rest,rfl,h1,h2,h3,h4⟩:=hw
 have hl:=flatA_length h4
 refine .ob id 0 _ cap sz _ tb ys hg h1 (by grind) hn.symm (fun i hi=>by rw [←hz i (by omega) hi]; exact h4 _ (by simp)) fun i hi j hj hb=> ?_
 have hj' :j<sz:=by rw [←h4 xs[i] (by simp),hz i (by omega) hi]; omega
 have hbd:i*sz+j<xs.length*sz:=by
  have:(i+1)*sz≤xs.length*sz:=Nat.mul_le_mul_right _ (by omega)
  rw [Nat.add_mul,Nat.one_mul] at this
  omega
 have hjx:j<xs[i].cells.length:=by grind
 have e:(flatA xs++rest)[0+(i*sz+j)]? =some (xs[i].cells[j]):=by
  rw [Nat.zero_add,List.getElem?_append_left (by omega),flatA_get h4 (by omega) hj',List.getElem?_eq_getElem hjx]
 rw [List.getElem?_eq_getElem hb,Option.some.injEq] at e
 rw [e]
 exact hr i (by omega) hi j hjx hj
theorem OwE.frz {g h} {tb} {sz} {y} {xs} (hw:OwE tb g h sz y xs) (hp:pureL xs=true):Frz g h y (.sl xs .no):=by
 rcases hw with ⟨rfl,rfl⟩|⟨id,hg,hw⟩
 ·exact .sl [] [] .full rfl (by omega) (by simp)
 ·exact hw.frz hg rfl (by omega) fun i h1 h2 j h3 h4=> .pure (pureB_cells (pureL_mem hp _ (List.getElem_mem h1)) _ (by simp))
theorem Rd.nil {h} {sz} {y} {xs} {e} {Q} (hb:Rd h sz y xs) (hk:∀b:Bool,(xs≠ []→b=false)→Q (.v (.bool b)) h):nilK h .eql y Q (.slice e):=by
 obtain ⟨_,⟨q,rfl⟩|⟨id,off,cap,cs,t,rfl,_⟩⟩:=hb
 ·exact hk
 ·exact hk false fun _=>rfl
def nid:AV→Option Nat
 | .ob id _ _ _ _=>some id
 |_=>none
theorem OwE.nid {tb} {h0 h} {sz} {y} {xs} (hw:OwE tb h0 h sz y xs) {id} (e:Ab.nid y=some id):h0 id=Option.none∧h id≠Option.none∧Ow tb h sz id y xs:=by
 rcases hw with ⟨rfl,rfl⟩|⟨id',h1,hw⟩
 ·cases e
 ·obtain ⟨cap,rest,rfl,h2,h3⟩:=hw
  cases e
  exact ⟨h1,by grind,cap,rest,rfl,h2,h3⟩
theorem Ow.nid {tb} {h} {sz id} {y} {xs} (hw:Ow tb h sz id y xs):Ab.nid y=some id:=by
 obtain ⟨cap,rest,rfl,h2,h3⟩:=hw
 rfl
theorem OwE.keep {tb} {h0 h h'} {sz} {y} {xs} (hw:OwE tb h0 h sz y xs) (hs:∀id,Ab.nid y=some id→h' id=h id):OwE tb h0 h' sz y xs:=by
 rcases hw with hw|⟨id,h1,hw⟩
 ·exact .inl hw
 ·exact .inr ⟨id,h1,hw.same (hs id hw.nid)⟩
theorem OwE.less {tb} {h0 h1 h} {sz} {y} {xs} (hw:OwE tb h1 h sz y xs) (hs:Sub h0 h1):OwE tb h0 h sz y xs:=by
 rcases hw with hw|⟨id,a,hw⟩
 ·exact .inl hw
 ·exact .inr ⟨id,hs.none a,hw⟩
end Go.Ab
namespace Go.Proofs.YtcgcjihjhlenkaaDoor
open Go Go.Ab Go.Bf
theorem LoopC.join {P:Program} {U:TypeId→TI} {n:Nat} {c:Code} {K:Exit→Env→Heap→Prop} {ρ:Env} {h:Heap} (ex:Exit) (I:Env→Heap→Prop) (hK:∀ρ' H',I ρ' H'→K ex ρ' H') (hc:∀K' :Exit→Env→Heap→Prop,(∀ρ' H',I ρ' H'→K' ex ρ' H')→LoopC P U n c ρ h K'):LoopC P U n c ρ h K:=hc K hK
theorem CondC.join {P:Program} {U:TypeId→TI} {n:Nat} {a b:Code} {K:Exit→Env→Heap→Prop} {ρ:Env} {h:Heap} {y:AV} (I:Env→Heap→Prop) (hK:∀ρ' H',I ρ' H'→K .normal ρ' H') (hc:∀K' :Exit→Env→Heap→Prop,(∀ρ' H',I ρ' H'→K' .normal ρ' H')→CondC P U n a b ρ h K' y):CondC P U n a b ρ h K y:=hc K hK
theorem upd_none {h:Heap} {i j:Nat} {b} (e:upd h i (some b) j=none):h j=none:=by grind [upd_other,ne_upd]
theorem sized_map {α:Type} {f:α→AV} {n} (hf:∀a,(f a).cells.length=n) (l:List α):Sized n (l.map f):=fun z hz=>by
 grind
theorem uAll:(U 55).sz=1:=by rfl
theorem uAny:(U 56).sz=1:=by rfl
theorem pure_tgt (t):pureB (tgtA t)=true:=by
 refine pureL_map (fun a=> ?_) t
 refine pureL_map (fun b=> ?_) a
 exact pureL_map (fun _=>rfl) b
theorem pure_cond (l):pureB (condA l)=true:=by simp only [condA,pureB]; exact pureL_map (fun _=>rfl) l
theorem pure_obls (l):pureB (oblsA l)=true:=by simp only [oblsA,pureB]; exact pureL_map (fun _=>rfl) l
theorem pure_rule (r):pureB (ruleA r)=true:=by simp [ruleA,pureB,pureL,pure_tgt,pure_cond,pure_obls]
mutual
theorem pure_pol:∀p:PolD,pureB (polA p)=true
 | .mk id set alg tgt rules kids obls=>by simp [polA,pureB,pureL,pure_tgt,pure_obls,pureL_map pure_rule rules,pure_kids kids]
theorem pure_kids:∀l:List PolD,pureL (kidsA l)=true
 | []=>rfl
 |k::r=>by simp [kidsA,pureL,pure_pol k,pure_kids r]
end
theorem polA_cells (p):(polA p).cells.length=7:=by cases p; rfl
theorem cond_le {l} (h:exprE l=0):l.length≤32:=by
 grind [exprE_zero]
theorem obls_le {l} (h:oblsE l=0):l.length≤8:=(oblsE_zero h).1
theorem ow_ne {tb} {h} {sz id i} {y} {xs cs} {t} (hw:Ow tb h sz id y xs) (hi:h i=some (.obj cs t)) (ht:t≠tb):id≠i:=by
 obtain ⟨cap,rest,rfl,h1,_⟩:=hw
 grind
theorem put_flat {sz} {xs} (hs:Sized sz xs) (j) (hj:j<xs.length) (o) (c) (ho:o+c.length≤sz) {rest}:
  (flatA xs++rest).take (j*sz+o)++c++(flatA xs++rest).drop (j*sz+o+c.length)=flatA (xs.set j (.agg (Ab.over xs[j].cells o c)))++rest:=by
 have hl:=flatA_length hs
 have hb:(j+1)*sz≤xs.length*sz:=Nat.mul_le_mul_right _ (by omega)
 rw [Nat.add_mul,Nat.one_mul] at hb
 have:=over_app (us:=flatA xs) (vs:=rest) (o:=j*sz+o) (c:=c) (by omega)
 rw [Ab.over] at this
 rw [this,flatA_put hs j hj o c ho]
theorem polC_mk (id) (set) (alg) (tgt) (rules) (kids) (obls):polA (.mk id set alg tgt rules kids obls)= .agg [.s id, .v (.bool set), .v (.int .i64 alg),tgtA tgt, .sl (rules.map ruleA) .no, .sl (kids.map polA) .no,oblsA obls]:=by simp [polA,kidsA_eq]
end Go.Proofs.YtcgcjihjhlenkaaDoor

set_option linter.unusedSimpArgs false
set_option linter.unusedVariables false
namespace Go.Ab
open Go
noncomputable def roH (h:Heap):Heap:=fun id=>match h id with
 |some (.ro b vs)=>some (.ro b vs)
 |_=>none
theorem roH_some {h} {id} {k} (hk:roH h id=some k):h id=some k∧∃b vs,k= .ro b vs:=by
 unfold roH at hk
 split at hk
 ·rename_i b vs e
  cases hk
  exact ⟨e,b,vs,rfl⟩
 ·cases hk
theorem roH_of {h} {id b} {vs} (hk:h id=some (.ro b vs)):roH h id=some (.ro b vs):=by
 unfold roH
 rw [hk]
theorem FnOK.lend {P} {f} {args args'} {h:Heap} {Q:AV→Prop} (hl:args.length=args'.length) (hz:∀i (h1:i<args.length) (h2:i<args'.length),Frz (roH h) h args[i] args'[i])
  (hq:∀r,Q r→(∃x,r= .v x)∨∃l,r= .s l) (hf:FnOK P f args' (roH h) fun r h' =>Q r∧h' =roH h):FnOK P f args h fun r h' =>Q r∧h' =h:=by
 intro c vs hs gd h1 h2
 have hno:∀b o,¬owned (c.back (roH h)) b o:=fun b o ho=>by
  obtain ⟨id,k,h3,h4,h5⟩:=ho
  obtain ⟨h6,h7⟩:=back_some h3
  cases hr:roH h id with
  |none=>exact h6 hr
  |some k' =>
   obtain ⟨h8,b',vs',rfl⟩:=roH_some hr
   rw [hs _ _ h8] at h7
   cases h7
   exact h5
 have hsub:Sub (roH h) (c.back (roH h)).h:=fun id k hk=>by
  rw [back_at (by rw [hk]; simp)]
  exact hs _ _ (roH_some hk).1
 have hgood:Good (c.back (roH h)):=by
  have hro:∀id k,(c.back (roH h)).h id=some k→c.h id=some k∧∃b vs,k= .ro b vs:=fun id k hk=>by
   obtain ⟨h6,h7⟩:=back_some hk
   refine ⟨h7, ?_⟩
   cases hr:roH h id with
   |none=>exact (h6 hr).elim
   |some k' =>
    obtain ⟨h8,b',vs',rfl⟩:=roH_some hr
    rw [hs _ _ h8] at h7
    cases h7
    exact ⟨_,_,rfl⟩
  refine ⟨?_,fun i j k l hi hj hne=>gd.inj i j k l (hro i k hi).1 (hro j l hj).1 hne,fun id cs t hi=> ?_,fun id n sz hi=> ?_,fun id m hi=> ?_,fun id m hi=> ?_,fun id b vs hi=>gd.ro id b vs (hro id _ hi).1⟩
  ·obtain ⟨N,hN⟩:=gd.fin
   exact ⟨N,fun id hid=>by grind [Cx.back]⟩
  all_goals
   obtain ⟨_,_,_,e⟩:=hro id _ hi
   cases e
 refine (hf (c.back (roH h)) vs hsub hgood (by omega) fun i hi=>(hz i (by omega) hi).rep gd hs (h2 i (by omega))).mono ?_
 rintro u w' ⟨c',x,h',rfl,gd',hE,hr,_,hQ,_⟩
 have hblk:∀b,b<c.w.heap.size→c'.w.heap[b]? =c.w.heap[b]? :=fun b hb=>hE.block b hb fun o=>hno b o
 have hlt:∀ {b:Nat} {y},c.w.heap[b]? =some y→b<c.w.heap.size:=fun hy=>by
  grind
 have hE2:Ext c {w:=c'.w,φ:=c.φ,h:=c.h}:= {
  os:=hE.os,tape:=hE.tape,output:=hE.output,size:=hE.size
  block:=fun b hb _=>hblk b hb
  cell:=fun b o hb _=>hE.cell b o hb (hno b o)
  shape:=fun b cs t fr hy=>⟨cs,fr,(hblk b (hlt hy)).trans hy,rfl⟩
  steal:=fun b o hb ho=>ho
  obj:=fun id cs t hi=>⟨rfl,cs,hi,rfl⟩
  spare:=fun id n sz hi=>⟨n,hi, .inl ⟨rfl,rfl⟩⟩
  mp:=fun id m hi=>⟨rfl,m,hi⟩
  ro:=fun id b vs hi=>⟨rfl,hi⟩}
 refine ⟨{w:=c'.w,φ:=c.φ,h:=c.h},x,h,rfl, ?_,hE2, ?_,hs,hQ,rfl⟩
 ·refine ⟨gd.fin,gd.inj,fun id cs t hi=> ?_,fun id n sz hi=> ?_,fun id m hi=> ?_,gd.keys,fun id b vs hi=> ?_⟩
  ·obtain ⟨vs,v1,v2,v3⟩:=gd.obj id cs t hi
   exact ⟨vs,(hblk _ (hlt v1)).trans v1,v2,fun j hj=>⟨(v3 j hj).1.mono hE2,(v3 j hj).2⟩⟩
  ·obtain ⟨v0,vs,t,fr,v1,v2⟩:=gd.spare id n sz hi
   exact ⟨v0,vs,t,fr,(hblk _ (hlt v1)).trans v1,v2⟩
  ·obtain ⟨es,cl,v1,v2,v3⟩:=gd.mp id m hi
   exact ⟨es,cl,(hblk _ (hlt v1)).trans v1,v2,fun i h1 h2=>⟨(v3 i h1 h2).1,(v3 i h1 h2).2.mono hE2⟩⟩
  ·obtain ⟨v0,t,fr,v1⟩:=gd.ro id b vs hi
   exact ⟨v0,t,fr,(hblk _ (hlt v1)).trans v1⟩
 ·rcases hq x hQ with ⟨v,rfl⟩|⟨l,rfl⟩
  ·cases hr; exact .v _
  ·cases hr with
   |s l hl=>exact .s l hl
end Go.Ab

set_option linter.unusedSimpArgs false
set_option linter.unusedVariables false
namespace Go.Ab
open Go
def WkL (xs ys:List AV):Prop:=xs.length=ys.length∧∀i (h1:i<xs.length) (h2:i<ys.length),xs[i].cells.length=ys[i].cells.length∧∀j (h3:j<xs[i].cells.length) (h4:j<ys[i].cells.length),Weak xs[i].cells[j] ys[i].cells[j]
theorem WkL.nil:WkL [] []:=⟨rfl,fun i h1=>by cases h1⟩
theorem WkL.weak {xs ys:List AV} (h:WkL xs ys) (q:Perm):Weak (.sl xs q) (.sl ys .no):= .deep xs ys q h.1 (fun i h1 h2=>(h.2 i h1 h2).1) fun i h1 h2 j h3 h4=>(h.2 i h1 h2).2 j h3 h4
theorem WkL.snoc {xs ys:List AV} (h:WkL xs ys) {x y:AV} (hx:x.cells.length=y.cells.length) (hw:∀j (h3:j<x.cells.length) (h4:j<y.cells.length),Weak x.cells[j] y.cells[j]):WkL (xs++ [x]) (ys++ [y]):=by
 have hl:=h.1
 refine ⟨by simp [hl],fun i h1 h2=> ?_⟩
 by_cases hi:i<xs.length
 ·have e1:(xs++ [x])[i]=xs[i]:=List.getElem_append_left hi
  have e2:(ys++ [y])[i]=ys[i]'(by omega):=List.getElem_append_left (by omega)
  simp only [e1,e2]
  exact h.2 i hi (by omega)
 ·obtain rfl:i=xs.length:=by simp at h1; omega
  have e1:(xs++ [x])[xs.length]=x:=by simp
  have e2:(ys++ [y])[xs.length]=y:=by rw [List.getElem_append_right (by omega)]; simp [hl]
  simp only [e1,e2]
  exact ⟨hx,hw⟩
theorem WkL.one {xs ys:List AV} (h:WkL xs ys) {x y:AV} (hx:x.cells= [x]) (hy:y.cells= [y]) (hw:Weak x y):WkL (xs++ [x]) (ys++ [y]):=by
 refine h.snoc (by rw [hx,hy]; rfl) fun j h3 h4=> ?_
 obtain rfl:j=0:=by rw [hx] at h3; simpa using h3
 simp only [hx,hy,List.getElem_cons_zero]
 exact hw
theorem WkL.sized1 {xs:List AV} {α:Type} {f:α→AV} {l:List α} (h:WkL xs (l.map f)) (hf:∀a,(f a).cells.length=1:=by intro a; rfl):Sized 1 xs:=fun z hz=>by
 obtain ⟨i,hi,rfl⟩:=List.mem_iff_getElem.1 hz
 have hl:=h.1
 rw [(h.2 i hi (by omega)).1,List.getElem_map,hf]
end Go.Ab
namespace Go.Proofs.YtcgcjihjhlenkaaDoor
open Go Go.Ab Go.Bf
theorem pol_split (p:PolD):∃a b c d e f g,p=PolD.mk a b c d e f g:=by
 cases p
 exact ⟨_,_,_,_,_,_,_,rfl⟩
def RuleW (v:AV) (r:RuleD):Prop:=∃q1 q2,v= .agg [.s r.id, .v (.bool r.deny),tgtA r.tgt, .sl (r.cond.map nodeA) q1, .sl (r.obls.map oblA) q2]
def RulesW (vs:List AV) (rs:List RuleD):Prop:=vs.length=rs.length∧∀i (h1:i<vs.length) (h2:i<rs.length),RuleW vs[i] rs[i]
theorem RulesW.snoc {vs:List AV} {rs:List RuleD} (h:RulesW vs rs) {v:AV} {r:RuleD} (hv:RuleW v r):RulesW (vs++ [v]) (rs++ [r]):=by
 have hl:=h.1
 refine ⟨by simp [hl],fun i h1 h2=> ?_⟩
 by_cases hi:i<vs.length
 ·have e1:(vs++ [v])[i]=vs[i]:=List.getElem_append_left hi
  have e2:(rs++ [r])[i]=rs[i]'(by omega):=List.getElem_append_left (by omega)
  rw [e1,e2]
  exact h.2 i hi (by omega)
 ·obtain rfl:i=vs.length:=by simp at h1; omega
  have e1:(vs++ [v])[vs.length]=v:=by simp
  have e2:(rs++ [r])[vs.length]=r:=by rw [List.getElem_append_right (by omega)]; simp [hl]
  rw [e1,e2]
  exact hv
theorem frz_rules {g h:Heap} {z:AV} {vs:List AV} {rs:List RuleD} (hw:OwE 37 g h 5 z vs) (hr:RulesW vs rs):Frz g h z (.sl (rs.map ruleA) .no):=by
 have hl:=hr.1
 rcases hw with ⟨rfl,rfl⟩|⟨id,h1,hw⟩
 ·have:rs= []:=by grind
  subst this
  exact .sl [] [] .full rfl (by omega) (by simp)
 ·refine hw.frz h1 (by simp [hl]) (fun i h1 h2=> ?_) fun i h1 h2 j h3 h4=> ?_
  ·obtain ⟨q1,q2,e⟩:=hr.2 i h1 (by omega)
   rw [e,List.getElem_map]
   rfl
  ·obtain ⟨q1,q2,e⟩:=hr.2 i h1 (by omega)
   have e2:(rs.map ruleA)[i]'h2= .agg [.s (rs[i]'(by omega)).id, .v (.bool (rs[i]'(by omega)).deny),tgtA (rs[i]'(by omega)).tgt,condA (rs[i]'(by omega)).cond,oblsA (rs[i]'(by omega)).obls]:=by rw [List.getElem_map]; rfl
   simp only [e,e2,AV.cells] at h3 h4⊢
   rcases j with _|_|_|_|_|j
   ·exact .pure rfl
   ·exact .pure rfl
   ·exact .pure (pure_tgt _)
   ·exact .sl _ _ _ rfl (fun _ _ _=>rfl) fun i h1 h2 j h3 h4=> .pure (pureB_cells (pureL_mem (pureL_map (fun _=>rfl) _) _ (List.getElem_mem h1)) _ (by simp))
   ·exact .sl _ _ _ rfl (fun _ _ _=>rfl) fun i h1 h2 j h3 h4=> .pure (pureB_cells (pureL_mem (pureL_map (fun _=>rfl) _) _ (List.getElem_mem h1)) _ (by simp))
   ·simp at h3; omega
theorem ro_ow {tb:TypeId} {h0 h:Heap} {sz:Nat} {y:AV} {xs:List AV} (hw:OwE tb h0 h sz y xs):OwE tb (roH h) h sz y xs:=by
 rcases hw with hw|⟨id,_,cap,rest,e,h1,h2⟩
 ·exact .inl hw
 ·exact .inr ⟨id,by unfold roH; rw [h1],cap,rest,e,h1,h2⟩
def PolW (h0 h:Heap) (x:AV) (p:PolD):Prop:=match p with
 | .mk id set alg tgt rules kids obls=>∃z vs qk qo,x= .agg [.s id, .v (.bool set), .v (.int .i64 alg),tgtA tgt,z, .sl (kids.map polA) qk, .sl (obls.map oblA) qo]∧OwE 37 h0 h 5 z vs∧RulesW vs rules
theorem PolW.frz {g h0 h:Heap} {x:AV} {p:PolD} (hx:PolW h0 h x p) (hg:∀ {z vs},OwE 37 h0 h 5 z vs→OwE 37 g h 5 z vs):Frz g h x (polA p):=by
 obtain ⟨id,set,alg,tgt,rules,kids,obls⟩:=p
 obtain ⟨z,vs,qk,qo,rfl,hw,hr⟩:=hx
 rw [polC_mk]
 refine .agg _ _ rfl fun j h1 h2=> ?_
 rcases j with _|_|_|_|_|_|_|j
 ·exact .pure rfl
 ·exact .pure rfl
 ·exact .pure rfl
 ·exact .pure (pure_tgt _)
 ·exact frz_rules (hg hw) hr
 ·exact .sl _ _ _ rfl (fun _ _ _=>rfl) fun i h1 h2 j h3 h4=> .pure (pureB_cells (pureL_mem (pureL_map pure_pol _) _ (List.getElem_mem h1)) _ (by simp))
 ·exact .sl _ _ _ rfl (fun _ _ _=>rfl) fun i h1 h2 j h3 h4=> .pure (pureB_cells (pureL_mem (pureL_map (fun _=>rfl) _) _ (List.getElem_mem h1)) _ (by simp))
 ·simp at h1; omega
theorem PolW.lend {f:FuncId} {h0 h:Heap} {x:AV} {p:PolD} {Q:AV→Prop} (hx:PolW h0 h x p) (hq:∀r,Q r→(∃x,r= .v x)∨∃l,r= .s l) (hf:FnOK Tryd.prog f [polA p] (roH h) fun r h' =>Q r∧h' =roH h):FnOK Tryd.prog f [x] h fun r h' =>Q r∧h' =h:=
 FnOK.lend (args' := [polA p]) rfl (fun i h1 h2=>by
  obtain rfl:i=0:=by simp at h1; omega
  exact hx.frz ro_ow) hq hf
theorem PolW.same {h0 h h' :Heap} {x:AV} {p:PolD} (hx:PolW h0 h x p) (hs:Ab.Sub h h'):PolW h0 h' x p:=by
 obtain ⟨id,set,alg,tgt,rules,kids,obls⟩:=p
 obtain ⟨z,vs,qk,qo,e,hw,hr⟩:=hx
 exact ⟨z,vs,qk,qo,e,hw.sub hs,hr⟩
end Go.Proofs.YtcgcjihjhlenkaaDoor

set_option linter.unusedSimpArgs false
set_option linter.unusedVariables false
namespace Go.Proofs.YtcgcjihjhlenkaaDoor
open Go Go.Ab Go.Bf
theorem target_cp (t:TgtD) (ht:tgtE t=0) (h:Heap):FnOK Tryd.prog 13 [tgtA t] h fun r h' =>r=tgtA t∧h' =h:=by
 obtain ⟨hl,he⟩:=tgtE_zero ht
 refine FnOK.body hU hm Tryd.func13 rfl (by kernel_rfl) 34 rfl [.tmp 2] rfl (Nat.le_of_ble_eq_true rfl) (fun hwf=> ?_)
 simp -implicitDefEqProofs only [go_sem,tgtA,List.length_map]
 refine .intro (fun m ρ h' =>∃(i:Nat) (y:AV) (ys:List AV),Acc U 56 h h' y ys∧WkL ys ((t.take i).map anyA)∧i≤t.length∧m=t.length - i∧lk ρ 3=some y∧lk ρ 9=some (.sl (t.map anyA) .no)∧lk ρ 10=some (.v (.int .i64 t.length))∧lk ρ 11=some (.v (.int .i64 i))) t.length ?_ ?_
 ·refine ⟨0,_,[], .full (.refl _), .nil,by omega,rfl, ?_, ?_, ?_, ?_⟩<;>simp -implicitDefEqProofs only [go_sem]
  all_goals rfl
 rintro m ρ h' ⟨i,y,ys,hy,hys,hi,rfl,r3,r9,r10,r11⟩
 by_cases hlt:i<t.length
 ·have t1:decide ((i:Int)<(t.length:Int))=true:=decide_eq_true (by omega)
  have w1:IntKind.i64.wrap ((i:Int)+1)=((i+1:Nat):Int):=by rw [IntWalk.i64_in _ (by omega)]; omega
  obtain ⟨ha0,hal,hae⟩:=anyE_zero (he _ (List.getElem_mem hlt))
  have hyl:=hys.1
  simp -implicitDefEqProofs only [go_sem,r9,r10,r11,t1]
  refine .at i (by simpa using hlt) (by rw [List.getElem_map]; rfl) ?_
  simp -implicitDefEqProofs only [go_sem,List.getElem_map,anyA,List.length_map]
  refine .intro (fun m ρ H=>∃(j:Nat) (z:AV) (zs:List AV),Acc U 55 h' H z zs∧WkL zs ((t[i].take j).map allA)∧j≤t[i].length∧m=t[i].length - j∧lk ρ 3=some y∧lk ρ 9=some (.sl (t.map anyA) .no)∧lk ρ 10=some (.v (.int .i64 t.length))∧lk ρ 11=some (.v (.int .i64 i))∧lk ρ 6=some z∧lk ρ 15=some (.sl (t[i].map allA) .no)∧lk ρ 16=some (.v (.int .i64 t[i].length))∧lk ρ 17=some (.v (.int .i64 j))) t[i].length ?_ ?_
  ·refine ⟨0,_,[], .full (.refl _), .nil,by omega,rfl, ?_, ?_, ?_, ?_, ?_, ?_, ?_, ?_⟩<;>simp -implicitDefEqProofs only [go_sem,r3,r9,r10,r11]
   all_goals rfl
  rintro m ρ H ⟨j,z,zs,hz,hzs,hj,rfl,r3,r9,r10,r11,r6,r15,r16,r17⟩
  by_cases hlt2:j<t[i].length
  ·have t2:decide ((j:Int)<(t[i].length:Int))=true:=decide_eq_true (by omega)
   have w2:IntKind.i64.wrap ((j:Int)+1)=((j+1:Nat):Int):=by rw [IntWalk.i64_in _ (by omega)]; omega
   have hml:=(allE_zero (hae _ (List.getElem_mem hlt2))).2.1
   have hzl:=hzs.1
   simp -implicitDefEqProofs only [go_sem,r15,r16,r17,t2]
   refine .at j (by simpa using hlt2) (by rw [List.getElem_map]; rfl) ?_
   simp -implicitDefEqProofs only [go_sem,r6,List.getElem_map,allA]
   refine ⟨sized_map (f:=matchA) (fun _=>rfl) _,by rw [List.length_map]; omega, .acc fun z0 H0 ha0 _=> ?_⟩
   rw [List.nil_append] at ha0
   obtain ⟨q0,rfl⟩:=ha0.row
   simp -implicitDefEqProofs only [go_sem]
   refine (hz.sub ha0.1).app (zs:= [.sl (t[i][j].map matchA) q0]) (by decide) (by decide) (fun k hk=>hk) (by rw [uAll]; exact hzs.sized1) (by rw [uAll]; intro w hw; rw [List.mem_singleton.1 hw]; rfl) (by simp only [go_sem,hzl,List.length_map,List.length_take,List.length_cons,List.length_nil]; omega) fun z' H' hz' _=> ?_
   simp -implicitDefEqProofs only [go_sem,r17,w2]
   refine ⟨_, ?_,j+1,z',_,hz', ?_,by omega,rfl, ?_, ?_, ?_, ?_, ?_, ?_, ?_, ?_⟩
   ·omega
   ·rw [List.take_succ_eq_append_getElem hlt2,List.map_append]
    exact hzs.one rfl rfl (.sl _ _)
   all_goals simp -implicitDefEqProofs only [go_sem,r3,r9,r10,r11,r15,r16]
  ·obtain rfl:j=t[i].length:=by omega
   have t2:decide ((t[i].length:Int)<(t[i].length:Int))=false:=decide_eq_false (by omega)
   rw [List.take_length] at hzs
   have hyH:=hy.sub hz.1
   obtain ⟨q,rfl⟩:=hz.row
   simp -implicitDefEqProofs only [go_sem,r3,r6,r15,r16,r17,t2]
   refine hyH.app (zs:= [.sl zs q]) (by decide) (by decide) (fun k hk=>hk) (by rw [uAny]; exact hys.sized1) (by rw [uAny]; intro w hw; rw [List.mem_singleton.1 hw]; rfl) (by simp only [go_sem,hyl,List.length_map,List.length_take,List.length_cons,List.length_nil]; omega) fun y' H' hy' _=> ?_
   simp -implicitDefEqProofs only [go_sem,r11,w1]
   refine ⟨_, ?_,i+1,y',_,hy', ?_,by omega,rfl, ?_, ?_, ?_, ?_⟩
   ·omega
   ·rw [List.take_succ_eq_append_getElem hlt,List.map_append]
    exact hys.one rfl rfl (hzs.weak q)
   all_goals simp -implicitDefEqProofs only [go_sem,r9,r10]
 ·obtain rfl:i=t.length:=by omega
  have t1:decide ((t.length:Int)<(t.length:Int))=false:=decide_eq_false (by omega)
  rw [List.take_length] at hys
  simp -implicitDefEqProofs only [go_sem,r3,r9,r10,r11,t1]
  obtain ⟨q,rfl⟩:=hy.row
  exact .mk (tgtA t) (hys.weak q) hy.1 ⟨rfl,rfl⟩
set_option maxRecDepth 100000 in
theorem copy_own:∀(p:PolD) (d:Nat),polE d p→∀h,FnOK Tryd.prog 7 [polA p] h fun r h' =>PolW h h' r p∧Ab.Sub h h'
 | .mk pid pset palg ptgt prules pkids pobls,d,hp,h=>by
  obtain ⟨_,_,_,_,_,_,ht,ho,hr16,hk16,hre,hke⟩:=hp
  rw [kidsE_eq] at hke
  have ih:∀(j:Nat) (hj:j<pkids.length) (h:Heap),FnOK Tryd.prog 7 [polA pkids[j]] h fun r h' =>r=polA pkids[j]∧h' =h:=fun j hj h=>FnOK.freeze fun g hg _=>(copy_own pkids[j] (d+1) (hke _ (List.getElem_mem hj)) g).mono fun r h' ⟨h1,h2⟩=>⟨h2,_,h1.frz fun x=>x,rfl⟩
  have hob:=obls_le ho
  rw [polC_mk]
  refine FnOK.body hU hm Tryd.func7 rfl (by kernel_rfl) 62 rfl [.cell 2 28] rfl (Nat.le_of_ble_eq_true rfl) (fun hwf=> ?_)
  simp -implicitDefEqProofs only [go_sem]
  intro i1 h1
  simp -implicitDefEqProofs only [go_sem]
  intro i2 h2
  have n21:=ne_upd h2
  have n2:=upd_none h2
  simp -implicitDefEqProofs only [go_sem]
  obtain ⟨H,eH⟩:∃H,upd (upd h i1 (some (.obj [.s pid, .v (.bool pset), .v (.int .i64 palg),tgtA ptgt, .sl (prules.map ruleA) .no, .sl (pkids.map polA) .no,oblsA pobls] 28))) i2 (some (.obj [.s [], .v (.bool false), .v (.int .i64 0), .sl [] .full, .sl [] .full, .sl [] .full, .sl [] .full] 28))=H:=⟨_,rfl⟩
  have hH:Ab.Sub h H:=by rw [←eH]; exact ((Sub.refl h).put h1 _).put n2 _
  have g1:H i1=some (.obj [.s pid, .v (.bool pset), .v (.int .i64 palg),tgtA ptgt, .sl (prules.map ruleA) .no, .sl (pkids.map polA) .no,oblsA pobls] 28):=by rw [←eH,upd_other _ _ n21.symm,upd_same]
  have g2:H i2=some (.obj [.s [], .v (.bool false), .v (.int .i64 0), .sl [] .full, .sl [] .full, .sl [] .full, .sl [] .full] 28):=by rw [←eH,upd_same]
  rw [eH]
  refine .stage (hm1 i1 _) [0,1,3,4,5,2,7,6] [8,9,10] (.hm1 g1) (by kernel_rfl) ?_
  simp -implicitDefEqProofs only [go_sem,hm1_same]
  refine (target_cp ptgt ht H).pthen ?_
  refine ⟨.hm1 g1, ?_⟩
  simp -implicitDefEqProofs only [go_sem,oblsA]
  refine ⟨sized_map (f:=oblA) (fun _=>rfl) _,by rw [List.length_map]; omega, .acc fun zo H1 hao _=> ?_⟩
  rw [List.nil_append] at hao
  obtain ⟨qo,rfl⟩:=hao.row
  have sO:=hao.1
  have g1' :=sO _ _ g1
  have g2' :=sO _ _ g2
  refine ⟨.hm1 g1',noHeap,(fun _ _ e=>by cases e), ?_⟩
  have cT:(tgtA ptgt).cells= [tgtA ptgt]:=rfl
  simp -implicitDefEqProofs only [go_sem,g1',show fit (tgtA ptgt) 1=(1=1) from rfl,cT]
  refine ⟨fun _ _ e=>(by cases e),fun _ _ e=>(by cases e), ?_⟩
  obtain ⟨H2,eH2⟩:∃H2,upd H1 i1 (some (.obj [.s pid, .v (.bool pset), .v (.int .i64 palg),tgtA ptgt, .sl (prules.map ruleA) .no, .sl (pkids.map polA) .no, .sl (pobls.map oblA) qo] 28))=H2:=⟨_,rfl⟩
  have q1:H2 i1=some (.obj [.s pid, .v (.bool pset), .v (.int .i64 palg),tgtA ptgt, .sl (prules.map ruleA) .no, .sl (pkids.map polA) .no, .sl (pobls.map oblA) qo] 28):=by rw [←eH2,upd_same]
  have q2:H2 i2=some (.obj [.s [], .v (.bool false), .v (.int .i64 0), .sl [] .full, .sl [] .full, .sl [] .full, .sl [] .full] 28):=by rw [←eH2,upd_other _ _ n21]; exact g2'
  have hs2:Ab.Sub h H2:=by rw [←eH2]; exact (hH.trans sO).put h1 _
  rw [eH2]
  clear eH2
  refine LoopC.join (.exit 0) (fun ρ H' =>∃z vs,H' i1=some (.obj [.s pid, .v (.bool pset), .v (.int .i64 palg),tgtA ptgt, .sl (prules.map ruleA) .no, .sl (pkids.map polA) .no, .sl (pobls.map oblA) qo] 28)∧H' i2=some (.obj [.s [], .v (.bool false), .v (.int .i64 0), .sl [] .full, .sl [] .full, .sl [] .full, .sl [] .full] 28)∧Ab.Sub h H'∧OwE 37 h H' 5 z vs∧RulesW vs prules∧lk ρ 1=some (.ptr i1 0)∧lk ρ 2=some (.ptr i2 0)∧lk ρ 3=some z) ?_ fun K1 hK1=> ?_
  rotate_left
  ·refine .intro (fun m ρ H' =>∃(i:Nat) (z:AV) (vs:List AV),H' i1=some (.obj [.s pid, .v (.bool pset), .v (.int .i64 palg),tgtA ptgt, .sl (prules.map ruleA) .no, .sl (pkids.map polA) .no, .sl (pobls.map oblA) qo] 28)∧H' i2=some (.obj [.s [], .v (.bool false), .v (.int .i64 0), .sl [] .full, .sl [] .full, .sl [] .full, .sl [] .full] 28)∧Ab.Sub h H'∧OwE 37 h H' 5 z vs∧RulesW vs (prules.take i)∧i≤prules.length∧m=prules.length - i∧lk ρ 1=some (.ptr i1 0)∧lk ρ 2=some (.ptr i2 0)∧lk ρ 3=some z∧lk ρ 19=some (.sl (prules.map ruleA) .no)∧lk ρ 20=some (.v (.int .i64 prules.length))∧lk ρ 21=some (.v (.int .i64 i))) prules.length ?_ ?_
   ·refine ⟨0, .sl [] .full,[],q1,q2,hs2, .inl ⟨rfl,rfl⟩,⟨rfl,fun i h1=>by cases h1⟩,by omega,rfl, ?_, ?_, ?_, ?_, ?_, ?_⟩<;>simp -implicitDefEqProofs only [go_sem]
    all_goals first|rfl|simp
   rintro m ρ H' ⟨i,z,vs,q1,q2,hs',hw,hr,hi,rfl,r1,r2,r3,r19,r20,r21⟩
   by_cases hlt:i<prules.length
   case neg=>
    obtain rfl:i=prules.length:=by omega
    have t1:decide ((prules.length:Int)<(prules.length:Int))=false:=decide_eq_false (by omega)
    rw [List.take_length] at hr
    simp -implicitDefEqProofs only [go_sem,r19,r20,r21,t1]
    exact hK1 _ _ ⟨z,vs,q1,q2,hs',hw,hr,by simp -implicitDefEqProofs only [go_sem,r1],by simp -implicitDefEqProofs only [go_sem,r2],by simp -implicitDefEqProofs only [go_sem,r3]⟩
   have t1:decide ((i:Int)<(prules.length:Int))=true:=decide_eq_true (by omega)
   have w1:IntKind.i64.wrap ((i:Int)+1)=((i+1:Nat):Int):=by rw [IntWalk.i64_in _ (by omega)]; omega
   obtain ⟨_,rt,rc,ro⟩:=hre _ (List.getElem_mem hlt)
   have hrc:=cond_le rc
   have hro:=obls_le ro
   have hrl:=hr.1
   have hx:(prules.map ruleA)[i]'(by simpa using hlt)=ruleA prules[i]:=List.getElem_map ..
   obtain ⟨rl,erl⟩:∃rl,prules[i]=rl:=⟨_,rfl⟩
   rw [erl] at rt hrc hro hx
   simp -implicitDefEqProofs only [go_sem,r19,r20,r21,t1]
   refine .at i (by simpa using hlt) (by rw [hx]; rfl) ?_
   simp -implicitDefEqProofs only [go_sem,hx,ruleA]
   intro i5 h5
   simp -implicitDefEqProofs only [go_sem]
   have x1:i1≠i5:=fun e=>by rw [←e,q1] at h5; cases h5
   have x2:i2≠i5:=fun e=>by rw [←e,q2] at h5; cases h5
   have f5:upd H' i5 (some (.obj [.s rl.id, .v (.bool rl.deny),tgtA rl.tgt,condA rl.cond,oblsA rl.obls] 37)) i5=some (.obj [.s rl.id, .v (.bool rl.deny),tgtA rl.tgt,condA rl.cond,oblsA rl.obls] 37):=upd_same ..
   refine .stage (hm1 i5 _) [0,1,3,4,5,7,8,9,2,11,6,10] [12,13,14,15,16] (.hm1 f5) (by kernel_rfl) ?_
   simp -implicitDefEqProofs only [go_sem,hm1_same]
   refine (target_cp rl.tgt rt _).pthen ?_
   refine ⟨.hm1 f5, ?_⟩
   simp -implicitDefEqProofs only [go_sem,condA]
   refine ⟨sized_map (f:=nodeA) (fun _=>rfl) _,by rw [List.length_map]; omega, .acc fun zc G1 hac _=> ?_⟩
   rw [List.nil_append] at hac
   obtain ⟨qc,rfl⟩:=hac.row
   have f5a:=hac.1 _ _ f5
   refine ⟨.hm1 f5a, ?_⟩
   simp -implicitDefEqProofs only [go_sem,oblsA]
   refine ⟨sized_map (f:=oblA) (fun _=>rfl) _,by rw [List.length_map]; omega, .acc fun zo2 G2 hao2 _=> ?_⟩
   rw [List.nil_append] at hao2
   obtain ⟨qo2,rfl⟩:=hao2.row
   have f5b:=hao2.1 _ _ f5a
   refine ⟨.hm1 f5b,noHeap,(fun _ _ e=>by cases e), ?_⟩
   have cT:(tgtA rl.tgt).cells= [tgtA rl.tgt]:=rfl
   simp -implicitDefEqProofs only [go_sem,f5b,show fit (tgtA rl.tgt) 1=(1=1) from rfl,cT]
   refine ⟨fun _ _ e=>(by cases e),fun _ _ e=>(by cases e),fun _ _ e=>(by cases e), ?_⟩
   have sG:Ab.Sub H' (upd G2 i5 (some (.obj [.s rl.id, .v (.bool rl.deny),tgtA rl.tgt, .sl (rl.cond.map nodeA) qc, .sl (rl.obls.map oblA) qo2] 37))):=(((Sub.upd_new h5).trans hac.1).trans hao2.1).put h5 _
   have hvl:vs.length=i:=by rw [hrl,List.length_take]; omega
   simp -implicitDefEqProofs only [go_sem,r3]
   refine (hw.sub sG).app (U:=U) (tb:=37) (hs'.trans sG) (.sl (by intro v hv; rw [List.mem_singleton.1 hv]; rfl) .full:Rd _ 5 (.sl [.agg [.s rl.id, .v (.bool rl.deny),tgtA rl.tgt, .sl (rl.cond.map nodeA) qc, .sl (rl.obls.map oblA) qo2]] .full) [.agg [.s rl.id, .v (.bool rl.deny),tgtA rl.tgt, .sl (rl.cond.map nodeA) qc, .sl (rl.obls.map oblA) qo2]]) (by rfl) (by decide) (by decide) (by rfl) (by simp) (by simp only [go_sem,List.length_cons,List.length_nil]; omega) fun id z' G4 h0i hid hw' hoth=> ?_
   have nid:∀ {k:Nat} {cs:List AV},H' k=some (.obj cs 28)→k≠id:=fun {k cs} hk e=>by
    subst e
    rcases hid with hn|⟨l,c,ez⟩
    ·rw [sG _ _ hk] at hn; cases hn
    ·rcases hw with ⟨_,e2⟩|⟨id',_,cap,rest,e2,h2,_⟩
     ·rw [ez] at e2; cases e2
     ·rw [ez] at e2
      injection e2 with e2
      rw [←e2,hk] at h2
      injection h2 with h2
      injection h2 with _ h2
      cases h2
   simp -implicitDefEqProofs only [go_sem,r21,w1]
   refine ⟨_, ?_,i+1,z',_,(hoth _ (nid q1)).trans (sG _ _ q1),(hoth _ (nid q2)).trans (sG _ _ q2),fun j b hj=> ?_, .inr ⟨id,h0i,hw'⟩, ?_,by omega,rfl, ?_, ?_, ?_, ?_, ?_, ?_⟩
   ·omega
   ·rw [hoth j (fun e=>by rw [e,h0i] at hj; cases hj)]
    exact sG _ _ (hs' _ _ hj)
   ·rw [List.take_succ_eq_append_getElem hlt,erl]
    exact hr.snoc ⟨qc,qo2,rfl⟩
   all_goals simp -implicitDefEqProofs only [go_sem,r1,r2,r19,r20]
  rintro ρ H' ⟨z,vs,q1,q2,hs',hw,hr,r1,r2,r3⟩
  simp -implicitDefEqProofs only [go_sem,r1,q1,List.length_map]
  refine LoopC.join (.exit 2) (fun ρ G=>∃qk,G i1=some (.obj [.s pid, .v (.bool pset), .v (.int .i64 palg),tgtA ptgt, .sl (prules.map ruleA) .no, .sl (pkids.map polA) .no, .sl (pobls.map oblA) qo] 28)∧Ab.Sub H' G∧lk ρ 1=some (.ptr i1 0)∧lk ρ 2=some (.ptr i2 0)∧lk ρ 3=some z∧lk ρ 6=some (.sl (pkids.map polA) qk)) ?_ fun K2 hK2=> ?_
  rotate_left
  ·refine .intro (fun m ρ G=>∃(i:Nat) (y:AV),Acc U 28 H' G y ((pkids.take i).map polA)∧i≤pkids.length∧m=pkids.length - i∧lk ρ 1=some (.ptr i1 0)∧lk ρ 2=some (.ptr i2 0)∧lk ρ 3=some z∧lk ρ 6=some y∧lk ρ 45=some (.sl (pkids.map polA) .no)∧lk ρ 46=some (.v (.int .i64 pkids.length))∧lk ρ 47=some (.v (.int .i64 i))) pkids.length ?_ ?_
   ·refine ⟨0,_, .full (.refl _),by omega,rfl, ?_, ?_, ?_, ?_, ?_, ?_, ?_⟩<;>simp -implicitDefEqProofs only [go_sem,r1,r2,r3]
    all_goals rfl
   rintro m ρ G ⟨i,y,ha,hi,rfl,r1,r2,r3,r6,r45,r46,r47⟩
   by_cases hlt:i<pkids.length
   case neg=>
    obtain rfl:i=pkids.length:=by omega
    have t1:decide ((pkids.length:Int)<(pkids.length:Int))=false:=decide_eq_false (by omega)
    rw [List.take_length] at ha
    obtain ⟨qk,rfl⟩:=ha.row
    simp -implicitDefEqProofs only [go_sem,r45,r46,r47,t1]
    exact hK2 _ _ ⟨qk,ha.1 _ _ q1,ha.1,by simp -implicitDefEqProofs only [go_sem,r1],by simp -implicitDefEqProofs only [go_sem,r2],by simp -implicitDefEqProofs only [go_sem,r3],by simp -implicitDefEqProofs only [go_sem,r6]⟩
   have t1:decide ((i:Int)<(pkids.length:Int))=true:=decide_eq_true (by omega)
   have w1:IntKind.i64.wrap ((i:Int)+1)=((i+1:Nat):Int):=by rw [IntWalk.i64_in _ (by omega)]; omega
   have hx:(pkids.map polA)[i]'(by simpa using hlt)=polA pkids[i]:=List.getElem_map ..
   have ihk:=ih i hlt
   have htk:(pkids.take (i+1)).map polA=(pkids.take i).map polA++ [polA pkids[i]]:=by rw [List.take_succ_eq_append_getElem hlt,List.map_append]; rfl
   obtain ⟨k,ek⟩:∃k,pkids[i]=k:=⟨_,rfl⟩
   rw [ek] at hx htk
   simp only [ek] at ihk
   obtain ⟨kid,kset,kalg,ktgt,krules,kkids,kobls,ek2⟩:=pol_split k
   have ea:polA k= .agg [.s kid, .v (.bool kset), .v (.int .i64 kalg),tgtA ktgt, .sl (krules.map ruleA) .no, .sl (kkids.map polA) .no,oblsA kobls]:=by rw [ek2,polC_mk]
   rw [ea] at hx htk
   simp only [ea] at ihk
   simp -implicitDefEqProofs only [go_sem,r45,r46,r47,t1]
   refine .at i (by simpa using hlt) (by rw [hx]; rfl) ?_
   simp -implicitDefEqProofs only [go_sem,hx]
   intro i8 h8
   simp -implicitDefEqProofs only [go_sem,r6]
   refine (ihk _).pthen ?_
   simp -implicitDefEqProofs only [go_sem,r6]
   refine (ha.sub (.upd_new h8)).app (zs:= [.agg [.s kid, .v (.bool kset), .v (.int .i64 kalg),tgtA ktgt, .sl (krules.map ruleA) .no, .sl (kkids.map polA) .no,oblsA kobls]]) (by decide) (by decide) (fun k hk=>hk) (sized_map polA_cells _) (by intro w hw; rw [List.mem_singleton.1 hw]; rfl) (by simp only [go_sem,List.length_map,List.length_take,List.length_cons,List.length_nil]; omega) fun z' G2 ha' _=> ?_
   simp -implicitDefEqProofs only [go_sem,r47,w1]
   refine ⟨_, ?_,i+1,z',by rw [htk]; exact ha',by omega,rfl, ?_, ?_, ?_, ?_, ?_, ?_, ?_⟩
   ·omega
   all_goals simp -implicitDefEqProofs only [go_sem,r1,r2,r3,r45,r46]
  rintro ρ G ⟨qk,q1,hsG,r1,r2,r3,r6⟩
  have q2' :=hsG _ _ q2
  have hw2:=hw.sub hsG
  simp -implicitDefEqProofs only [go_sem,r1,r2,r3,r6,q1,q2',hw2.rd.fit,hw2.rd.cells,upd_ne,n21]
  refine .same (.refl _) ⟨⟨z,vs,qk,qo,rfl, ?_,hr⟩,((hs'.trans hsG).put h1 _).put n2 _⟩
  rcases hw2 with hw2|⟨id,h0,ow⟩
  ·exact .inl hw2
  ·refine .inr ⟨id,h0,ow.same ?_⟩
   have e1:=ow_ne ow q1 (by decide)
   have e2:=ow_ne ow q2' (by decide)
   rw [upd_other _ _ e2,upd_other _ _ e1]
termination_by p=>SizeOf.sizeOf p
decreasing_by
 have:=List.sizeOf_lt_of_mem (List.getElem_mem hj)
 simp only [PolD.mk.sizeOf_spec]
 omega
end Go.Proofs.YtcgcjihjhlenkaaDoor

set_option linter.unusedVariables false
namespace Go.Bf
open Go Go.Ab
structure TokD where
 kind:Int
 pos:Int
 n:Int
 s:Txt
def wrd (c:UInt8):Bool:=ltr c||dgt c||(c.toNat:Int)==95
def decV (l:Txt):Nat:=l.foldl (fun n c=>n*10+(c.toNat - 48)) 0
def numD (neg:Bool) (s:Txt):Int×Nat:=
 let d:=s.takeWhile dgt
 if d= []∨(1<d.length∧s.head? =some 48) then (0,0) else
 let v:Int:=if neg then -(decV d:Int) else (decV d:Int)
 if -9223372036854775808≤v∧v≤9223372036854775807 then (v,d.length) else (0,0)
def wordD (s:Txt):Txt:=if nameOK (s.takeWhile wrd) then s.takeWhile wrd else []
def hexI (c:UInt8):Int:=if dgt c then (c.toNat:Int) - 48 else if 97≤(c.toNat:Int)∧(c.toNat:Int)≤102 then (c.toNat:Int) - 87 else -1
def oddD:Txt→Option UInt8
 |b::x::y::_=>if b=92∧0≤hexI x∧0≤hexI y∧oddB (UInt8.ofNat (16*hexI x+hexI y).toNat)=true then some (UInt8.ofNat (16*hexI x+hexI y).toNat) else none
 |_=>none
def textF:Nat→Txt→Nat→Txt→Txt×Nat
 |0,_,_,_=>([],0)
 |_+1,[],_,_=>([],0)
 |f+1,c::r,at_,out=>
  if c=34 then (if 64<out.length then ([],0) else (out,at_+1))
  else if oddB c=false then textF f r (at_+1) (out++ [c])
  else match oddD (c::r) with
   |some b=>textF f (r.drop 2) (at_+3) (out++ [b])
   |none=>([],0)
def textD (s:Txt):Txt×Nat:=textF s.length (s.drop 1) 1 []
def markB (c:UInt8):Bool:=c∈([123,125,40,41,46,44,59,61,60,62,33]:Txt)
def beginsD (s:Txt):TokD×Nat:=
 let c:=s.headD 0
 if ltr c then (⟨1,0,0,wordD s⟩,(wordD s).length)
 else if dgt c then (⟨2,0,(numD false s).1,[]⟩,(numD false s).2)
 else if c=45 then (⟨2,0,(numD true (s.drop 1)).1,[]⟩,if (numD true (s.drop 1)).1=0 then 0 else (numD true (s.drop 1)).2+1)
 else if c=64 then (⟨3,0,(numD false (s.drop 1)).1,[]⟩,if (numD false (s.drop 1)).2=0∨(numD false (s.drop 1)).1>1099511627776 then 0 else (numD false (s.drop 1)).2+1)
 else if c=35 then (⟨4,0,0,wordD (s.drop 1)⟩,if wordD (s.drop 1)= [] then 0 else (wordD (s.drop 1)).length+1)
 else if c=34 then (⟨5,0,0,(textD s).1⟩,(textD s).2)
 else if markB c then (⟨6,0,0,[c]⟩,1)
 else (⟨0,0,0,[]⟩,0)
inductive Lexed where
 |bad (e:Int) (at_:Int)
 |ok (l:List TokD)
def blankB (c:UInt8):Bool:=(c.toNat:Int)==32||(c.toNat:Int)==10
def lexF:Nat→Txt→Nat→List TokD→Lexed
 |0,_,at_,_=> .bad 5 at_
 |_+1,[],at_,out=> .ok (out++ [⟨7,at_,0,[]⟩])
 |f+1,c::r,at_,out=>
  if blankB c then lexF f r (at_+1) out
  else if (beginsD (c::r)).2=0 then .bad 5 at_
  else lexF f ((c::r).drop (beginsD (c::r)).2) (at_+(beginsD (c::r)).2) (out++ [{(beginsD (c::r)).1 with pos:=at_}])
end Go.Bf

set_option linter.unusedVariables false
namespace Go.Bf
open Go Go.Ab
structure PS where
 ts:List TokD
 pos:Nat
 rules:Nat
 bad:Int
 place:Int
def hereD (st:PS):TokD:=st.ts.getD st.pos ⟨7,0,0,[]⟩
def wrongD (st:PS) (e p:Int):PS:=if st.bad=0 then {st with bad:=e,place:=p} else st
def stuckD (st:PS):PS:=wrongD st 5 (hereD st).pos
def limitD (st:PS) (more:Bool):PS:=if more then wrongD st 6 (hereD st).pos else st
def isD (st:PS) (s:Txt):Bool:=st.bad==0 && ((hereD st).s==s && ((hereD st).kind==1||(hereD st).kind==6))
def nextD (st:PS):PS:= {st with pos:=st.pos+1}
def takeD (st:PS) (s:Txt):Bool×PS:=if isD st s=true then (true,nextD st) else (false,st)
def mustD (st:PS) (s:Txt):PS:=if isD st s=true then nextD st else stuckD st
def nameP (st:PS):Txt×PS:=
 if (hereD st).kind=1∧st.bad=0 then ((hereD st).s,nextD st) else ([],if (hereD st).kind=1 then st else stuckD st)
def idxT (s:Txt):List Txt→Option Nat
 | []=>none
 |w::r=>if w=s then some 0 else (idxT s r).map (· +1)
def amongD (st:PS) (ws:List Txt):Int×PS:=match idxT (hereD st).s ws with
 |some i=>if (hereD st).kind=1∧st.bad=0 then ((i:Int)+1,nextD st) else (0,stuckD st)
 |none=>(0,stuckD st)
def WfP (st:PS):Prop:=st.pos<st.ts.length∧(∀i (h:i<st.ts.length),st.ts[i].kind≠7→i+1<st.ts.length)∧st.ts.length≤5000
theorem hereD_eq {st} (h:st.pos<st.ts.length):hereD st=st.ts[st.pos]:=by
 grind [hereD,List.getElem?_eq_getElem]
end Go.Bf

set_option linter.unusedVariables false
namespace Go.Bf
open Go Go.Ab
def Ah (st st' :PS):Prop:=WfP st'∧st'.ts=st.ts∧st.pos≤st'.pos
theorem Ah.refl {st} (h:WfP st):Ah st st:=⟨h,rfl,Nat.le_refl _⟩
theorem Ah.trans {a b c} (x:Ah a b) (y:Ah b c):Ah a c:=⟨y.1,y.2.1.trans x.2.1,Nat.le_trans x.2.2 y.2.2⟩
def catWs:List Txt:= [[115,117,98,106,101,99,116],[97,99,116,105,111,110],[99,97,115,101],[101,110,118]]
def attrP (st:PS):AttrD×PS:=
 (⟨(amongD st catWs).1,(nameP (mustD (amongD st catWs).2 [46])).1,(takeD (nameP (mustD (amongD st catWs).2 [46])).2 [33]).1⟩,(takeD (nameP (mustD (amongD st catWs).2 [46])).2 [33]).2)
def trueT:Txt:= [116,114,117,101]
def falseT:Txt:= [102,97,108,115,101]
def valueV (st:PS):ValD×PS:=
 if (hereD st).kind=2 then (⟨2,(hereD st).n,(hereD st).s⟩,st)
 else if (hereD st).kind=3 then (⟨4,(hereD st).n,(hereD st).s⟩,st)
 else if (hereD st).kind=4 then (⟨5,(hereD st).n,(hereD st).s⟩,st)
 else if (hereD st).kind=5 then (⟨3,(hereD st).n,(hereD st).s⟩,st)
 else if isD st trueT then (⟨1,1,[]⟩,st)
 else if isD st falseT then (⟨1,0,[]⟩,st)
 else (⟨0,(hereD st).n,(hereD st).s⟩,stuckD st)
def valueP (st:PS):ValD×PS:=if (valueV st).2.bad=0 then ((valueV st).1,nextD (valueV st).2) else (⟨0,0,[]⟩,(valueV st).2)
def opP (st:PS):Int×PS:=
 if isD st [61] then (1,nextD st) else if isD st [60] then (2,nextD st) else if isD st [62] then (3,nextD st) else (0,stuckD st)
def matchP (st:PS):MatchD×PS:=(⟨(attrP st).1,(opP (attrP st).2).1,(valueP (opP (attrP st).2).2).1⟩,(valueP (opP (attrP st).2).2).2)
def manyF {α:Type} (one:PS→α×PS) (w:Txt) (most:Nat):Nat→PS→List α→List α×PS
 |0,st,l=>(l,st)
 |f+1,st,l=>if isD st w=true then manyF one w most f (limitD (one (nextD st)).2 (decide (most<l.length+1))) (l++ [(one (nextD st)).1]) else (l,st)
def orT:Txt:= [111,114]
def andT:Txt:= [97,110,100]
def whenT:Txt:= [119,104,101,110]
def allP (st:PS):List MatchD×PS:=manyF matchP [44] 8 st.ts.length (matchP st).2 [(matchP st).1]
def anyP (st:PS):List (List MatchD)×PS:=
 let a:=allP (mustD st [40])
 let m:=manyF allP orT 8 st.ts.length a.2 [a.1]
 (m.1,mustD m.2 [41])
def tgtP (st:PS):TgtD×PS:=if isD st whenT=true then manyF anyP andT 8 st.ts.length (anyP (nextD st)).2 [(anyP (nextD st)).1] else ([],st)
end Go.Bf

set_option linter.unusedVariables false
namespace Go.Bf
open Go Go.Ab
def fnWs:List Txt:= [[111,110,101],[115,105,122,101],[104,97,115],[101,113],[108,101,115,115],[97,100,100],[115,117,98],[109,117,108],[110,111,116],[97,110,100],[111,114]]
def opers (op:Int):List Bool:=if op=3∨op=4 then [true] else if op=5 then [true,false] else if op=11 then [false] else [false,false]
abbrev ExF:=PS→List NodeD→(List NodeD×Bool)×PS
def operG (ex:ExF) (st:PS) (l:List NodeD) (must:Bool):List NodeD×PS:=
 ((ex st l).1.1,if (ex st l).1.2=must then (ex st l).2 else wrongD (ex st l).2 5 (hereD st).pos)
def opersG (ex:ExF):List Bool→PS→List NodeD→List NodeD×PS
 | [],st,l=>(l,st)
 |b::bs,st,l=>if st.bad=0 then opersG ex bs (operG ex st l b).2 (operG ex st l b).1 else (l,st)
def funcG (ex:ExF) (st:PS) (l:List NodeD):(List NodeD×NodeD)×PS:=
 (((opersG ex (opers (2+(amongD st fnWs).1)) (amongD st fnWs).2 l).1,⟨2+(amongD st fnWs).1,⟨0,0,[]⟩,⟨0,[],false⟩⟩),mustD (opersG ex (opers (2+(amongD st fnWs).1)) (amongD st fnWs).2 l).2 [41])
def headG (ex:ExF) (st:PS) (l:List NodeD):(List NodeD×NodeD)×PS:=
 if isD st [40]=true then funcG ex (nextD st) l
 else if (hereD st).kind=1∧(hereD st).s≠trueT∧(hereD st).s≠falseT then ((l,⟨2,⟨0,0,[]⟩,(attrP st).1⟩),(attrP st).2)
 else ((l,⟨1,(valueP st).1,⟨0,[],false⟩⟩),(valueP st).2)
def exprF:Nat→ExF
 |0,st,l=>((l,false),st)
 |f+1,st,l=>(((headG (exprF f) st l).1.1++ [(headG (exprF f) st l).1.2],(headG (exprF f) st l).1.2.op==2),limitD (headG (exprF f) st l).2 (decide (32<(headG (exprF f) st l).1.1.length+1)))
def onWs:List Txt:= [[112,101,114,109,105,116],[100,101,110,121]]
def dutyWs:List Txt:= [[108,111,103],[114,101,100,97,99,116],[114,101,118,105,101,119],[110,111,116,105,102,121]]
def onceT:Txt:= [111,110]
def oblP (st:PS):OblD×PS:=
 (⟨(amongD st onWs).1,(amongD (amongD st onWs).2 dutyWs).1,(nameP (amongD (amongD st onWs).2 dutyWs).2).1⟩,(nameP (amongD (amongD st onWs).2 dutyWs).2).2)
def oblsP (st:PS):List OblD×PS:=manyF oblP onceT 8 st.ts.length st []
end Go.Bf

set_option linter.unusedVariables false
namespace Go.Bf
open Go Go.Ab
inductive Rch (a:PS):PS→Prop where
 |refl:Rch a a
 |wrong {b:PS} (e p:Int):Rch a b→(e=5∨e=6)→(∃i,i≤b.pos∧p=(b.ts.getD i ⟨7,0,0,[]⟩).pos)→Rch a (wrongD b e p)
 |next {b:PS}:Rch a b→b.bad=0→(hereD b).kind≠7→Rch a (nextD b)
theorem Rch.trans {a b c} (x:Rch a b) (y:Rch b c):Rch a c:=by
 induction y with
 |refl=>exact x
 |wrong e p _ h1 h2 ih=>grind [wrong]
 |next _ h1 h2 ih=>grind [next]
def ifT:Txt:= [105,102]
def permitT:Txt:= [112,101,114,109,105,116]
def denyT:Txt:= [100,101,110,121]
def policyT:Txt:= [112,111,108,105,99,121]
def setT:Txt:= [115,101,116]
def kindWs:List Txt:= [policyT,setT]
def algWs:List Txt:= [[100,101,110,121,111,118,101,114],[112,101,114,109,105,116,111,118,101,114],[102,105,114,115,116],[111,110,108,121],[100,101,110,121,117,110,108,101,115,115],[112,101,114,109,105,116,117,110,108,101,115,115]]
def condP (st:PS):List NodeD×PS:=if isD st ifT=true then operG (exprF st.ts.length) (nextD st) [] false else ([],st)
def ruleP (deny:Bool) (st:PS):RuleD×PS:=
 (⟨(nameP st).1,deny,(tgtP (nameP st).2).1,(condP (tgtP (nameP st).2).2).1,(oblsP (condP (tgtP (nameP st).2).2).2).1⟩,mustD (oblsP (condP (tgtP (nameP st).2).2).2).2 [59])
inductive RchR (a:PS):PS→Prop where
 |refl:RchR a a
 |small {b c:PS}:RchR a b→Rch b c→RchR a c
 |rule {b:PS}:RchR a b→b.bad=0→b.rules≠64→(hereD b).kind≠7→RchR a {nextD b with rules:=b.rules+1}
theorem RchR.trans {a b c} (x:RchR a b) (y:RchR b c):RchR a c:=by
 induction y with
 |refl=>exact x
 |small _ h1 ih=>grind [small]
 |rule _ h1 h2 h3 ih=>grind [rule]
def someF:Nat→PS→List RuleD→List RuleD×PS
 |0,st,l=>(l,st)
 |f+1,st,l=>if isD st permitT=true∨isD st denyT=true then
   if l.length=16∨st.rules=64 then (l,limitD st true)
   else someF f (ruleP (isD st denyT) {nextD st with rules:=st.rules+1}).2 (l++ [(ruleP (isD st denyT) {nextD st with rules:=st.rules+1}).1])
  else (l,st)
abbrev PoF:=PS→PolD×PS
def kidsF (pol:PoF) (deep:Bool):Nat→PS→List PolD→List PolD×PS
 |0,st,l=>(l,st)
 |f+1,st,l=>if isD st policyT=true∨isD st setT=true then
   if l.length=16∨deep=true then (l,limitD st true)
   else kidsF pol deep f (pol st).2 (l++ [(pol st).1])
  else (l,st)
def headP (st:PS):(Bool×Txt×Int×TgtD)×PS:=
 (((amongD st kindWs).1==2,(nameP (amongD st kindWs).2).1,(amongD (nameP (amongD st kindWs).2).2 algWs).1,(tgtP (amongD (nameP (amongD st kindWs).2).2 algWs).2).1),mustD (tgtP (amongD (nameP (amongD st kindWs).2).2 algWs).2).2 [123])
def bodyP (pol:PoF) (deep:Bool) (set:Bool) (st:PS):(List RuleD×List PolD)×PS:=
 if set=true then (([],(kidsF pol deep 17 st []).1),(kidsF pol deep 17 st []).2) else (((someF 17 st []).1,[]),(someF 17 st []).2)
def polF:Nat→PoF
 |0,st=>(.mk [] false 0 [] [] [] [],st)
 |r+1,st=>(.mk (headP st).1.2.1 (headP st).1.1 (headP st).1.2.2.1 (headP st).1.2.2.2 (bodyP (polF r) (r==0) (headP st).1.1 (headP st).2).1.1 (bodyP (polF r) (r==0) (headP st).1.1 (headP st).2).1.2
   (oblsP (mustD (bodyP (polF r) (r==0) (headP st).1.1 (headP st).2).2 [125])).1,(oblsP (mustD (bodyP (polF r) (r==0) (headP st).1.1 (headP st).2).2 [125])).2)
end Go.Bf

set_option linter.unusedVariables false
namespace Go.Bf
open Go Go.Ab
def zeroP:PolD:= .mk [] false 0 [] [] [] []
def endP (s:Txt) (x:PolD×PS):PS:=
 if (if (hereD x.2).kind=7 then x.2 else stuckD x.2).bad=0∧rightE x.1≠0 then wrongD (if (hereD x.2).kind=7 then x.2 else stuckD x.2) 5 s.length else (if (hereD x.2).kind=7 then x.2 else stuckD x.2)
def parseT (s:Txt) (ts:List TokD):PolD×Int×Int:=
 if (endP s (polF 4 ⟨ts,0,0,0,0⟩)).bad=0 then ((polF 4 ⟨ts,0,0,0,0⟩).1,0,0) else (zeroP,(endP s (polF 4 ⟨ts,0,0,0,0⟩)).bad,(endP s (polF 4 ⟨ts,0,0,0,0⟩)).place)
end Go.Bf

set_option linter.unusedSimpArgs false
set_option linter.unusedVariables false
namespace Go.Bf
open Go Go.Ab
def er (t:TokD):TokD:=⟨t.kind,0,t.n,t.s⟩
def wdK (s:Txt):TokD:=⟨1,0,0,s⟩
def mkK (c:UInt8):TokD:=⟨6,0,0,[c]⟩
def endK:TokD:=⟨7,0,0,[]⟩
def Sep (r:Txt):Prop:=∀c l,r=c::l→wrd c=false
def StN (s:Txt):Prop:=∃c l,s=c::l∧wrd c=false
theorem Sep.nil:Sep []:=fun _ _ h=>by cases h
theorem StN.sep {s:Txt} (h:StN s) (r:Txt):Sep (s++r):=by
 obtain ⟨c,l,rfl,hc⟩:=h
 intro c' l' e
 grind
def Lx (b:Bool) (s:Txt) (ks:List TokD):Prop:=∀(rest:Txt) (f a:Nat) (out:List TokD),(b=true→Sep rest)→(s++rest).length<f→
 ∃f' new,rest.length<f'∧new.map er=ks∧lexF f (s++rest) a out=lexF f' rest (a+s.length) (out++new)
theorem Lx.weaken {b:Bool} {s:Txt} {ks:List TokD} (h:Lx b s ks):Lx true s ks:=fun rest f a out hr hf=>h rest f a out (fun _=>hr rfl) hf
theorem Lx.nil (b:Bool):Lx b [] []:=fun rest f a out _ hf=>⟨f,[],by grind,rfl,by simp⟩
theorem Lx.app {b1 b2:Bool} {s1 s2:Txt} {k1 k2:List TokD} (h1:Lx b1 s1 k1) (h2:Lx b2 s2 k2) (hs:b1=true→∀rest,(b2=true→Sep rest)→Sep (s2++rest)):Lx b2 (s1++s2) (k1++k2):=fun rest f a out hr hf=>by
 rw [List.append_assoc] at hf⊢
 obtain ⟨f1,n1,g1,g2,g3⟩:=h1 (s2++rest) f a out (by grind) hf
 obtain ⟨f2,n2,g4,g5,g6⟩:=h2 rest f1 (a+s1.length) (out++n1) hr g1
 refine ⟨f2,n1++n2,g4,by grind, ?_⟩
 grind
theorem Lx.appM {b2:Bool} {s1 s2:Txt} {k1 k2:List TokD} (h1:Lx false s1 k1) (h2:Lx b2 s2 k2):Lx b2 (s1++s2) (k1++k2):=h1.app h2 fun h=>by cases h
theorem Lx.appN {b1 b2:Bool} {s1 s2:Txt} {k1 k2:List TokD} (h1:Lx b1 s1 k1) (hn:StN s2) (h2:Lx b2 s2 k2):Lx b2 (s1++s2) (k1++k2):=h1.app h2 fun _ rest _=>hn.sep rest
theorem Lx.appO {b1:Bool} {s1 s2:Txt} {k1 k2:List TokD} (h1:Lx b1 s1 k1) (hn:s2= []∨StN s2) (h2:Lx true s2 k2):Lx true (s1++s2) (k1++k2):=h1.app h2 fun _ rest hr=>by
 rcases hn with rfl|hn
 ·grind
 ·exact hn.sep rest
theorem lx_blank:Lx false [32] []:=fun rest f a out _ hf=>by
 obtain ⟨g,rfl⟩:∃g,f=g+1:=⟨f - 1,by omega⟩
 exact ⟨g,[],by grind,rfl,by simp [lexF,blankB]⟩
theorem lx_tok {b:Bool} {s:Txt} {k:TokD} (hs:s≠ []) (hh:∀c l,s=c::l→blankB c=false) (h:∀rest,(b=true→Sep rest)→er (beginsD (s++rest)).1=k∧(beginsD (s++rest)).2=s.length):Lx b s [k]:=fun rest f a out hr hf=>by
 obtain ⟨g,rfl⟩:∃g,f=g+1:=⟨f - 1,by omega⟩
 obtain ⟨h1,h2⟩:=h rest hr
 obtain ⟨c,l,rfl⟩:∃c l,s=c::l:=by
  cases s with
  |nil=>grind
  |cons c l=>simp
 refine ⟨g,[{(beginsD (c::l++rest)).1 with pos:=a}], ?_, ?_, ?_⟩
 ·grind
 ·rw [←h1]; rfl
 simp_all [List.cons_append,lexF,if_neg,List.drop_left]
theorem takeWhile_all {p:UInt8→Bool} {s rest:Txt} (h1:∀c∈s,p c=true) (h2:∀c l,rest=c::l→p c=false):(s++rest).takeWhile p=s:=by
 rw [List.takeWhile_append_of_pos h1]
 cases rest with
 |nil=>simp
 |cons c l=>simp_all
theorem ltr_wrd {c:UInt8} (h:wrd c=false):ltr c=false∧dgt c=false:=by
 grind [wrd,Bool.or_eq_false_iff]
theorem chOK_wrd {c:UInt8} {i:Nat} (h:chOK c i=true):wrd c=true:=by
 simp only [chOK,wrd,Bool.or_eq_true,Bool.and_eq_true] at h⊢
 grind
theorem nameOK_form {s:Txt} (h:nameOK s=true):∃c l,s=c::l∧ltr c=true∧∀x∈s,wrd x=true:=by
 simp only [nameOK,Bool.and_eq_true,decide_eq_true_eq] at h
 obtain ⟨⟨h1,h2⟩,_⟩:=h
 cases s with
 |nil=>grind
 |cons c l=>
  refine ⟨c,l,rfl, ?_,fun x hx=> ?_⟩
  ·simp_all [chsOK,List.zipIdx_cons,List.all_cons,Bool.and_eq_true,chOK]
  ·obtain ⟨i,hi,rfl⟩:=List.getElem_of_mem hx
   have:=List.all_eq_true.1 h1 ((c::l)[i],i) (by grind)
   exact chOK_wrd this
theorem wordD_name {s rest:Txt} (h:nameOK s=true) (hr:Sep rest):wordD (s++rest)=s:=by
 obtain ⟨c,l,_,_,hw⟩:=nameOK_form h
 unfold wordD
 rw [takeWhile_all hw hr,if_pos h]
theorem ltr_blank {c:UInt8} (h:ltr c=true):blankB c=false:=by
 simp only [ltr,Bool.and_eq_true,decide_eq_true_eq] at h
 simp only [blankB,Bool.or_eq_false_iff,beq_eq_false_iff_ne,ne_eq]
 omega
theorem lx_name {s:Txt} (h:nameOK s=true):Lx true s [wdK s]:=by
 obtain ⟨c,l,rfl,hc,hw⟩:=nameOK_form h
 refine lx_tok (by simp) (by grind [ltr_blank]) fun rest hr=> ?_
 have:=wordD_name h (hr rfl)
 rw [List.cons_append] at this⊢
 simp only [beginsD,List.headD_cons,hc,if_true,this]
 exact ⟨rfl,trivial⟩
theorem lx_mark {c:UInt8} (hc:markB c=true) (h1:ltr c=false) (h2:dgt c=false) (h3:c≠45∧c≠64∧c≠35∧c≠34) (h4:blankB c=false):Lx false [c] [mkK c]:=by
 refine lx_tok (by simp) (by grind) fun rest hr=> ?_
 simp only [List.cons_append,List.nil_append,beginsD,List.headD_cons,h1,h2,h3,hc,if_true,if_false,Bool.false_eq_true,List.length_singleton]
 exact ⟨rfl,trivial⟩
theorem lx_id {s:Txt} (h:nameOK s=true):Lx true (35::s) [⟨4,0,0,s⟩]:=by
 refine lx_tok (by simp) (fun c' l' e=>by cases e; decide) fun rest hr=> ?_
 have:=wordD_name h (hr rfl)
 obtain ⟨c,l,e,_,_⟩:=nameOK_form h
 have hs:s≠ []:=by grind
 have d1:ltr 35=false:=by decide
 have d2:dgt 35=false:=by decide
 simp only [List.cons_append,beginsD,List.headD_cons,d1,d2,if_false,Bool.false_eq_true,List.drop_succ_cons,List.drop_zero,this,hs,if_true,List.length_cons]
 exact ⟨rfl,rfl⟩
end Go.Bf

set_option linter.unusedSimpArgs false
set_option linter.unusedVariables false
namespace Go.Bf
open Go Go.Ab
theorem decV_snoc (l:Txt) (c:UInt8):decV (l++ [c])=decV l*10+(c.toNat - 48):=by simp [decV]
theorem dig_toNat (n:Nat) (h:n<10):(UInt8.ofNat (48+n)).toNat=48+n:=by
 grind [UInt8.toNat_ofNat']
theorem dgt_dig (n:Nat) (h:n<10):dgt (UInt8.ofNat (48+n))=true:=by
 simp only [dgt,dig_toNat n h,Bool.and_eq_true,decide_eq_true_eq]; omega
theorem decDigits_form:∀(n u:Nat),u<n→(∀c∈Lib.decDigits u,dgt c=true)∧decV (Lib.decDigits u)=u∧(∃c l,Lib.decDigits u=c::l∧(1≤u→c≠48))∧(u<10→(Lib.decDigits u).length=1)
 |0,u,h=>by omega
 |n+1,u,h=>by
  by_cases h10:u<10
  ·have e:Lib.decDigits u= [UInt8.ofNat (48+u)]:=by rw [Lib.decDigits,dif_pos h10]
   rw [e]
   refine ⟨?_, ?_,⟨_,_,rfl,fun h1 hc=> ?_⟩,fun _=>rfl⟩
   ·grind [List.mem_singleton,dgt_dig]
   ·grind [decV,dig_toNat]
   ·have:=congrArg UInt8.toNat hc
    rw [dig_toNat u h10] at this
    have h48:(48:UInt8).toNat=48:=rfl
    omega
  ·have e:Lib.decDigits u=Lib.decDigits (u / 10)++ [UInt8.ofNat (48+u % 10)]:=by rw [Lib.decDigits,dif_neg h10]
   obtain ⟨h1,h2,⟨c,l,h3,h4⟩,_⟩:=decDigits_form n (u / 10) (by omega)
   refine ⟨?_, ?_,⟨c,l++ [UInt8.ofNat (48+u % 10)],by grind,fun _=>h4 (by omega)⟩,fun h=>absurd h h10⟩
   ·grind [List.mem_singleton,dgt_dig]
   grind [decV_snoc,dig_toNat]
theorem sep_dgt {rest:Txt} (h:Sep rest):∀c l,rest=c::l→dgt c=false:=fun c l e=>(ltr_wrd (h c l e)).2
theorem numD_dig (neg:Bool) (u:Nat) {rest:Txt} (hr:Sep rest) (h: -9223372036854775808≤(if neg then -(u:Int) else (u:Int))∧(if neg then -(u:Int) else (u:Int))≤9223372036854775807):
  numD neg (Lib.decDigits u++rest)=(if neg then -(u:Int) else (u:Int),(Lib.decDigits u).length):=by
 obtain ⟨h1,h2,⟨c,l,h3,h4⟩,h5⟩:=decDigits_form (u+1) u (by omega)
 have ht:(Lib.decDigits u++rest).takeWhile dgt=Lib.decDigits u:=takeWhile_all h1 (sep_dgt hr)
 unfold numD
 simp only [ht,h2]
 rw [if_neg (by
  grind),if_pos h]
theorem lx_int {n:Int} (h: -9223372036854775808≤n∧n≤9223372036854775807):Lx true (Lib.itoa n) [⟨2,0,n,[]⟩]:=by
 by_cases hn:n<0
 ·obtain ⟨u,hu1,hu⟩:∃u:Nat,1≤u∧n= -(u:Int):=⟨n.natAbs,by omega,by omega⟩
  subst hu
  rw [Lib.itoa_neg u hu1]
  refine lx_tok (by simp) (fun c' l' e=>by cases e; decide) fun rest hr=> ?_
  have hd:=numD_dig true u (hr rfl) (by grind)
  have d1:ltr 45=false:=by decide
  have d2:dgt 45=false:=by decide
  have h0: -(u:Int)≠0:=by omega
  simp only [List.cons_append,beginsD,List.headD_cons,d1,d2,if_false,Bool.false_eq_true,List.drop_succ_cons,List.drop_zero,hd,if_true,List.length_cons,h0]
  exact ⟨rfl,trivial⟩
 ·obtain ⟨u,hu⟩:∃u:Nat,n=(u:Int):=⟨n.toNat,by omega⟩
  subst hu
  rw [Lib.itoa_nonneg u]
  obtain ⟨h1,h2,⟨c,l,h3,h4⟩,h5⟩:=decDigits_form (u+1) u (by omega)
  have hc:dgt c=true:=h1 c (by grind)
  have hcr:=hc
  simp only [dgt,Bool.and_eq_true,decide_eq_true_eq] at hcr
  refine lx_tok (by grind) (fun c' l' e=> ?_) fun rest hr=> ?_
  ·rw [h3] at e; cases e
   simp only [blankB,Bool.or_eq_false_iff,beq_eq_false_iff_ne,ne_eq]; omega
  ·have hd:=numD_dig false u (hr rfl) (by omega)
   have d1:ltr c=false:=by
    grind [ltr,Bool.and_eq_false_iff,decide_eq_false_iff_not]
   have hh:(Lib.decDigits u++rest).headD 0=c:=by grind
   simp only [beginsD,hh,d1,hc,hd,if_true,if_false,Bool.false_eq_true]
   exact ⟨rfl,trivial⟩
theorem lx_tick {n:Int} (h0:0≤n) (h1:n≤1099511627776):Lx true ([64]++Lib.itoa n) [⟨3,0,n,[]⟩]:=by
 obtain ⟨u,hu⟩:∃u:Nat,n=(u:Int):=⟨n.toNat,by omega⟩
 subst hu
 rw [Lib.itoa_nonneg u]
 obtain ⟨_,_,⟨c,l,h3,_⟩,_⟩:=decDigits_form (u+1) u (by omega)
 refine lx_tok (by simp) (fun c' l' e=>by cases e; decide) fun rest hr=> ?_
 have hd:=numD_dig false u (hr rfl) (by omega)
 have d1:ltr 64=false:=by decide
 have d2:dgt 64=false:=by decide
 have d3:¬(64:UInt8)=45:=by decide
 have hl:(Lib.decDigits u).length≠0:=by grind
 have hc:¬((Lib.decDigits u).length=0∨(u:Int)>1099511627776):=fun h=>h.elim hl (by omega)
 simp only [List.cons_append,List.nil_append,beginsD,List.headD_cons,d1,d2,d3,if_false,Bool.false_eq_true,List.drop_succ_cons,List.drop_zero,hd,if_true,List.length_cons,hc]
 exact ⟨rfl,trivial⟩
theorem hexI_hexD:∀n:Fin 16,hexI (hexD n.val)=n.val:=by decide
theorem textF_quote:∀(l:Txt) (f at_:Nat) (rest out:Txt),(l.map quoteB).flatten.length<f→(out++l).length≤64→textF f ((l.map quoteB).flatten++34::rest) at_ out=(out++l,at_+(l.map quoteB).flatten.length+1)
 | [],f,at_,rest,out,hf,hl=>by
  obtain ⟨g,rfl⟩:∃g,f=g+1:=⟨f - 1,by omega⟩
  grind [textF]
 |c::r,f,at_,rest,out,hf,hl=>by
  obtain ⟨g,rfl⟩:∃g,f=g+1:=⟨f - 1,by omega⟩
  have hl2:((out++ [c])++r).length≤64:=by grind
  cases ho:oddB c
  ·have e:quoteB c= [c]:=by grind [quoteB]
   have h34:c≠34:=fun h=>by rw [h] at ho; revert ho; decide
   simp only [List.map_cons,e,List.flatten_cons,List.cons_append,List.nil_append,List.length_cons] at hf⊢
   rw [textF,if_neg h34,if_pos ho,textF_quote r g (at_+1) rest (out++ [c]) (by omega) hl2]
   simp; omega
  ·have e:quoteB c= [92,hexD (c.toNat / 16),hexD (c.toNat % 16)]:=by grind [quoteB]
   have hc:=c.toNat_lt
   have h1:=hexI_hexD ⟨c.toNat / 16,by omega⟩
   have h2:=hexI_hexD ⟨c.toNat % 16,by omega⟩
   simp only at h1 h2
   have hv:UInt8.ofNat (16*hexI (hexD (c.toNat / 16))+hexI (hexD (c.toNat % 16))).toNat=c:=by
    rw [h1,h2]
    have:(16*((c.toNat / 16:Nat):Int)+((c.toNat % 16:Nat):Int)).toNat=c.toNat:=by omega
    rw [this,UInt8.ofNat_toNat]
   have hod:∀x,oddD (92::hexD (c.toNat / 16)::hexD (c.toNat % 16)::x)=some c:=fun x=>by
    simp only [oddD,hv]
    grind
   simp only [List.map_cons,e,List.flatten_cons,List.cons_append,List.nil_append,List.length_cons] at hf⊢
   rw [textF,if_neg (by decide),if_neg (by decide),hod]
   simp only [List.drop_succ_cons,List.drop_zero]
   rw [textF_quote r g (at_+3) rest (out++ [c]) (by omega) hl2]
   simp; omega
theorem lx_text {l:Txt} (h:l.length≤64):Lx false (quoteT l) [⟨5,0,0,l⟩]:=by
 refine lx_tok (by simp [quoteT]) (fun c' l' e=>by simp only [quoteT,List.cons_append,List.nil_append] at e; cases e; decide) fun rest hr=> ?_
 have d1:ltr 34=false:=by decide
 have d2:dgt 34=false:=by decide
 have d3:¬(34:UInt8)=45:=by decide
 have d4:¬(34:UInt8)=64:=by decide
 have d5:¬(34:UInt8)=35:=by decide
 have e:quoteT l++rest=34::((l.map quoteB).flatten++34::rest):=by simp [quoteT]
 have ht:textD (34::((l.map quoteB).flatten++34::rest))=(l,(quoteT l).length):=by
  grind [textD,textF_quote,List.length_cons,List.length_append,quoteT]
 rw [e]
 simp only [beginsD,List.headD_cons,d1,d2,d3,d4,d5,if_false,Bool.false_eq_true,if_true,ht]
 exact ⟨rfl,trivial⟩
def valK (v:ValD):TokD:=
 if v.kind=1 then wdK (Lib.formatBool (v.n==1)) else if v.kind=4 then ⟨3,0,v.n,[]⟩ else if v.kind=5 then ⟨4,0,0,v.s⟩ else if v.kind=3 then ⟨5,0,0,v.s⟩ else ⟨2,0,v.n,[]⟩
theorem lx_val {v:ValD} (h:valOK v=true) (hi:inV v):Lx true (valT v) [valK v]:=by
 unfold valOK at h
 unfold valT valK
 by_cases h1:v.kind=1
 ·simp only [h1,if_true]
  cases v.n==1<;>exact lx_name (by decide)
 by_cases h4:v.kind=4
 ·simp only [h4,if_true,show¬(4:Int)=1 by decide,show¬(4:Int)=2 by decide,show¬(4:Int)=3 by decide,if_false,Bool.and_eq_true,decide_eq_true_eq] at h⊢
  grind [lx_tick]
 by_cases h5:v.kind=5
 ·simp_all [if_true,Int,if_false,Bool.and_eq_true,lx_id]
 by_cases h3:v.kind=3
 ·simp only [h3,if_true,show¬(3:Int)=1 by decide,show¬(3:Int)=2 by decide,show¬(3:Int)=4 by decide,show¬(3:Int)=5 by decide,if_false,Bool.and_eq_true,decide_eq_true_eq] at h⊢
  exact (lx_text h.2).weaken
 ·simp only [h1,h4,h5,h3,if_false]
  exact lx_int hi
end Go.Bf

set_option linter.unusedSimpArgs false
set_option linter.unusedVariables false
namespace Go.Bf
open Go Go.Ab
def sepK (w:TokD):List (List TokD)→List TokD
 | []=> []
 |x::r=>x++(r.map (w:: ·)).flatten
theorem stN_cons {c:UInt8} {l:Txt} (h:wrd c=false):StN (c::l):=⟨c,l,rfl,h⟩
theorem stN_app {s r:Txt} (h:StN s):StN (s++r):=by
 obtain ⟨c,l,rfl,h⟩:=h; exact ⟨c,l++r,rfl,h⟩
theorem stN_flat {α:Type} {l:List α} {f:α→Txt} (h:∀x∈l,StN (f x)):(l.map f).flatten= []∨StN (l.map f).flatten:=by
 cases l with
 |nil=>exact .inl rfl
 |cons x r=>exact .inr (by simpa using stN_app (h x (by simp)))
theorem lx_flat {α:Type} {f:α→Txt} {g:α→List TokD}:∀(l:List α),(∀x∈l,StN (f x)∧Lx true (f x) (g x))→Lx true (l.map f).flatten (l.map g).flatten
 | [],_=>Lx.nil true
 |x::r,h=>by
  simp only [List.map_cons,List.flatten_cons]
  exact (h x (by simp)).2.appO (stN_flat fun y hy=>(h y (by simp [hy])).1) (lx_flat r fun y hy=>h y (by simp [hy]))
theorem lx_flatM {α:Type} {f:α→Txt} {g:α→List TokD}:∀(l:List α),(∀x∈l,Lx false (f x) (g x))→Lx false (l.map f).flatten (l.map g).flatten
 | [],_=>Lx.nil false
 |x::r,h=>by
  simp only [List.map_cons,List.flatten_cons]
  exact (h x (by simp)).appM (lx_flatM r fun y hy=>h y (by simp [hy]))
theorem lx_join {α:Type} {f:α→Txt} {g:α→List TokD} {sep:Txt} {w:TokD} (hs:StN sep) (hw:Lx false sep [w]) (l:List α) (h:∀x∈l,Lx true (f x) (g x)):Lx true (Lib.join (l.map f) sep) (sepK w (l.map g)):=by
 cases l with
 |nil=>exact Lx.nil true
 |cons x r=>
  simp only [List.map_cons,Lib.join_cons,Lib.joinTail,sepK,List.map_map]
  refine (h x (by simp)).appO (stN_flat fun y hy=>stN_app hs) (lx_flat r fun y hy=>⟨stN_app hs, ?_⟩)
  exact hw.appM (h y (by simp [hy]))
theorem lx_joinM {α:Type} {f:α→Txt} {g:α→List TokD} {sep:Txt} {w:TokD} (hs:StN sep) (hw:Lx false sep [w]) (l:List α) (h:∀x∈l,Lx false (f x) (g x)):Lx false (Lib.join (l.map f) sep) (sepK w (l.map g)):=by
 cases l with
 |nil=>exact Lx.nil false
 |cons x r=>
  simp only [List.map_cons,Lib.join_cons,Lib.joinTail,sepK,List.map_map]
  exact (h x (by simp)).appM (lx_flatM r fun y hy=>hw.appM (h y (by simp [hy])))
theorem lx_mk (c:UInt8) (h:(markB c && (!ltr c && (!dgt c && (c !=45 && (c !=64 && (c !=35 && (c !=34 && !blankB c)))))))=true):Lx false [c] [mkK c]:=by
 simp only [Bool.and_eq_true,Bool.not_eq_true',bne_iff_ne,ne_eq] at h
 exact lx_mark h.1 h.2.1 h.2.2.1 ⟨h.2.2.2.1,h.2.2.2.2.1,h.2.2.2.2.2.1,h.2.2.2.2.2.2.1⟩ h.2.2.2.2.2.2.2
theorem lx_word {w:Txt} (h:nameOK w=true):Lx false ([32]++w++ [32]) [wdK w]:=(lx_blank.appM (lx_name h)).appN (stN_cons (by decide)) lx_blank
def attrK (a:AttrD):List TokD:= [wdK (catW a.cat),mkK 46,wdK a.name]++(if a.must then [mkK 33] else [])
def matchK (m:MatchD):List TokD:=attrK m.attr++(match opW m.op with| [c]=> [mkK c]|_=> [])++ [valK m.val]
def allK (l:List MatchD):List TokD:=sepK (mkK 44) (l.map matchK)
def anyK (l:List (List MatchD)):List TokD:= [mkK 40]++sepK (wdK [111,114]) (l.map allK)++ [mkK 41]
def tgtK (t:TgtD):List TokD:=if t= [] then [] else [wdK [119,104,101,110]]++sepK (wdK [97,110,100]) (t.map anyK)
theorem nameOK_cat (n:Int):nameOK (catW n)=true:=by
 unfold catW; repeat' split
 all_goals decide
theorem lx_attr {a:AttrD} (h:attrOK a=true):Lx true (attrT a) (attrK a):=by
 simp only [attrOK,Bool.and_eq_true] at h
 have h1:Lx true (catW a.cat++ [46]++a.name) ([wdK (catW a.cat)]++ [mkK 46]++ [wdK a.name]):=
  ((lx_name (nameOK_cat _)).appN (stN_cons (by decide)) (lx_mk 46 (by decide))).appM (lx_name h.2)
 unfold attrT attrK
 cases a.must
 ·simpa using h1
 ·exact (h1.appN (stN_cons (by decide)) (lx_mk 33 (by decide))).weaken
theorem opW_cases (n:Int):opW n= [61]∨opW n= [60]∨opW n= [62]:=by
 unfold opW; split
 ·exact .inl rfl
 ·split
  ·exact .inr (.inl rfl)
  ·exact .inr (.inr rfl)
theorem lx_match {m:MatchD} (h:matchOK m=true) (hi:inV m.val):Lx true (matchT m) (matchK m):=by
 simp only [matchOK,Bool.and_eq_true] at h
 have h1:=lx_attr h.1.1.1
 have h2:=lx_val h.2 hi
 have go:∀c,Lx false [c] [mkK c]→Lx true (attrT m.attr++ [32]++ [c]++ [32]++valT m.val) (attrK m.attr++ [mkK c]++ [valK m.val]):=fun c hc=>by
  have:=(((h1.appN (stN_cons (by decide)) lx_blank).appM hc).appM lx_blank).appM h2
  simpa using this
 unfold matchT matchK
 rcases opW_cases m.op with e|e|e<;>rw [e]
 ·exact go 61 (lx_mk 61 (by decide))
 ·exact go 60 (lx_mk 60 (by decide))
 ·exact go 62 (lx_mk 62 (by decide))
theorem allE_ok {l:List MatchD} (h:allE l=0):1≤l.length∧l.length≤8∧∀m∈l,matchOK m=true:=by
 unfold allE manyE at h
 by_cases h0:l.length=0
 ·simp [h0] at h
 by_cases h8:l.length>8
 ·simp [h0,h8] at h
 ·simp only [h0,h8,if_false,if_true] at h
  split at h
  ·rename_i hm; exact ⟨by omega,by omega,List.all_eq_true.1 hm⟩
  ·cases h
theorem firstE_ok {α:Type} {f:α→Int}:∀ {l:List α},firstE f l=0→∀x∈l,f x=0
 | [],_,x,hx=>by cases hx
 |y::r,h,x,hx=>by
  simp only [firstE] at h
  split at h
  ·rename_i hy
   rcases List.mem_cons.1 hx with rfl|hx
   ·exact hy
   ·exact firstE_ok h x hx
  ·rename_i hy; exact absurd h hy
theorem anyE_ok {l:List (List MatchD)} (h:anyE l=0):1≤l.length∧l.length≤8∧∀m∈l,allE m=0:=by
 unfold anyE manyE at h
 by_cases h0:l.length=0
 ·simp [h0] at h
 by_cases h8:l.length>8
 ·simp [h0,h8] at h
 ·simp only [h0,h8,if_false,if_true] at h
  exact ⟨by omega,by omega,firstE_ok h⟩
theorem tgtE_ok {t:TgtD} (h:tgtE t=0):t.length≤8∧∀m∈t,anyE m=0:=by
 unfold tgtE at h
 split at h
 ·cases h
 ·exact ⟨by omega,firstE_ok h⟩
theorem lx_all {l:List MatchD} (h:allE l=0) (hi:inA l):Lx true (allT l) (allK l):=
 lx_join (sep:= [44,32]) (stN_cons (by decide)) (by simpa using (lx_mk 44 (by decide)).appM lx_blank) l fun m hm=>lx_match ((allE_ok h).2.2 m hm) (hi m hm)
theorem lx_any {l:List (List MatchD)} (h:anyE l=0) (hi:inY l):Lx false (anyT l) (anyK l):=by
 have h1:Lx true (Lib.join (l.map allT) [32,111,114,32]) (sepK (wdK [111,114]) (l.map allK)):=
  lx_join (stN_cons (by decide)) (lx_word (w:= [111,114]) (by decide)) l fun m hm=>lx_all ((anyE_ok h).2.2 m hm) (hi m hm)
 exact ((lx_mk 40 (by decide)).appM h1).appN (stN_cons (by decide)) (lx_mk 41 (by decide))
theorem lx_tgt {t:TgtD} (h:tgtE t=0) (hi:inT t):Lx false (tgtT t) (tgtK t):=by
 unfold tgtT tgtK
 by_cases h0:t= []
 ·rw [if_pos h0,if_pos h0]; exact Lx.nil false
 ·rw [if_neg h0,if_neg h0]
  have h1:Lx false (Lib.join (t.map anyT) [32,97,110,100,32]) (sepK (wdK [97,110,100]) (t.map anyK)):=
   lx_joinM (stN_cons (by decide)) (lx_word (w:= [97,110,100]) (by decide)) t fun m hm=>lx_any ((tgtE_ok h).2 m hm) (hi m hm)
  exact (lx_word (w:= [119,104,101,110]) (by decide)).appM h1
theorem stN_tgt (t:TgtD):tgtT t= []∨StN (tgtT t):=by
 unfold tgtT; split
 ·exact .inl rfl
 ·exact .inr (stN_cons (by decide))
end Go.Bf

set_option linter.unusedSimpArgs false
set_option linter.unusedVariables false
namespace Go.Bf
open Go Go.Ab
def zV:ValD:=⟨0,0,[]⟩
def zA:AttrD:=⟨0,[],false⟩
inductive Tree:List NodeD→Bool→Txt→List TokD→Prop
 |lit (v:ValD) (h:valOK v=true) (hi:inV v):Tree [⟨1,v,zA⟩] false (valT v) [valK v]
 |attr (a:AttrD) (h:attrOK a=true):Tree [⟨2,zV,a⟩] true (attrT a) (attrK a)
 |one {op:Int} {w:Bool} {l:List NodeD} {t:Txt} {k:List TokD} (ho:op=3∧w=true∨op=4∧w=true∨op=11∧w=false) (h:Tree l w t k):
   Tree (l++ [⟨op,zV,zA⟩]) false ([40]++fnW op++ [32]++t++ [41]) ([mkK 40,wdK (fnW op)]++k++ [mkK 41])
 |two {op:Int} {w1 w2:Bool} {l1 l2:List NodeD} {t1 t2:Txt} {k1 k2:List TokD} (ho:op=5∧w1=true∧w2=false∨6≤op∧op≤13∧op≠11∧w1=false∧w2=false) (h1:Tree l1 w1 t1 k1) (h2:Tree l2 w2 t2 k2):
   Tree (l1++l2++ [⟨op,zV,zA⟩]) false ([40]++fnW op++ [32]++(t1++ [32]++t2)++ [41]) ([mkK 40,wdK (fnW op)]++(k1++k2)++ [mkK 41])
theorem nameOK_fn (n:Int):nameOK (fnW n)=true:=by
 unfold fnW; repeat' split
 all_goals decide
theorem lx_tree {l:List NodeD} {b:Bool} {t:Txt} {k:List TokD} (h:Tree l b t k):Lx true t k:=by
 induction h with
 |lit v h hi=>exact lx_val h hi
 |attr a h=>exact lx_attr h
 | @one op w l t k ho h ih=>
  have h1:=((lx_mk 40 (by decide)).appM (lx_name (nameOK_fn op))).appN (stN_cons (by decide)) lx_blank
  have:=(h1.appM ih).appN (stN_cons (by decide)) (lx_mk 41 (by decide))
  exact (by simpa using this:Lx false _ _).weaken
 | @two op w1 w2 l1 l2 t1 t2 k1 k2 ho h1 h2 ih1 ih2=>
  have g1:=((lx_mk 40 (by decide)).appM (lx_name (nameOK_fn op))).appN (stN_cons (by decide)) lx_blank
  have g2:=(ih1.appN (stN_cons (by decide)) lx_blank).appM ih2
  have:=(g1.appM g2).appN (stN_cons (by decide)) (lx_mk 41 (by decide))
  exact (by simpa using this:Lx false _ _).weaken
def stepK (st:List (List TokD)) (n:NodeD):List (List TokD):=
 if n.op=1 then st++ [[valK n.val]] else if n.op=2 then st++ [attrK n.attr]
 else st.take (st.length - arity n.op)++ [[mkK 40,wdK (fnW n.op)]++(st.drop (st.length - arity n.op)).flatten++ [mkK 41]]
def exprK (l:List NodeD):List TokD:=(l.foldl stepK []).headD []
abbrev Quad:=List NodeD×Bool×Txt×List TokD
def QOK (q:Quad):Prop:=Tree q.1 q.2.1 q.2.2.1 q.2.2.2
theorem zeroV_eq {v:ValD} (h:zeroV v=true):v=zV:=by
 obtain ⟨a,b,c⟩:=v
 simp only [zeroV,Bool.and_eq_true,beq_iff_eq] at h
 obtain ⟨rfl,rfl,rfl⟩:=h; rfl
theorem zeroAt_eq {v:AttrD} (h:zeroAt v=true):v=zA:=by
 obtain ⟨a,b,c⟩:=v
 simp only [zeroAt,Bool.and_eq_true,beq_iff_eq] at h
 obtain ⟨rfl,rfl,rfl⟩:=h; rfl
theorem step_quad {bs bs' :List Bool} {n:NodeD} (h:stepD bs n=some bs') (hi:inV n.val) (qs:List Quad) (hq:∀q∈qs,QOK q) (hb:qs.map (·.2.1)=bs):
  ∃qs' :List Quad,(∀q∈qs',QOK q)∧qs'.map (·.2.1)=bs'∧qs'.map (·.2.2.1)=stepT (qs.map (·.2.2.1)) n∧qs'.map (·.2.2.2)=stepK (qs.map (·.2.2.2)) n∧(qs'.map (·.1)).flatten=(qs.map (·.1)).flatten++ [n]:=by
 unfold stepD at h
 cases hw:wantsD n.op with
 |none=>rw [hw] at h; cases h
 |some w=>
  rw [hw] at h
  simp only at h
  split at h
  ·rename_i hc
   obtain ⟨hf,hlen,hdr⟩:=hc
   cases h
   obtain ⟨op,v,a⟩:=n
   simp only at hw hf hi⊢
   have hl:qs.length=bs.length:=by rw [←hb,List.length_map]
   by_cases h1:op=1
   ·subst h1
    have:w= []:=by simp [wantsD] at hw; exact hw
    subst this
    simp only [fieldsOK,if_true,Bool.and_eq_true] at hf
    rw [zeroAt_eq hf.2]
    refine ⟨qs++ [([⟨1,v,zA⟩],false,valT v,[valK v])],fun q hq' => ?_, ?_, ?_, ?_, ?_⟩
    ·rcases List.mem_append.1 hq' with h|h
     ·exact hq q h
     ·rw [List.mem_singleton.1 h]; exact .lit v hf.1 hi
    ·simp [hb]
    ·simp [stepT]
    ·simp [stepK]
    ·simp
   by_cases h2:op=2
   ·subst h2
    have:w= []:=by simp [wantsD] at hw; exact hw
    subst this
    simp only [fieldsOK,show¬(2:Int)=1 by decide,if_false,if_true,Bool.and_eq_true] at hf
    rw [zeroV_eq hf.2]
    refine ⟨qs++ [([⟨2,zV,a⟩],true,attrT a,attrK a)],fun q hq' => ?_, ?_, ?_, ?_, ?_⟩
    ·rcases List.mem_append.1 hq' with h|h
     ·exact hq q h
     ·rw [List.mem_singleton.1 h]; exact .attr a hf.1
    ·simp [hb]
    ·simp [stepT]
    ·simp [stepK]
    ·simp
   simp only [fieldsOK,h1,h2,if_false,Bool.and_eq_true] at hf
   rw [zeroV_eq hf.1,zeroAt_eq hf.2]
   have hsplit:qs=qs.take (qs.length - w.length)++qs.drop (qs.length - w.length):=(List.take_append_drop ..).symm
   have hdb:(qs.drop (qs.length - w.length)).map (·.2.1)=w:=by rw [List.map_drop,hb,hl]; exact hdr
   have htb:(qs.take (qs.length - w.length)).map (·.2.1)=bs.take (bs.length - w.length):=by rw [List.map_take,hb,hl]
   have hdl:(qs.drop (qs.length - w.length)).length=w.length:=by rw [←List.length_map (f:=fun q:Quad=>q.2.1),hdb]
   generalize qs.take (qs.length - w.length)=ta at hsplit htb
   generalize qs.drop (qs.length - w.length)=dr at hsplit hdb hdl
   subst hsplit
   have hopb:((op:Int)==2)=false:=by simpa using h2
   have hta:∀q∈ta,QOK q:=fun q h=>hq q (List.mem_append.2 (.inl h))
   have hdq:∀q∈dr,QOK q:=fun q h=>hq q (List.mem_append.2 (.inr h))
   have one:∀b,w= [b]→arity op=1→(op=3∧b=true∨op=4∧b=true∨op=11∧b=false)→∃qs' :List Quad,(∀q∈qs',QOK q)∧qs'.map (·.2.1)=bs.take (bs.length - w.length)++ [op==2]∧qs'.map (·.2.2.1)=stepT ((ta++dr).map (·.2.2.1)) ⟨op,zV,zA⟩∧qs'.map (·.2.2.2)=stepK ((ta++dr).map (·.2.2.2)) ⟨op,zV,zA⟩∧(qs'.map (·.1)).flatten=((ta++dr).map (·.1)).flatten++ [⟨op,zV,zA⟩]:=by
    rintro b rfl ha ho
    obtain ⟨q,rfl⟩:∃q,dr= [q]:=List.length_eq_one_iff.1 hdl
    have hqb:q.2.1=b:=by simpa using hdb
    have hq1:Tree q.1 b q.2.2.1 q.2.2.2:=by rw [←hqb]; exact hdq q (by simp)
    refine ⟨ta++ [(q.1++ [⟨op,zV,zA⟩],false,[40]++fnW op++ [32]++q.2.2.1++ [41],[mkK 40,wdK (fnW op)]++q.2.2.2++ [mkK 41])],fun p hp=> ?_, ?_, ?_, ?_, ?_⟩
    ·rcases List.mem_append.1 hp with h|h
     ·exact hta p h
     ·rw [List.mem_singleton.1 h]; exact .one ho hq1
    ·rw [List.map_append,htb,hopb]; rfl
    ·simp [stepT,h1,h2,ha,Lib.join_one]
    ·simp [stepK,h1,h2,ha]
    ·simp
   have two:∀b1 b2,w= [b1,b2]→arity op=2→(op=5∧b1=true∧b2=false∨6≤op∧op≤13∧op≠11∧b1=false∧b2=false)→∃qs' :List Quad,(∀q∈qs',QOK q)∧qs'.map (·.2.1)=bs.take (bs.length - w.length)++ [op==2]∧qs'.map (·.2.2.1)=stepT ((ta++dr).map (·.2.2.1)) ⟨op,zV,zA⟩∧qs'.map (·.2.2.2)=stepK ((ta++dr).map (·.2.2.2)) ⟨op,zV,zA⟩∧(qs'.map (·.1)).flatten=((ta++dr).map (·.1)).flatten++ [⟨op,zV,zA⟩]:=by
    rintro b1 b2 rfl ha ho
    obtain ⟨q,q2,rfl⟩:∃q q2,dr= [q,q2]:=by
     match dr,hdl with
     | [q,q2],_=>exact ⟨q,q2,rfl⟩
    have hqb:q.2.1=b1∧q2.2.1=b2:=by simpa using hdb
    have hq1:Tree q.1 b1 q.2.2.1 q.2.2.2:=by rw [←hqb.1]; exact hdq q (by simp)
    have hq2:Tree q2.1 b2 q2.2.2.1 q2.2.2.2:=by rw [←hqb.2]; exact hdq q2 (by simp)
    refine ⟨ta++ [(q.1++q2.1++ [⟨op,zV,zA⟩],false,[40]++fnW op++ [32]++(q.2.2.1++ [32]++q2.2.2.1)++ [41],[mkK 40,wdK (fnW op)]++(q.2.2.2++q2.2.2.2)++ [mkK 41])],fun p hp=> ?_, ?_, ?_, ?_, ?_⟩
    ·rcases List.mem_append.1 hp with h|h
     ·exact hta p h
     ·rw [List.mem_singleton.1 h]; exact .two ho hq1 hq2
    ·rw [List.map_append,htb,hopb]; rfl
    ·simp [stepT,h1,h2,ha,Lib.join_cons,Lib.joinTail]
    ·simp [stepK,h1,h2,ha]
    ·simp
   unfold wantsD at hw
   rw [if_neg (fun h=>h.elim h1 h2)] at hw
   split at hw
   ·rename_i h34
    cases hw
    refine one true rfl (by unfold arity; rw [if_pos]; omega) ?_
    rcases h34 with h|h
    ·exact .inl ⟨h,rfl⟩
    ·exact .inr (.inl ⟨h,rfl⟩)
   ·split at hw
    ·rename_i h5
     cases hw
     exact two true false rfl (by unfold arity; rw [if_neg]; omega) (.inl ⟨h5,rfl,rfl⟩)
    ·split at hw
     ·rename_i h11
      cases hw
      exact one false rfl (by unfold arity; rw [if_pos]; omega) (.inr (.inr ⟨h11,rfl⟩))
     ·split at hw
      ·rename_i h34 h5 h11 h613
       cases hw
       exact two false false rfl (by unfold arity; rw [if_neg]; omega) (.inr ⟨h613.1,h613.2,h11,rfl,rfl⟩)
      ·cases hw
  ·cases h
theorem steps_quad:∀(l:List NodeD) (bs bs' :List Bool) (qs:List Quad),stepsD bs l=some bs'→inL l→(∀q∈qs,QOK q)→qs.map (·.2.1)=bs→
  ∃qs' :List Quad,(∀q∈qs',QOK q)∧qs'.map (·.2.1)=bs'∧qs'.map (·.2.2.1)=l.foldl stepT (qs.map (·.2.2.1))∧qs'.map (·.2.2.2)=l.foldl stepK (qs.map (·.2.2.2))∧(qs'.map (·.1)).flatten=(qs.map (·.1)).flatten++l
 | [],bs,bs',qs,h,_,hq,hb=>by
  simp only [stepsD,Option.some.injEq] at h
  subst h
  exact ⟨qs,hq,hb,rfl,rfl,by simp⟩
 |n::r,bs,bs',qs,h,hi,hq,hb=>by
  simp only [stepsD] at h
  cases hs:stepD bs n with
  |none=>rw [hs] at h; cases h
  |some b1=>
   rw [hs] at h
   obtain ⟨q1,a1,a2,a3,a4,a5⟩:=step_quad hs (hi n (by simp)) qs hq hb
   obtain ⟨q2,c1,c2,c3,c4,c5⟩:=steps_quad r b1 bs' q1 h (fun m hm=>hi m (by simp [hm])) a1 a2
   exact ⟨q2,c1,c2,by rw [c3,a3]; rfl,by rw [c4,a4]; rfl,by rw [c5,a5]; simp⟩
theorem expr_tree {l:List NodeD} (h:exprE l=0) (hn:l≠ []) (hi:inL l):Tree l false (exprT l) (exprK l):=by
 obtain ⟨_,hs⟩:=exprE_zero h hn
 obtain ⟨qs,h1,h2,h3,h4,h5⟩:=steps_quad l [] [false] [] hs hi (fun q hq=>by cases hq) rfl
 obtain ⟨q,rfl⟩:∃q,qs= [q]:=List.length_eq_one_iff.1 (by rw [←List.length_map (f:=fun q:Quad=>q.2.1),h2]; rfl)
 have hq:=h1 q (by simp)
 have e1:q.2.1=false:=by simpa using h2
 have e3:exprT l=q.2.2.1:=by unfold exprT; rw [show l.foldl stepT []= [q.2.2.1] from h3.symm]; rfl
 have e4:exprK l=q.2.2.2:=by unfold exprK; rw [show l.foldl stepK []= [q.2.2.2] from h4.symm]; rfl
 have e5:q.1=l:=by simpa using h5
 unfold QOK at hq
 rw [e1,e5] at hq
 rw [e3,e4]; exact hq
end Go.Bf

set_option linter.unusedSimpArgs false
set_option linter.unusedVariables false
namespace Go.Bf
open Go Go.Ab
def oblK (o:OblD):List TokD:= [wdK [111,110],wdK (onW o.on),wdK (dutyW o.kind),wdK o.arg]
def oblsK (l:List OblD):List TokD:=(l.map oblK).flatten
def condK (l:List NodeD):List TokD:=if l= [] then [] else [wdK [105,102]]++exprK l
def effW (deny:Bool):Txt:=if deny then [100,101,110,121] else [112,101,114,109,105,116]
def ruleK (r:RuleD):List TokD:= [wdK (effW r.deny),wdK r.id]++tgtK r.tgt++condK r.cond++oblsK r.obls++ [mkK 59]
def kindW (set:Bool):Txt:=if set then [115,101,116] else [112,111,108,105,99,121]
mutual
def polK:PolD→List TokD
 | .mk id set alg tgt rules kids obls=> [wdK (kindW set),wdK id,wdK (algW alg)]++tgtK tgt++ [mkK 123]++(rules.map ruleK).flatten++kidsTK kids++ [mkK 125]++oblsK obls
def kidsTK:List PolD→List TokD
 | []=> []
 |k::r=>polK k++kidsTK r
end
theorem nameOK_on (n:Int):nameOK (onW n)=true:=by unfold onW; split<;>decide
theorem nameOK_duty (n:Int):nameOK (dutyW n)=true:=by
 unfold dutyW; repeat' split
 all_goals decide
theorem nameOK_alg (n:Int):nameOK (algW n)=true:=by
 unfold algW; repeat' split
 all_goals decide
theorem oblsE_ok {l:List OblD} (h:oblsE l=0):l.length≤8∧∀o∈l,oblOK o=true:=by
 unfold oblsE at h
 split at h
 ·cases h
 ·split at h
  ·rename_i hm; exact ⟨by omega,List.all_eq_true.1 hm⟩
  ·cases h
theorem lx_obl {o:OblD} (h:oblOK o=true):Lx true (oblT o) (oblK o):=by
 simp only [oblOK,Bool.and_eq_true] at h
 have h1:=lx_word (w:= [111,110]) (by decide)
 have h2:=(h1.appM (lx_name (nameOK_on o.on))).appN (stN_cons (by decide)) lx_blank
 have h3:=(h2.appM (lx_name (nameOK_duty o.kind))).appN (stN_cons (by decide)) lx_blank
 have h4:=h3.appM (lx_name h.2)
 simpa [oblT,oblK] using h4
theorem stN_obl (o:OblD):StN (oblT o):=by unfold oblT; exact stN_cons (by decide)
theorem lx_obls {l:List OblD} (h:oblsE l=0):Lx true (oblsT l) (oblsK l):=lx_flat l fun o ho=>⟨stN_obl o,lx_obl ((oblsE_ok h).2 o ho)⟩
theorem stN_obls (l:List OblD):oblsT l= []∨StN (oblsT l):=stN_flat fun o _=>stN_obl o
theorem stN_or {a b:Txt} (h:a= []∨StN a) (hb:StN b):StN (a++b):=by
 rcases h with rfl|h
 ·exact hb
 ·exact stN_app h
theorem lx_cond {l:List NodeD} (h:exprE l=0) (hi:inL l):Lx true (if l= [] then [] else [32,105,102,32]++exprT l) (condK l):=by
 unfold condK
 by_cases h0:l= []
 ·rw [if_pos h0,if_pos h0]; exact Lx.nil true
 ·rw [if_neg h0,if_neg h0]
  exact (lx_word (w:= [105,102]) (by decide)).appM (lx_tree (expr_tree h h0 hi))
theorem stN_cond (l:List NodeD):(if l= [] then [] else [32,105,102,32]++exprT l)= []∨StN (if l= [] then [] else [32,105,102,32]++exprT l):=by
 by_cases h0:l= []
 ·rw [if_pos h0]; exact .inl rfl
 ·rw [if_neg h0]; exact .inr (stN_cons (by decide))
theorem lx_rule {r:RuleD} (h:ruleE r) (hi:inR r):Lx false (ruleT r) (ruleK r):=by
 have he:Lx false (if r.deny then [32,100,101,110,121,32] else [32,112,101,114,109,105,116,32]) [wdK (effW r.deny)]:=by
  cases r.deny
  ·exact lx_word (w:= [112,101,114,109,105,116]) (by decide)
  ·exact lx_word (w:= [100,101,110,121]) (by decide)
 have g1:=lx_tgt h.2.1 hi.1
 have g2:=lx_cond h.2.2.1 hi.2
 have g3:=lx_obls h.2.2.2
 have a0:Lx true (oblsT r.obls++ [59]) (oblsK r.obls++ [mkK 59]):=(g3.appN (stN_cons (by decide)) (lx_mk 59 (by decide))).weaken
 have a1:Lx false (oblsT r.obls++ [59]) (oblsK r.obls++ [mkK 59]):=g3.appN (stN_cons (by decide)) (lx_mk 59 (by decide))
 have a2:Lx false ((if r.cond= [] then [] else [32,105,102,32]++exprT r.cond)++(oblsT r.obls++ [59])) (condK r.cond++(oblsK r.obls++ [mkK 59])):=g2.appN (stN_or (stN_obls _) (stN_cons (by decide))) a1
 have a3:=g1.appM a2
 have a4:=he.appM ((lx_name h.1).appN (by
  rcases stN_tgt r.tgt with e|e
  ·rw [e,List.nil_append]; exact stN_or (stN_cond _) (stN_or (stN_obls _) (stN_cons (by decide)))
  ·exact stN_app e) a3)
 unfold ruleT ruleK
 simpa using a4
mutual
theorem lx_pol:∀(p:PolD) (d:Nat),polE d p→inP p→Lx true (polT p) (polK p)
 | .mk id set alg tgt rules kids obls,d,h,hi=>by
  simp only [polE] at h
  obtain ⟨_,hid,_,_,_,_,htg,hob,_,_,hru,hki⟩:=h
  simp only [inP] at hi
  have hk:Lx false (if set then [115,101,116,32] else [112,111,108,105,99,121,32]) [wdK (kindW set)]:=by
   cases set
   ·exact (lx_name (s:= [112,111,108,105,99,121]) (by decide)).appN (stN_cons (by decide)) lx_blank
   ·exact (lx_name (s:= [115,101,116]) (by decide)).appN (stN_cons (by decide)) lx_blank
  have g1:=lx_tgt htg hi.1
  have b1:Lx false ([32]++ [123]) ([]++ [mkK 123]):=lx_blank.appM (lx_mk 123 (by decide))
  have b2:=g1.appM b1
  have b3:=(((lx_name hid).appN (stN_cons (by decide)) lx_blank).appM (lx_name (nameOK_alg alg))).appN (by
   rcases stN_tgt tgt with e|e
   ·rw [e]; exact stN_cons (by decide)
   ·exact stN_app e) b2
  have r1:Lx false (rules.map ruleT).flatten (rules.map ruleK).flatten:=lx_flatM rules fun r hr=>lx_rule (hru r hr) (hi.2.1 r hr)
  have k1:=lx_kids kids (d+1) hki hi.2.2
  have c1:Lx false ([32]++ [125]) ([]++ [mkK 125]):=lx_blank.appM (lx_mk 125 (by decide))
  have c2:=(k1.appN (stN_cons (by decide)) c1).appM (lx_obls hob)
  have:=((hk.appM b3).appM r1).appM c2
  simp only [polT,polK]
  simpa using this
theorem lx_kids:∀(l:List PolD) (d:Nat),kidsE d l→inK l→Lx true (kidsT l) (kidsTK l)
 | [],d,_,_=>Lx.nil true
 |k::r,d,h,hi=>by
  simp only [kidsE] at h
  simp only [inK] at hi
  simp only [kidsT,kidsTK]
  have h1:=lx_blank.appM (lx_pol k d h.1 hi.1)
  have h2:=lx_kids r d h.2 hi.2
  refine h1.appO ?_ h2
  cases r with
  |nil=>exact .inl rfl
  |cons _ _=>simp only [kidsT]; exact .inr (stN_cons (by decide))
end
theorem lex_pol {p:PolD} (h:polE 1 p) (hi:inP p) {f:Nat} (hf:(polT p).length<f):∃ts,lexF f (polT p) 0 []= .ok ts∧ts.map er=polK p++ [endK]:=by
 have hx:=lx_pol p 1 h hi [] f 0 [] (fun _=>Sep.nil) (by simpa using hf)
 obtain ⟨f',new,h1,h2,h3⟩:=hx
 rw [List.append_nil] at h3
 obtain ⟨g,rfl⟩:∃g,f' =g+1:=⟨f' - 1,by simp at h1; omega⟩
 refine ⟨new++ [⟨7,((0+(polT p).length:Nat):Int),0,[]⟩],by rw [h3]; simp [lexF], ?_⟩
 rw [List.map_append,h2]; rfl
end Go.Bf

set_option linter.unusedSimpArgs false
set_option linter.unusedVariables false
namespace Go.Bf
open Go Go.Ab
def At (st:PS) (ks:List TokD):Prop:=st.bad=0∧(st.ts.drop st.pos).map er=ks
def St (a b:PS):Prop:=b.rules=a.rules∧b.ts=a.ts
theorem St.refl (a:PS):St a a:=⟨rfl,rfl⟩
theorem St.trans {a b c:PS} (x:St a b) (y:St b c):St a c:=⟨y.1.trans x.1,y.2.trans x.2⟩
def isK (k:TokD) (w:Txt):Bool:=k.s==w && (k.kind==1||k.kind==6)
def Reads {α:Type} (r:α×PS) (st:PS) (x:α) (ks:List TokD):Prop:=∃st',r=(x,st')∧At st' ks∧St st st'
theorem at_drop {st:PS} {k:TokD} {ks:List TokD} (h:At st (k::ks)):∃t r,st.ts.drop st.pos=t::r∧er t=k∧r.map er=ks∧st.ts.drop (st.pos+1)=r∧hereD st=t:=by
 obtain ⟨_,h⟩:=h
 cases hd:st.ts.drop st.pos with
 |nil=>rw [hd] at h; cases h
 |cons t r=>
  rw [hd] at h
  simp only [List.map_cons,List.cons.injEq] at h
  refine ⟨t,r,rfl,h.1,h.2, ?_, ?_⟩
  ·rw [←List.drop_drop,hd]; rfl
  ·have hlt:st.pos<st.ts.length:=by
    rcases Nat.lt_or_ge st.pos st.ts.length with h|h
    ·exact h
    ·rw [List.drop_eq_nil_of_le h] at hd; cases hd
   rw [hereD_eq hlt]
   rw [List.drop_eq_getElem_cons hlt] at hd
   exact (List.cons.inj hd).1
theorem at_here {st:PS} {k:TokD} {ks:List TokD} (h:At st (k::ks)):(hereD st).kind=k.kind∧(hereD st).n=k.n∧(hereD st).s=k.s:=by
 obtain ⟨t,r,_,h1,_,_,h2⟩:=at_drop h
 rw [h2,←h1]
 exact ⟨rfl,rfl,rfl⟩
theorem at_next {st:PS} {k:TokD} {ks:List TokD} (h:At st (k::ks)):At (nextD st) ks∧St st (nextD st):=by
 obtain ⟨t,r,_,_,h1,h2,_⟩:=at_drop h
 exact ⟨⟨h.1,by show (st.ts.drop (st.pos+1)).map er=ks; rw [h2]; exact h1⟩,rfl,rfl⟩
theorem at_is {st:PS} {k:TokD} {ks:List TokD} (h:At st (k::ks)) (w:Txt):isD st w=isK k w:=by
 obtain ⟨h1,_,h3⟩:=at_here h
 simp only [isD,isK,h.1,h1,h3,beq_self_eq_true,Bool.true_and]
theorem at_len {st:PS} {ks:List TokD} (h:At st ks):ks.length≤st.ts.length:=by
 rw [←h.2,List.length_map,List.length_drop]; omega
theorem rd_must {st:PS} {k:TokD} {ks:List TokD} {w:Txt} (h:At st (k::ks)) (hk:isK k w=true):At (mustD st w) ks∧St st (mustD st w):=by
 unfold mustD; rw [at_is h,if_pos hk]; exact at_next h
theorem rd_name {st:PS} {s:Txt} {ks:List TokD} (h:At st (wdK s::ks)):Reads (nameP st) st s ks:=by
 obtain ⟨h1,_,h3⟩:=at_here h
 have h1' :(hereD st).kind=1:=h1
 unfold nameP
 rw [if_pos ⟨h1',h.1⟩,show (hereD st).s=s from h3]
 exact ⟨_,rfl,at_next h⟩
theorem rd_among {st:PS} {s:Txt} {ks:List TokD} {ws:List Txt} {i:Nat} (h:At st (wdK s::ks)) (hi:idxT s ws=some i):Reads (amongD st ws) st ((i:Int)+1) ks:=by
 obtain ⟨h1,_,h3⟩:=at_here h
 have h1' :(hereD st).kind=1:=h1
 have h3' :(hereD st).s=s:=h3
 unfold amongD
 rw [h3',hi]
 simp only
 rw [if_pos ⟨h1',h.1⟩]
 exact ⟨_,rfl,at_next h⟩
theorem rd_take {st:PS} {k:TokD} {ks:List TokD} {w:Txt} (h:At st (k::ks)):Reads (takeD st w) st (isK k w) (if isK k w=true then ks else k::ks):=by
 unfold takeD; rw [at_is h]
 cases hk:isK k w
 ·exact ⟨st,rfl,h, .refl _⟩
 ·exact ⟨_,rfl,at_next h⟩
theorem idx_cat {n:Int} (h1:1≤n) (h4:n≤4):∃i,idxT (catW n) catWs=some i∧(i:Int)+1=n:=by
 have:n=1∨n=2∨n=3∨n=4:=by omega
 rcases this with rfl|rfl|rfl|rfl
 ·exact ⟨0,rfl,rfl⟩
 ·exact ⟨1,rfl,rfl⟩
 ·exact ⟨2,rfl,rfl⟩
 ·exact ⟨3,rfl,rfl⟩
theorem rd_attr {st:PS} {a:AttrD} {k:TokD} {ks:List TokD} (ha:attrOK a=true) (h:At st (attrK a++k::ks)) (hk:isK k [33]=false):Reads (attrP st) st a (k::ks):=by
 obtain ⟨cat,nm,must⟩:=a
 simp only [attrOK,Bool.and_eq_true,decide_eq_true_eq] at ha
 obtain ⟨i,hi,hic⟩:=idx_cat ha.1.1 ha.1.2
 simp only [attrK,List.cons_append,List.nil_append] at h
 obtain ⟨s1,e1,a1,t1⟩:=rd_among h hi
 obtain ⟨a2,t2⟩:=rd_must (w:= [46]) a1 rfl
 obtain ⟨s3,e3,a3,t3⟩:=rd_name a2
 unfold attrP
 rw [e1]
 simp only
 rw [e3]
 simp only
 cases must
 ·simp only [Bool.false_eq_true,if_false,List.nil_append] at a3
  obtain ⟨s4,e4,a4,t4⟩:=rd_take (w:= [33]) a3
  rw [hk] at e4 a4
  rw [e4]
  exact ⟨s4,by simp only [hic],by simpa using a4,((t1.trans t2).trans t3).trans t4⟩
 ·simp only [if_true,List.cons_append,List.nil_append] at a3
  obtain ⟨s4,e4,a4,t4⟩:=rd_take (w:= [33]) a3
  rw [show isK (mkK 33) [33]=true from rfl] at e4 a4
  rw [e4]
  exact ⟨s4,by simp only [hic],by simpa using a4,((t1.trans t2).trans t3).trans t4⟩
theorem rd_value {st:PS} {v:ValD} {ks:List TokD} (hv:valOK v=true) (h:At st (valK v::ks)):Reads (valueP st) st v ks:=by
 obtain ⟨h1,h2,h3⟩:=at_here h
 have hn:=at_next h
 have go:∀x,valueV st=(x,st)→x=v→Reads (valueP st) st v ks:=fun x e ex=>by
  unfold valueP; rw [e]; simp only [h.1,if_true]; rw [ex]; exact ⟨_,rfl,hn⟩
 obtain ⟨kind,n,s⟩:=v
 unfold valOK at hv
 simp only at hv
 by_cases k1:kind=1
 ·subst k1
  simp only [if_true,Bool.and_eq_true,Bool.or_eq_true,beq_iff_eq] at hv
  obtain ⟨hn0,rfl⟩:=hv
  have b1:=at_is h trueT
  have b2:=at_is h falseT
  rcases hn0 with rfl|rfl
  ·refine go ⟨1,0,[]⟩ ?_ rfl
   have h1' :(hereD st).kind=1:=h1
   rw [show isK (valK ⟨1,0,[]⟩) trueT=false from by decide] at b1
   rw [show isK (valK ⟨1,0,[]⟩) falseT=true from by decide] at b2
   simp [valueV,h1',b1,b2]
  ·refine go ⟨1,1,[]⟩ ?_ rfl
   have h1' :(hereD st).kind=1:=h1
   rw [show isK (valK ⟨1,1,[]⟩) trueT=true from by decide] at b1
   simp [valueV,h1',b1]
 by_cases k4:kind=4
 ·subst k4
  simp only [show¬(4:Int)=1 by decide,show¬(4:Int)=2 by decide,show¬(4:Int)=3 by decide,if_false,if_true,Bool.and_eq_true,beq_iff_eq] at hv
  obtain ⟨_,rfl⟩:=hv
  have h1' :(hereD st).kind=3:=h1
  have h2' :(hereD st).n=n:=h2
  have h3' :(hereD st).s= []:=h3
  refine go ⟨4,n,[]⟩ ?_ rfl
  simp [valueV,h1',h2',h3']
 by_cases k5:kind=5
 ·subst k5
  simp only [show¬(5:Int)=1 by decide,show¬(5:Int)=2 by decide,show¬(5:Int)=3 by decide,show¬(5:Int)=4 by decide,if_false,if_true,Bool.and_eq_true,beq_iff_eq] at hv
  obtain ⟨rfl,_⟩:=hv
  have h1' :(hereD st).kind=4:=h1
  have h2' :(hereD st).n=0:=h2
  have h3' :(hereD st).s=s:=h3
  refine go ⟨5,0,s⟩ ?_ rfl
  simp [valueV,h1',h2',h3']
 by_cases k3:kind=3
 ·subst k3
  simp only [show¬(3:Int)=1 by decide,show¬(3:Int)=2 by decide,if_false,if_true,Bool.and_eq_true,beq_iff_eq] at hv
  obtain ⟨rfl,_⟩:=hv
  have h1' :(hereD st).kind=5:=h1
  have h2' :(hereD st).n=0:=h2
  have h3' :(hereD st).s=s:=h3
  refine go ⟨3,0,s⟩ ?_ rfl
  simp [valueV,h1',h2',h3']
 by_cases k2:kind=2
 ·subst k2
  simp only [show¬(2:Int)=1 by decide,if_false,if_true,beq_iff_eq] at hv
  subst hv
  have h1' :(hereD st).kind=2:=h1
  have h2' :(hereD st).n=n:=h2
  have h3' :(hereD st).s= []:=h3
  refine go ⟨2,n,[]⟩ ?_ rfl
  simp [valueV,h1',h2',h3']
 ·simp [k1,k2,k3,k4,k5] at hv
theorem rd_match {st:PS} {m:MatchD} {ks:List TokD} (hm:matchOK m=true) (h:At st (matchK m++ks)):Reads (matchP st) st m ks:=by
 obtain ⟨a,op,v⟩:=m
 simp only [matchOK,Bool.and_eq_true,decide_eq_true_eq] at hm
 obtain ⟨⟨⟨ha,o1⟩,o3⟩,hv⟩:=hm
 have go:∀c,opW op= [c]→isK (mkK c) [33]=false→(∀s,At s (mkK c::(valK v::ks))→Reads (opP s) s op (valK v::ks))→Reads (matchP st) st ⟨a,op,v⟩ ks:=fun c hc h33 hop=>by
  simp only [matchK,hc,List.append_assoc,List.cons_append,List.nil_append] at h
  obtain ⟨s1,e1,a1,t1⟩:=rd_attr ha h h33
  obtain ⟨s2,e2,a2,t2⟩:=hop s1 a1
  obtain ⟨s3,e3,a3,t3⟩:=rd_value hv a2
  unfold matchP
  rw [e1]; simp only
  rw [e2]; simp only
  rw [e3]
  exact ⟨s3,rfl,a3,(t1.trans t2).trans t3⟩
 have:op=1∨op=2∨op=3:=by omega
 rcases this with rfl|rfl|rfl
 ·refine go 61 rfl (by decide) fun s hs=> ?_
  have b:=at_is hs [61]
  rw [show isK (mkK 61) [61]=true from rfl] at b
  unfold opP; rw [if_pos b]; exact ⟨_,rfl,at_next hs⟩
 ·refine go 60 rfl (by decide) fun s hs=> ?_
  have b:=at_is hs [61]
  have b2:=at_is hs [60]
  rw [show isK (mkK 60) [61]=false from by decide] at b
  rw [show isK (mkK 60) [60]=true from rfl] at b2
  unfold opP; rw [if_neg (by rw [b]; decide),if_pos b2]; exact ⟨_,rfl,at_next hs⟩
 ·refine go 62 rfl (by decide) fun s hs=> ?_
  have b:=at_is hs [61]
  have b2:=at_is hs [60]
  have b3:=at_is hs [62]
  rw [show isK (mkK 62) [61]=false from by decide] at b
  rw [show isK (mkK 62) [60]=false from by decide] at b2
  rw [show isK (mkK 62) [62]=true from rfl] at b3
  unfold opP; rw [if_neg (by rw [b]; decide),if_neg (by rw [b2]; decide),if_pos b3]; exact ⟨_,rfl,at_next hs⟩
theorem limit_no {st:PS} {b:Bool} (h:b=false):limitD st b=st:=by subst h; rfl
theorem rd_many {α:Type} {one:PS→α×PS} {w:Txt} {wK:TokD} {most:Nat} {tk:α→List TokD} (hw:isK wK w=true):∀(xs:List α) (f:Nat) (st:PS) (l:List α) (k:TokD) (ks:List TokD),
  (∀x∈xs,∀st k' ks',k' =wK∨k' =k→At st (tk x++k' ::ks')→Reads (one st) st x (k' ::ks'))→
  At st ((xs.map fun x=>wK::tk x).flatten++k::ks)→isK k w=false→xs.length≤f→l.length+xs.length≤most→Reads (manyF one w most f st l) st (l++xs) (k::ks)
 | [],f,st,l,k,ks,_,h,hk,_,_=>by
  simp only [List.map_nil,List.flatten_nil,List.nil_append] at h
  have b:=at_is h w
  rw [hk] at b
  refine ⟨st, ?_,h, .refl _⟩
  cases f<;>simp [manyF,b]
 |x::r,f,st,l,k,ks,ho,h,hk,hf,hl=>by
  obtain ⟨g,rfl⟩:∃g,f=g+1:=⟨f - 1,by simp at hf; omega⟩
  simp only [List.map_cons,List.flatten_cons,List.cons_append,List.append_assoc] at h
  have b:=at_is h w
  rw [hw] at b
  obtain ⟨a1,t1⟩:=at_next h
  simp only [List.length_cons] at hf hl
  have hone:Reads (one (nextD st)) (nextD st) x ((r.map fun x=>wK::tk x).flatten++k::ks):=by
   cases r with
   |nil=>exact ho x (by simp) _ k ks (.inr rfl) a1
   |cons y r=>exact ho x (by simp) _ wK _ (.inl rfl) a1
  obtain ⟨s2,e2,a2,t2⟩:=hone
  obtain ⟨s3,e3,a3,t3⟩:=rd_many (most:=most) hw r g s2 (l++ [x]) k ks (fun y hy=>ho y (by simp [hy])) a2 hk (by omega) (by simp; omega)
  refine ⟨s3, ?_,a3,(t1.trans t2).trans t3⟩
  unfold manyF
  rw [if_pos b,e2]
  simp only
  have hd:decide (most<l.length+1)=false:=decide_eq_false (by omega)
  rw [hd,limit_no rfl,e3,List.append_assoc]
  rfl
theorem sepK_cons {α:Type} (w:TokD) (f:α→List TokD) (x:α) (r:List α):sepK w ((x::r).map f)=f x++(r.map fun y=>w::f y).flatten:=by
 simp only [List.map_cons,sepK,List.map_map]; rfl
end Go.Bf

set_option linter.unusedSimpArgs false
set_option linter.unusedVariables false
namespace Go.Bf
open Go Go.Ab
theorem rd_all {st:PS} {l:List MatchD} {k:TokD} {ks:List TokD} (hl:allE l=0) (h:At st (allK l++k::ks)) (hk:isK k [44]=false):Reads (allP st) st l (k::ks):=by
 obtain ⟨h1,h8,hm⟩:=allE_ok hl
 have hlen:=at_len h
 cases l with
 |nil=>simp at h1
 |cons x r=>
  simp only [allK,sepK_cons,List.append_assoc] at h
  obtain ⟨s1,e1,a1,t1⟩:=rd_match (hm x (by simp)) h
  simp only [List.length_cons] at h8
  have hfl:r.length≤st.ts.length:=by
   have:=at_len h
   simp only [List.length_append,List.length_flatten,List.map_map] at this
   have h2:r.length≤(r.map fun y=>(mkK 44::matchK y).length).sum:=by
    clear h hm hl this hlen a1 h8
    induction r with
    |nil=>simp
    |cons y r ih=>simp only [List.map_cons,List.sum_cons,List.length_cons] at ih⊢; omega
   have h3:(List.map (List.length ∘ fun y=>mkK 44::matchK y) r).sum=(r.map fun y=>(mkK 44::matchK y).length).sum:=rfl
   omega
  obtain ⟨s2,e2,a2,t2⟩:=rd_many (most:=8) (w:= [44]) (wK:=mkK 44) rfl r st.ts.length s1 [x] k ks (fun m hmr st k' ks' _ ha=>rd_match (hm m (by simp [hmr])) ha) a1 hk hfl (by simp; omega)
  refine ⟨s2, ?_,a2,t1.trans t2⟩
  unfold allP
  rw [e1]; simp only
  rw [e2]; rfl
theorem flat_len {α:Type} (w:TokD) (f:α→List TokD):∀(r:List α),r.length≤(r.map fun y=>w::f y).flatten.length
 | []=>by simp
 |y::r=>by
  have:=flat_len w f r
  simp only [List.map_cons,List.flatten_cons,List.length_append,List.length_cons] at this⊢
  omega
theorem rd_any {st:PS} {l:List (List MatchD)} {ks:List TokD} (hl:anyE l=0) (h:At st (anyK l++ks)):Reads (anyP st) st l ks:=by
 obtain ⟨h1,h8,hm⟩:=anyE_ok hl
 cases l with
 |nil=>simp at h1
 |cons x r=>
  simp only [anyK,sepK_cons,List.append_assoc,List.cons_append,List.nil_append] at h
  have hlen:=at_len h
  have hfl:=flat_len (wdK [111,114]) allK r
  simp only [List.length_append,List.length_cons] at hlen
  obtain ⟨a0,t0⟩:=rd_must (w:= [40]) h rfl
  have hx:Reads (allP (mustD st [40])) (mustD st [40]) x ((r.map fun y=>wdK [111,114]::allK y).flatten++mkK 41::ks):=by
   cases r with
   |nil=>exact rd_all (hm x (by simp)) a0 (by decide)
   |cons y r=>exact rd_all (hm x (by simp)) a0 (by decide)
  obtain ⟨s1,e1,a1,t1⟩:=hx
  simp only [List.length_cons] at h8
  obtain ⟨s2,e2,a2,t2⟩:=rd_many (most:=8) (w:=orT) (wK:=wdK [111,114]) rfl r st.ts.length s1 [x] (mkK 41) ks (fun m hmr st k' ks' hk' ha=>rd_all (hm m (by simp [hmr])) ha (by
   rcases hk' with rfl|rfl<;>decide)) a1 (by decide) (by omega) (by simp; omega)
  obtain ⟨a3,t3⟩:=rd_must (w:= [41]) a2 rfl
  refine ⟨mustD s2 [41], ?_,a3,((t0.trans t1).trans t2).trans t3⟩
  unfold anyP
  simp only
  rw [e1]; simp only
  rw [e2]; rfl
theorem rd_tgt {st:PS} {t:TgtD} {k:TokD} {ks:List TokD} (ht:tgtE t=0) (h:At st (tgtK t++k::ks)) (hk:isK k andT=false) (hk2:isK k whenT=false):Reads (tgtP st) st t (k::ks):=by
 obtain ⟨h8,hm⟩:=tgtE_ok ht
 unfold tgtK at h
 unfold tgtP
 cases t with
 |nil=>
  simp only [if_true,List.nil_append] at h
  rw [at_is h,if_neg (by rw [hk2]; decide)]
  exact ⟨st,rfl,h, .refl _⟩
 |cons x r=>
  rw [if_neg (by simp)] at h
  simp only [sepK_cons,List.append_assoc,List.cons_append,List.nil_append] at h
  have hlen:=at_len h
  have hfl:=flat_len (wdK [97,110,100]) anyK r
  simp only [List.length_append,List.length_cons] at hlen
  rw [at_is h,if_pos (by decide)]
  obtain ⟨a0,t0⟩:=at_next h
  obtain ⟨s1,e1,a1,t1⟩:=rd_any (hm x (by simp)) a0
  simp only [List.length_cons] at h8
  obtain ⟨s2,e2,a2,t2⟩:=rd_many (most:=8) (w:=andT) (wK:=wdK [97,110,100]) rfl r st.ts.length s1 [x] k ks (fun m hmr st k' ks' hk' ha=>rd_any (hm m (by simp [hmr])) ha) a1 hk (by omega) (by simp; omega)
  rw [e1]; simp only
  rw [e2]
  exact ⟨s2,rfl,a2,(t0.trans t1).trans t2⟩
theorem idx_on {n:Int} (h1:1≤n) (h4:n≤2):∃i,idxT (onW n) onWs=some i∧(i:Int)+1=n:=by
 have:n=1∨n=2:=by omega
 rcases this with rfl|rfl
 ·exact ⟨0,rfl,rfl⟩
 ·exact ⟨1,rfl,rfl⟩
theorem idx_duty {n:Int} (h1:1≤n) (h4:n≤4):∃i,idxT (dutyW n) dutyWs=some i∧(i:Int)+1=n:=by
 have:n=1∨n=2∨n=3∨n=4:=by omega
 rcases this with rfl|rfl|rfl|rfl
 ·exact ⟨0,rfl,rfl⟩
 ·exact ⟨1,rfl,rfl⟩
 ·exact ⟨2,rfl,rfl⟩
 ·exact ⟨3,rfl,rfl⟩
theorem rd_obls {st:PS} {l:List OblD} {k:TokD} {ks:List TokD} (hl:oblsE l=0) (h:At st (oblsK l++k::ks)) (hk:isK k onceT=false):Reads (oblsP st) st l (k::ks):=by
 obtain ⟨h8,hm⟩:=oblsE_ok hl
 have hlen:=at_len h
 have e:oblsK l=(l.map fun o=>wdK [111,110]:: [wdK (onW o.on),wdK (dutyW o.kind),wdK o.arg]).flatten:=rfl
 have hfl:=flat_len (wdK [111,110]) (fun o:OblD=> [wdK (onW o.on),wdK (dutyW o.kind),wdK o.arg]) l
 rw [e] at h hlen
 simp only [List.length_append,List.length_cons] at hlen
 unfold oblsP
 have:=rd_many (most:=8) (one:=oblP) (w:=onceT) (wK:=wdK [111,110]) rfl l st.ts.length st [] k ks (fun o ho st k' ks' hk' ha=>by
  have hb:=hm o ho
  simp only [oblOK,Bool.and_eq_true,decide_eq_true_eq] at hb
  obtain ⟨i,hi,hi2⟩:=idx_on hb.1.1.1.1 hb.1.1.1.2
  obtain ⟨j,hj,hj2⟩:=idx_duty hb.1.1.2 hb.1.2
  simp only [List.cons_append,List.nil_append] at ha
  obtain ⟨s1,e1,a1,t1⟩:=rd_among ha hi
  obtain ⟨s2,e2,a2,t2⟩:=rd_among a1 hj
  obtain ⟨s3,e3,a3,t3⟩:=rd_name a2
  refine ⟨s3, ?_,a3,(t1.trans t2).trans t3⟩
  unfold oblP
  rw [e1]; simp only
  rw [e2]; simp only
  rw [e3]
  simp only [hi2,hj2]) h hk (by omega) (by simp; omega)
 simpa using this
theorem idx_fn {n:Int} (h1:3≤n) (h4:n≤13):∃i,idxT (fnW n) fnWs=some i∧2+((i:Int)+1)=n:=by
 have:n=3∨n=4∨n=5∨n=6∨n=7∨n=8∨n=9∨n=10∨n=11∨n=12∨n=13:=by omega
 rcases this with rfl|rfl|rfl|rfl|rfl|rfl|rfl|rfl|rfl|rfl|rfl
 ·exact ⟨0,rfl,rfl⟩
 ·exact ⟨1,rfl,rfl⟩
 ·exact ⟨2,rfl,rfl⟩
 ·exact ⟨3,rfl,rfl⟩
 ·exact ⟨4,rfl,rfl⟩
 ·exact ⟨5,rfl,rfl⟩
 ·exact ⟨6,rfl,rfl⟩
 ·exact ⟨7,rfl,rfl⟩
 ·exact ⟨8,rfl,rfl⟩
 ·exact ⟨9,rfl,rfl⟩
 ·exact ⟨10,rfl,rfl⟩
theorem tree_head {l:List NodeD} {b:Bool} {t:Txt} {k:List TokD} (h:Tree l b t k):∃x r,k=x::r∧isK x [33]=false:=by
 cases h with
 |lit v h hi=>
  refine ⟨_,_,rfl, ?_⟩
  unfold valK
  split
  ·cases (v.n==1)<;>decide
  split
  ·simp [isK]
  split
  ·simp [isK]
  split
  ·simp [isK]
  ·simp [isK]
 |attr a h=>
  refine ⟨_,_,rfl, ?_⟩
  unfold catW; repeat' split
  all_goals decide
 |one ho h=>exact ⟨_,_,rfl,by decide⟩
 |two ho h1 h2=>exact ⟨_,_,rfl,by decide⟩
theorem rd_step {f:Nat} {st s2:PS} {acc lh:List NodeD} {n:NodeD} {k0:TokD} {rest:List TokD} (e:headG (exprF f) st acc=((lh,n),s2)) (h:lh.length+1≤32):
  exprF (f+1) st acc=((lh++ [n],n.op==2),s2):=by
 unfold exprF
 rw [e]
 simp only
 have hd:decide (32<lh.length+1)=false:=decide_eq_false (by omega)
 rw [hd]; rfl
theorem rd_tree {l:List NodeD} {b:Bool} {t:Txt} {k:List TokD} (h:Tree l b t k):∀(f:Nat) (st:PS) (acc:List NodeD) (k0:TokD) (rest:List TokD),At st (k++k0::rest)→isK k0 [33]=false→l.length≤f→acc.length+l.length≤32→Reads (exprF f st acc) st (acc++l,b) (k0::rest):=by
 induction h with
 |lit v h hi=>
  intro f st acc k0 rest ha hk hf hl
  obtain ⟨g,rfl⟩:∃g,f=g+1:=⟨f - 1,by simp at hf; omega⟩
  simp only [List.length_singleton] at hl
  obtain ⟨s1,e1,a1,t1⟩:=rd_value h ha
  obtain ⟨h1,h2,h3⟩:=at_here ha
  have b0:=at_is ha [40]
  have hb0:isK (valK v) [40]=false:=by
   unfold valK
   split
   ·cases (v.n==1)<;>decide
   split
   ·simp [isK]
   split
   ·simp [isK]
   split
   ·simp [isK]
   ·simp [isK]
  rw [hb0] at b0
  have hnot:¬((hereD st).kind=1∧(hereD st).s≠trueT∧(hereD st).s≠falseT):=by
   rintro ⟨k1,n1,n2⟩
   rw [h1] at k1
   rw [h3] at n1 n2
   unfold valK at k1 n1 n2
   by_cases c1:v.kind=1
   ·rw [if_pos c1] at n1 n2
    cases hv:(v.n==1)
    ·rw [hv] at n2; exact n2 rfl
    ·rw [hv] at n1; exact n1 rfl
   ·rw [if_neg c1] at k1
    revert k1
    repeat' split
    all_goals (intro k1; simp at k1)
  have eh:headG (exprF g) st acc=((acc,⟨1,v,zA⟩),s1):=by
   unfold headG
   rw [if_neg (by rw [b0]; decide),if_neg hnot,e1]; rfl
  exact ⟨s1,rd_step (k0:=k0) (rest:=rest) eh (by omega),a1,t1⟩
 |attr a h=>
  intro f st acc k0 rest ha hk hf hl
  obtain ⟨g,rfl⟩:∃g,f=g+1:=⟨f - 1,by simp at hf; omega⟩
  simp only [List.length_singleton] at hl
  obtain ⟨s1,e1,a1,t1⟩:=rd_attr h ha hk
  have ha2:=ha
  simp only [attrK,List.cons_append,List.nil_append] at ha2
  obtain ⟨h1,h2,h3⟩:=at_here ha2
  have b0:=at_is ha2 [40]
  have hcat:isK (wdK (catW a.cat)) [40]=false∧catW a.cat≠trueT∧catW a.cat≠falseT:=by
   unfold catW; repeat' split
   all_goals decide
  rw [hcat.1] at b0
  have h1' :(hereD st).kind=1:=h1
  have h3' :(hereD st).s=catW a.cat:=h3
  have eh:headG (exprF g) st acc=((acc,⟨2,zV,a⟩),s1):=by
   unfold headG
   rw [if_neg (by rw [b0]; decide),if_pos ⟨h1',by rw [h3']; exact hcat.2.1,by rw [h3']; exact hcat.2.2⟩,e1]; rfl
  exact ⟨s1,rd_step (k0:=k0) (rest:=rest) eh (by omega),a1,t1⟩
 | @one op w l t k ho ht ih=>
  intro f st acc k0 rest ha hk hf hl
  obtain ⟨g,rfl⟩:∃g,f=g+1:=⟨f - 1,by simp at hf; omega⟩
  simp only [List.length_append,List.length_singleton] at hf hl
  simp only [List.append_assoc,List.cons_append,List.nil_append] at ha
  have b0:=at_is ha [40]
  rw [show isK (mkK 40) [40]=true from rfl] at b0
  obtain ⟨a0,t0⟩:=at_next ha
  obtain ⟨i,hi,hi2⟩:=idx_fn (n:=op) (by omega) (by omega)
  obtain ⟨s1,e1,a1,t1⟩:=rd_among a0 hi
  obtain ⟨s2,e2,a2,t2⟩:=ih g s1 acc (mkK 41) (k0::rest) a1 (by decide) (by omega) (by omega)
  obtain ⟨a3,t3⟩:=rd_must (w:= [41]) a2 rfl
  have hop:opers op= [w]:=by
   rcases ho with ⟨rfl,rfl⟩|⟨rfl,rfl⟩|⟨rfl,rfl⟩<;>rfl
  have eh:headG (exprF g) st acc=((acc++l,⟨op,zV,zA⟩),mustD s2 [41]):=by
   unfold headG
   rw [if_pos b0]
   unfold funcG
   rw [e1]
   simp only [hi2,hop,opersG,a1.1,if_true,operG,e2]; rfl
  have hb:(op==2)=false:=by simp; omega
  refine ⟨mustD s2 [41], ?_,a3,((t0.trans t1).trans t2).trans t3⟩
  rw [rd_step (k0:=k0) (rest:=rest) eh (by rw [List.length_append]; omega),hb,List.append_assoc]
 | @two op w1 w2 l1 l2 t1 t2 k1 k2 ho ht1 ht2 ih1 ih2=>
  intro f st acc k0 rest ha hk hf hl
  obtain ⟨g,rfl⟩:∃g,f=g+1:=⟨f - 1,by simp at hf; omega⟩
  simp only [List.length_append,List.length_singleton] at hf hl
  simp only [List.append_assoc,List.cons_append,List.nil_append] at ha
  have b0:=at_is ha [40]
  rw [show isK (mkK 40) [40]=true from rfl] at b0
  obtain ⟨a0,t0⟩:=at_next ha
  obtain ⟨i,hi,hi2⟩:=idx_fn (n:=op) (by omega) (by omega)
  obtain ⟨s1,e1,a1,t1⟩:=rd_among a0 hi
  obtain ⟨x,r,hk2,hx⟩:=tree_head ht2
  rw [hk2] at a1
  simp only [List.cons_append] at a1
  obtain ⟨s2,e2,a2,t2⟩:=ih1 g s1 acc x _ a1 hx (by omega) (by omega)
  rw [←List.cons_append,←hk2] at a2
  obtain ⟨s3,e3,a3,t3⟩:=ih2 g s2 (acc++l1) (mkK 41) (k0::rest) a2 (by decide) (by omega) (by rw [List.length_append]; omega)
  obtain ⟨a4,t4⟩:=rd_must (w:= [41]) a3 rfl
  have hop:opers op= [w1,w2]:=by
   rcases ho with ⟨rfl,rfl,rfl⟩|⟨h6,h13,h11,rfl,rfl⟩
   ·rfl
   ·unfold opers; rw [if_neg (by omega),if_neg (by omega),if_neg h11]
  have eh:headG (exprF g) st acc=((acc++l1++l2,⟨op,zV,zA⟩),mustD s3 [41]):=by
   unfold headG
   rw [if_pos b0]
   unfold funcG
   rw [e1]
   simp only [hi2,hop,opersG,a1.1,if_true,operG,e2,a2.1,e3]; rfl
  have hb:(op==2)=false:=by simp; omega
  refine ⟨mustD s3 [41], ?_,a4,(((t0.trans t1).trans t2).trans t3).trans t4⟩
  rw [rd_step (k0:=k0) (rest:=rest) eh (by simp only [List.length_append]; omega),hb]
  simp only [List.append_assoc]
end Go.Bf
