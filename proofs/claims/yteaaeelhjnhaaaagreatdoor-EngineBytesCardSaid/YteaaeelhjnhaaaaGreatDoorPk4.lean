/- The law EngineBytes: pack 4 of its texts. -/
import Derived.Shelf.Small.Strs
import Derived.Shelf.Small.Wraps
import Derived.Shelf.Strconv.AtoiAll
import Derived.Shelf.Strconv.ErrVarAll
import Derived.Shelf.Strings.Search1
import Derived.Test.YteaaeelhjnhaaaaGreatDoorProg
import Derived.KernelRfl
import Derived.WalkKit
import Derived.BigCall
import Derived.Lib.ItoaLen
import Derived.Test.YteaaeelhjnhaaaaGreatDoorPk1
import Derived.Test.YteaaeelhjnhaaaaGreatDoorPk2
import Derived.Test.YteaaeelhjnhaaaaGreatDoorPk3
set_option linter.unusedSimpArgs false
set_option linter.unusedVariables false
set_option maxRecDepth 100000
namespace Go.Proofs.YteaaeelhjnhaaaaGreatDoor
open Go Go.Ab Go.Bf Tryz
theorem u5z:(U 5).sz=1:=acY
theorem u5b:(U 5).bytes=1:=acY
theorem mY(l:List UInt8):Sized 1 (l.map aI):=fun z hz=>by obtain⟨c,_,rfl⟩:=List.mem_map.1 hz;rfl
theorem HF(s)(hs:s.length≤10000)(h):ai prog 158 [.s s] h fun r h' =>r= .tup [.s (zl s).1,.v (.int .i64 (zl s).2)]∧h' =h:=by
 refine acJ func158 50 [.tmp 2,.tmp 3] fun hwf=>?_
 simp only[go_sem];refine .intro (fun m ρ h' =>∃(i f:Nat) (y:AV) (out:Txt),Acc U 5 h h' y (out.map aI)∧out.length≤i∧m=s.length+1 - i∧i≤s.length+3∧s.length≤f+i∧tZ f (s.drop i) i out=zl s∧lk ρ 0=some (.s s)∧lk ρ 4=some y∧lk ρ 5=some (.i i)) s.length ?_ ?_
 ·refine⟨1,s.length,.sl [] .full,[],.full (.refl _),acS,acK,acK,acK,rfl,?_,?_,?_⟩<;>simp only[go_sem]
 ·rintro m ρ h' ⟨i,f,y,out,hy,hoi,rfl,hi,hf,he,r0,r4,r5⟩
  cases d1:decide ((i:Int)<(s.length:Int))
  ·have hge:s.length≤i:=by grind
   have hd:s.drop i= []:=List.drop_of_length_le hge;have:zl s=([],0):=by rw[←he,hd];cases f<;>rfl
   simp only[go_sem,r0,r5,d1];exact .mk _ (.refl _) hy.1 ⟨by rw[this];rfl,rfl⟩
  have hlt:i<s.length:=acL;obtain⟨f,rfl⟩:∃g,f=g+1:=⟨f - 1,acK⟩;have hdr:s.drop i=s[i]::s.drop (i+1):=List.drop_eq_getElem_cons hlt;rw[hdr]at he;simp only[tZ]at he;have w1:IntKind.i64.wrap ((i:Int)+1)=((i+1:Nat):Int):=acX;have w3:IntKind.i64.wrap ((i:Int)+3)=((i+3:Nat):Int):=acX;simp only[go_sem,r0,r5,d1];refine .at i hlt ?_;cases d2:((s[i].toNat:Int)==34)
  case true=>
   have e2:s[i]=34:=by have:(s[i].toNat:Int)=34:=acL;exact UInt8.toNat_inj.1 acL
   rw[if_pos e2]at he;cases d3:decide (64<(out.length:Int))
   case true=>have e3:64<out.length:=acL;rw[if_pos e3]at he;simp only[go_sem,r4,aI,d2,hy.len,acA,d3];exact aib
   have e3:¬64<out.length:=acL;rw[if_neg e3]at he;simp only[go_sem,r4,aI,d2,hy.len,acA,d3];obtain⟨q,rfl⟩:=hy.row;simp only[go_sem,r5,w1];exact aib
  have e2:s[i]≠34:=by intro e;simp_all
  rw[if_neg e2]at he;simp only[go_sem,r0,r5,aI,d2];refine .at i hlt ?_;simp only[go_sem,aI];refine(DN _ _).pthen ?_;cases d4:FH s[i]
  ·rw[if_pos d4]at he
   simp only[go_sem,r0,r4,r5,d4];refine .at i hlt ?_;simp only[go_sem,aI];refine hy.app (zs:=[aI s[i]]) acN acN (fun k hk=>hk) (by grind [u5z,mY]) (by rw[u5z];exact mY [s[i]]) (by grind [u5b]) fun y' h2 hy' hk2=>?_
   simp only[go_sem,r5,w1];refine⟨_,?_,i+1,f,y',out++ [s[i]],acL,acL,rfl,acK,acK,he,?_,?_,?_⟩
   ·omega
   all_goals simp only[go_sem,r0]
  ·rw[if_neg acL]at he
   simp only[go_sem,r0,r5,d4];refine⟨acK,?_⟩;simp only[go_sem,Option.isSome_none,Option.isSome_some,mb,Int.toNat_natCast];refine⟨acK,acK,?_⟩;refine(Rq _ _).mono fun x h2 hx=>?_
   obtain⟨⟨v,rfl,hv⟩,rfl⟩:=hx;rw[←hdr]at he;cases e5:tF (s.drop i)with
   |none=>rw[e5]at he;simp only[go_sem,Option.isSome_none];exact aib
   |some b=>
    rw[e5]at he;have hvb:=hv b e5;subst hvb;have h3:=DC e5;simp only[List.length_drop]at h3;simp only[go_sem,r4,Option.isSome_some];refine hy.app (zs:=[aI b]) acN acN (fun k hk=>hk) (by grind [u5z,mY]) (by rw[u5z];exact mY [b]) (by grind [u5b]) fun y' h2 hy' hk2=>?_
    simp only[go_sem,r5,w3];refine⟨_,?_,i+3,f,y',out++ [b],acL,acL,rfl,acK,acK,?_,?_,?_,?_⟩
    ·omega
    ·simp_all
    all_goals simp only[go_sem,r0]
end Go.Proofs.YteaaeelhjnhaaaaGreatDoor
namespace Go.Bf
open Go Go.Ab
theorem Gs(c):dgt c=true↔48≤c.toNat∧c.toNat≤57:=by simp only[dgt,Bool.and_eq_true,decide_eq_true_eq];omega
def Ih(acc:Nat)(l:Txt):Nat:=l.foldl (fun n c=>n*10+(c.toNat - 48)) acc
theorem Ao(acc:Nat)(c)(r):Ih acc (c::r)=Ih (acc*10+(c.toNat - 48)) r:=List.foldl_cons ..
theorem CK:∀(l:Txt) (acc:Nat),acc≤Ih acc l
 | [],acc=>Nat.le_refl _
 |c::r,acc=>by rw[Ao];exact Nat.le_trans acK (CK r (acc*10+(c.toNat - 48)))
theorem tK:∀(l:Txt) (acc:Nat),(∀c∈l,dgt c=true)→acc<18446744073709551616→
  Lib.parseUint10 acc l=if Ih acc l<18446744073709551616 then .ok (Ih acc l)else .range
 | [],acc,_,ha=>by have:Ih acc []=acc:=rfl;rw[this,if_pos ha];rfl
 |c::r,acc,hd,ha=>by
  have hc:=(Gs c).1 (hd c acS);have hm:=CK r (acc*10+(c.toNat - 48));rw[Ao];unfold Lib.parseUint10;rw[if_pos hc];split
  ·rw[if_neg acK]
  ·split
   ·rw[if_neg acK]
   ·exact tK r _ acL acK
def pV(neg:Bool):Txt:=if neg then [45]else []
theorem vp(neg)(d)(h0:d≠ [])(hd:∀c∈d,dgt c=true):
  Lib.atoiAll (pV neg++d)=if -9223372036854775808≤(if neg then -(pY d:Int)else(pY d:Int))∧(if neg then -(pY d:Int)else(pY d:Int))≤9223372036854775807 then .ok (if neg then -(pY d:Int)else(pY d:Int))else .range:=by
 have hp:Lib.parseMag d=if pY d<18446744073709551616 then .ok (pY d)else .range:=by unfold Lib.parseMag;rw[if_neg h0];exact tK d 0 hd acN
 cases neg
 ·obtain⟨c,r,rfl⟩:=List.exists_cons_of_ne_nil h0
  have hc:=(Gs c).1 (hd c acS);simp only[pV,Bool.false_eq_true,if_false,List.nil_append,Lib.atoiAll];rw[if_neg acK,hp];have e45:(c.toNat=45)=False:=acL;simp only[e45,not_false_eq_true,true_and,false_and,if_false];split
  ·rename_i h;split at h
   ·cases h
   ·cases h
  ·rename_i h;split at h
   ·cases h
   ·rw[if_neg acK]
  ·rename_i u h;split at h
   ·cases h
    split
    ·rw[if_neg acK]
    ·rw[if_pos acK]
   ·cases h
 ·simp only[pV,if_true,List.cons_append,List.nil_append,Lib.atoiAll]
  rw[if_pos (.inr acN),hp];simp only[show((45:UInt8).toNat=45)=True by simp,not_true_eq_false,false_and,if_false,true_and,if_true]
  split
  ·rename_i h;split at h
   ·cases h
   ·cases h
  ·rename_i h;split at h
   ·cases h
   ·rw[if_neg acK]
  ·rename_i u h;split at h
   ·cases h
    split
    ·rw[if_neg acK]
    ·rw[if_pos acK]
   ·cases h
theorem zX(s:Txt):∀c∈s.takeWhile dgt,dgt c=true:=fun c hc=>by
 induction s with
 |nil=>cases hc
 |cons x r ih=>
  simp only[List.takeWhile_cons]at hc
  grind
end Go.Bf
namespace Go.Proofs
open Go.Shelf
def Tryz.Dm:Go.Shelf.Ren:=⟨fun|137=>159|217=>190|266=>212|n=>n,fun|9=>9|5=>5|3=>3|n=>n,fun|n=>n⟩
theorem Tryz.NX:Go.Proofs.Lays.n137 Tryz.prog Tryz.Dm:={
 mixed:=acY
 f137:=Tryz.func159.trans acY
 f217:=Tryz.func190.trans acY
 f266:=Tryz.func212.trans acY
 t3:=Tryz.underlying3
 a3:=Tryz.isAgg3
 z3:=Tryz.sizeOf3
 v3:=Tryz.zeroValue3
 t5:=Tryz.underlying5
 a5:=Tryz.isAgg5
 z5:=Tryz.sizeOf5
 v5:=Tryz.zeroValue5
 t9:=Tryz.underlying9
 a9:=Tryz.isAgg9
 z9:=Tryz.sizeOf9
 v9:=Tryz.zeroValue9}
open Go.RowKit in
theorem Tryz.strings_IndexByte(s:ByteArray)(c:Int)(w:World):
  Calls Tryz.prog 159 #[.string s,.int .u8 c] w fun e w' =>e= .returned (.int .i64 (Lib.indexByte s.data.toList c.toNat.toUInt8))∧w' =w:=Any.strings_IndexByte Tryz.NX s c w
def Tryz.BW:Go.Shelf.Ren:=⟨fun|172=>187|244=>209|245=>210|247=>230|279=>231|280=>232|281=>233|282=>234|287=>254|316=>255|171=>257|205=>256|321=>265|322=>266|243=>267|246=>276|283=>278|284=>279|285=>280|286=>281|129=>283|317=>282|318=>284|319=>285|320=>286|337=>287|338=>288|n=>n,fun|9=>9|3=>3|75=>266|76=>267|4=>4|5=>5|167=>315|37=>26|0=>0|85=>316|2=>2|168=>318|53=>27|175=>340|46=>73|210=>343|127=>353|145=>356|143=>354|21=>21|171=>363|173=>366|212=>369|51=>195|20=>20|213=>370|232=>373|233=>374|80=>200|n=>n,fun|15=>1|16=>2|17=>3|18=>4|19=>5|n=>n⟩
theorem Tryz.Dn:Go.Proofs.LaysC.n172 Tryz.prog Tryz.BW:={
 mixed:=acY
 f129:=Tryz.func283.trans acY
 f171:=Tryz.func257.trans acY
 f172:=Tryz.func187.trans acY
 f205:=Tryz.func256.trans acY
 f243:=Tryz.func267.trans acY
 f244:=Tryz.func209.trans acY
 f245:=Tryz.func210.trans acY
 f246:=Tryz.func276.trans acY
 f247:=Tryz.func230.trans acY
 f279:=Tryz.func231.trans acY
 f280:=Tryz.func232.trans acY
 f281:=Tryz.func233.trans acY
 f282:=Tryz.func234.trans acY
 f283:=Tryz.func278.trans acY
 f284:=Tryz.func279.trans acY
 f285:=Tryz.func280.trans acY
 f286:=Tryz.func281.trans acY
 f287:=Tryz.func254.trans acY
 f316:=Tryz.func255.trans acY
 f317:=Tryz.func282.trans acY
 f318:=Tryz.func284.trans acY
 f319:=Tryz.func285.trans acY
 f320:=Tryz.func286.trans acY
 f321:=Tryz.func265.trans acY
 f322:=Tryz.func266.trans acY
 f337:=Tryz.func287.trans acY
 f338:=Tryz.func288.trans acY
 t0:=Tryz.underlying0
 a0:=Tryz.isAgg0
 z0:=Tryz.sizeOf0
 v0:=Tryz.zeroValue0
 t2:=Tryz.underlying2
 a2:=Tryz.isAgg2
 z2:=Tryz.sizeOf2
 v2:=Tryz.zeroValue2
 t3:=Tryz.underlying3
 a3:=Tryz.isAgg3
 z3:=Tryz.sizeOf3
 v3:=Tryz.zeroValue3
 t4:=Tryz.underlying4
 a4:=Tryz.isAgg4
 z4:=Tryz.sizeOf4
 v4:=Tryz.zeroValue4
 t5:=Tryz.underlying5
 a5:=Tryz.isAgg5
 z5:=Tryz.sizeOf5
 v5:=Tryz.zeroValue5
 t9:=Tryz.underlying9
 a9:=Tryz.isAgg9
 z9:=Tryz.sizeOf9
 v9:=Tryz.zeroValue9
 t20:=Tryz.underlying20
 a20:=Tryz.isAgg20
 z20:=Tryz.sizeOf20
 v20:=Tryz.zeroValue20
 t21:=Tryz.underlying21
 a21:=Tryz.isAgg21
 z21:=Tryz.sizeOf21
 v21:=Tryz.zeroValue21
 t37:=Tryz.underlying26
 a37:=Tryz.isAgg26
 z37:=Tryz.sizeOf26
 v37:=Tryz.zeroValue26
 t46:=Tryz.underlying73
 a46:=Tryz.isAgg73
 z46:=Tryz.sizeOf73
 v46:=Tryz.zeroValue73
 t51:=Tryz.underlying195
 a51:=Tryz.isAgg195
 z51:=Tryz.sizeOf195
 v51:=Tryz.zeroValue195
 t53:=Tryz.underlying27
 a53:=Tryz.isAgg27
 z53:=Tryz.sizeOf27
 v53:=Tryz.zeroValue27
 t75:=Tryz.underlying266
 a75:=Tryz.isAgg266
 z75:=Tryz.sizeOf266
 v75:=Tryz.zeroValue266
 t76:=Tryz.underlying267
 a76:=Tryz.isAgg267
 z76:=Tryz.sizeOf267
 v76:=Tryz.zeroValue267
 t85:=Tryz.underlying316
 a85:=Tryz.isAgg316
 z85:=Tryz.sizeOf316
 v85:=Tryz.zeroValue316
 t127:=Tryz.underlying353
 a127:=Tryz.isAgg353
 z127:=Tryz.sizeOf353
 v127:=Tryz.zeroValue353
 t143:=Tryz.underlying354
 a143:=Tryz.isAgg354
 z143:=Tryz.sizeOf354
 v143:=Tryz.zeroValue354
 t145:=Tryz.underlying356
 a145:=Tryz.isAgg356
 z145:=Tryz.sizeOf356
 v145:=Tryz.zeroValue356
 t167:=Tryz.underlying315
 a167:=Tryz.isAgg315
 z167:=Tryz.sizeOf315
 v167:=Tryz.zeroValue315
 t168:=Tryz.underlying318
 a168:=Tryz.isAgg318
 z168:=Tryz.sizeOf318
 v168:=Tryz.zeroValue318
 t171:=Tryz.underlying363
 a171:=Tryz.isAgg363
 z171:=Tryz.sizeOf363
 v171:=Tryz.zeroValue363
 t173:=Tryz.underlying366
 a173:=Tryz.isAgg366
 z173:=Tryz.sizeOf366
 v173:=Tryz.zeroValue366
 t175:=Tryz.underlying340
 a175:=Tryz.isAgg340
 z175:=Tryz.sizeOf340
 v175:=Tryz.zeroValue340
 t210:=Tryz.underlying343
 a210:=Tryz.isAgg343
 z210:=Tryz.sizeOf343
 v210:=Tryz.zeroValue343
 t212:=Tryz.underlying369
 a212:=Tryz.isAgg369
 z212:=Tryz.sizeOf369
 v212:=Tryz.zeroValue369
 t213:=Tryz.underlying370
 a213:=Tryz.isAgg370
 z213:=Tryz.sizeOf370
 t232:=Tryz.underlying373
 a232:=Tryz.isAgg373
 z232:=Tryz.sizeOf373
 v232:=Tryz.zeroValue373
 t233:=Tryz.underlying374
 a233:=Tryz.isAgg374
 z233:=Tryz.sizeOf374
 v233:=Tryz.zeroValue374
 g15:=acO
 g16:=acO
 g17:=acO
 g18:=acO
 g19:=acO
 t80:=Tryz.underlying200
 a80:=Tryz.isAgg200
 z80:=Tryz.sizeOf200
 v80:=Tryz.zeroValue200
 i0:=acO
 i2:=acO
 i3:=acO
 i4:=acO
 i5:=acO
 i9:=acO
 i20:=acO
 i21:=acO
 i37:=acO
 i46:=acO
 i51:=acO
 i53:=acO
 i75:=acO
 i76:=acO
 i80:=acO
 i85:=acO
 i127:=acO
 i143:=acO
 i145:=acO
 i167:=acO
 i168:=acO
 i171:=acO
 i173:=acO
 i175:=acO
 i210:=acO
 i212:=acO
 i232:=acO
 i233:=acO
 m15:=acY
 m16:=acY
 m17:=acY
 m18:=acY
 m19:=acY
 c0:=acO
 c2:=acO
 c3:=acO
 c4:=acO
 c5:=acO
 c9:=acO
 c20:=acO
 c21:=acO
 c37:=acO
 c46:=acO
 c51:=acO
 c53:=acO
 c75:=acO
 c76:=acO
 c80:=acO
 c85:=acO
 c127:=acO
 c143:=acO
 c145:=acO
 c167:=acO
 c168:=acO
 c171:=acO
 c173:=acO
 c175:=acO
 c210:=acO
 c212:=acO
 c213:=acO
 c232:=acO
 c233:=acO}
open Go.RowKit in
theorem Tryz.strconv_Atoi_ok(s:ByteArray)(hmax:s.size≤9223372036854775806)(v:Int)(h:Lib.atoiAll s.data.toList= .ok v)(w:World):
  Calls Tryz.prog 187 #[.string s] w fun e w' =>e= .returned (.tuple #[.int .i64 v,.nilIface])∧(w' =w∨∃t,w' =Lib.bytesWorld w 5 t):=Any.strconv_Atoi_ok Tryz.Dn s hmax v h w
open Go.RowKit in
theorem Tryz.strconv_Atoi_range(s:ByteArray)(hlim:s.size≤281474976710656)(h:Lib.atoiAll s.data.toList= .range)(ev:Value)(w:World)(hv:w.cell? ⟨2,0,none⟩=some ev)(hev:ev= .nilIface∨∃te pe,ev= .iface te pe):
  Calls Tryz.prog 187 #[.string s] w fun e w' =>∃N,e= .returned (.tuple #[.int .i64 (Lib.atoiSat s.data.toList),.iface 318 (.pointer (some ⟨N,0,none⟩))])∧w.heap.size≤N∧w'.heap[N]? =some (.cells #[.string ⟨#[65,116,111,105]⟩,.string s,ev] 343 (0,0))∧Below w.heap.size w w' :=Any.strconv_Atoi_range Tryz.Dn s hlim h ev w hv hev
end Go.Proofs
namespace Go.Proofs.YteaaeelhjnhaaaaGreatDoor
open Go Go.Ab Go.Bf Go.RowKit Tryz
theorem Jq(s:Txt)(hs:s.length≤100000)(w:World):Calls prog 185 #[.string ⟨s.toArray⟩,.func (.func 156) #[] #[]] w fun e w' =>e= .returned (.int .i64 (s.takeWhile dgt).length)∧Below w.heap.size w w' :=by
 refine Go.Ab.ai.calls (args:=[.s s,.fn 156 []]) ⟨_,func185,acY,rfl⟩ ((Mh _ _ mK s cL).mono fun _ _ h=>h.1) rfl (fun i hi=>?_)
 rcases i with _|_|i
 ·exact .s s (by grind [lim,Nat])
 ·exact .fn _ [] #[] rfl (fun i hi=>by cases hi)
 ·simp at hi;omega
def zZ(neg:Bool)(d:Txt):Int:=if neg then -(pY d:Int)else(pY d:Int)
def inI(neg:Bool)(d:Txt):Prop:= -9223372036854775808≤(if neg then -(pY d:Int)else(pY d:Int))∧(if neg then -(pY d:Int)else(pY d:Int))≤9223372036854775807
instance (neg:Bool) (d:Txt):Decidable (inI neg d):=inferInstanceAs (Decidable (_∧_))
theorem zf(neg):(pV neg).length≤1:=by cases neg<;>decide
theorem Gl(neg)(d)(h0:d≠ [])(hd:∀c∈d,dgt c=true)(hlen:d.length≤10000)(S)(hS:S=⟨(pV neg++d).toArray⟩)(hr:inI neg d)(W):
  Calls prog 187 #[.string S] W fun e w' =>e= .returned (.tuple #[.int .i64 (zZ neg d),.nilIface])∧Below W.heap.size W w' :=by
 have hl:=zf neg;have hsz:S.size≤10001:=by grind [ByteArray.size]
 have ha:Lib.atoiAll S.data.toList= .ok (zZ neg d):=by rw[hS];rw[vp neg d h0 hd];exact if_pos hr
 refine(Tryz.strconv_Atoi_ok S acK _ ha W).mono ?_
 rintro e w' ⟨rfl,rfl|⟨t,rfl⟩⟩
 ·exact⟨rfl,.refl _ _⟩
 ·exact⟨rfl,Lib.bytesWorld_below W _ t⟩
theorem Cv(neg)(d)(h0:d≠ [])(hd:∀c∈d,dgt c=true)(hlen:d.length≤10000)(S)(hS:S=⟨(pV neg++d).toArray⟩)(hr:¬inI neg d)(W)(ev)(hv:W.cell? ⟨2,0,none⟩=some ev)(hev:ev= .nilIface∨∃te pe,ev= .iface te pe):
  Calls prog 187 #[.string S] W fun e w' =>(∃(x:Int) (N:Nat),e= .returned (.tuple #[.int .i64 x,.iface 318 (.pointer (some ⟨N,0,none⟩))]))∧Below W.heap.size W w' :=by
 have hl:=zf neg;have hsz:S.size≤10001:=by grind [ByteArray.size]
 have ha:Lib.atoiAll S.data.toList= .range:=by rw[hS];rw[vp neg d h0 hd];exact if_neg hr
 refine(Tryz.strconv_Atoi_range S acK ha ev W hv hev).mono ?_
 grind
set_option maxHeartbeats 1000000 in
theorem DB(neg)(s)(hs:s.length≤10000)(w)(ev)(hv:w.cell? ⟨2,0,none⟩=some ev)(hev:ev= .nilIface∨∃te pe,ev= .iface te pe)(hg:2<w.heap.size):
  Calls prog 157 #[.string ⟨(pV neg).toArray⟩,.string ⟨s.toArray⟩] w fun e w' =>e= .returned (.tuple #[.int .i64 (eW neg s).1,.int .i64 ((eW neg s).2:Nat)])∧Below w.heap.size w w' :=by
 have hle:=j3 dgt s;obtain⟨d,ed⟩:∃d,s.takeWhile dgt=d:=⟨_,rfl⟩;have htk:s.take d.length=d:=by grind [qW]
 have hrun:=Jq s acK w;have hall:=zX s;rw[ed]at hrun hle hall
 go_enter func157,Tryz.ntmps157
 by_cases h0:d.length=0
 ·have e0:d= []:=by grind
  have en:eW neg s=(0,0):=by simp_all [eW,if_pos]
  go_wp2_with (go_at_call 185;refine hrun.mono ?_)
  rintro e W0 ⟨rfl,b0⟩
  rw[h0]
  go_wp2
  go_ret2
  simp_all
 ·have e0:d≠ []:=by grind
  go_wp2_with (go_at_call 185;refine hrun.mono ?_)
  rintro e W0 ⟨rfl,b0⟩
  have hpos:0<d.length:=acK;have hs0:0<s.length:=acK;have hsz:0<(⟨s.toArray⟩:ByteArray).size:=by grind [ByteArray.size]
  have hg0:(⟨s.toArray⟩:ByteArray)[0]=s[0]:=rfl;have hgn:∀x:UInt8,(s.head? =some x)↔s[0]=x:=fun x=>by rw[List.head?_eq_getElem?,List.getElem?_eq_getElem hs0];simp
  cases d0:((d.length:Int)==0)
  case true=>exact absurd acL h0
  have hS:(⟨(pV neg).toArray⟩:ByteArray)++(⟨s.toArray⟩:ByteArray).extract 0 d.length=⟨(pV neg++d).toArray⟩:=by
   apply ByteArray.ext
   simp_all
  have hcat:¬9223372036854775807<List.length (pV neg)+d.length:=by grind [zf]
  cases d1:decide (1<(d.length:Int))
  ·have f1:¬1<d.length:=by grind
   have en:eW neg s=if inI neg d then(zZ neg d,d.length)else(0,0):=by unfold eW;rw[ed,if_neg acL];rfl
   have hv0:W0.cell? ⟨2,0,none⟩=some ev:=by rw[b0.cell hg];omega
   by_cases hr:inI neg d
   ·rw[if_pos hr]at en
    go_wp2_with (go_at_call 187;refine(Gl neg d e0 hall acK _ acY hr _).mono ?_)
    rintro e W1 ⟨rfl,b1⟩
    go_wp2
    go_ret2
    rw[en];exact aew
   ·rw[if_neg hr]at en
    go_wp2_with (go_at_call 187;refine(Cv neg d e0 hall acK _ acY hr _ ev hv0 hev).mono ?_)
    rintro e W1 ⟨⟨x,N,rfl⟩,b1⟩
    go_wp2
    go_ret2
    rw[en];exact aew
  ·have f1:1<d.length:=by grind
   cases d2:((s[0].toNat:Int)==48)
   ·have f2:s.head?≠some 48:=by rw[ne_eq,hgn];intro e;simp_all
    have en:eW neg s=if inI neg d then(zZ neg d,d.length)else(0,0):=by unfold eW;rw[ed,if_neg acL];rfl
    have hv0:W0.cell? ⟨2,0,none⟩=some ev:=by rw[b0.cell hg];omega
    by_cases hr:inI neg d
    ·rw[if_pos hr]at en
     go_wp2_with (go_at_call 187;refine(Gl neg d e0 hall acK _ acY hr _).mono ?_)
     rintro e W1 ⟨rfl,b1⟩
     go_wp2
     go_ret2
     rw[en];exact aew
    ·rw[if_neg hr]at en
     go_wp2_with (go_at_call 187;refine(Cv neg d e0 hall acK _ acY hr _ ev hv0 hev).mono ?_)
     rintro e W1 ⟨⟨x,N,rfl⟩,b1⟩
     go_wp2
     go_ret2
     rw[en];exact aew
   ·have f2:s.head? =some 48:=by rw[hgn];have:(s[0].toNat:Int)=48:=acL;exact UInt8.toNat_inj.1 acL
    have en:eW neg s=(0,0):=by simp_all [eW,if_pos]
    go_wp2
    go_ret2
    simp_all
def l8(h:Heap):Prop:=∃ev:Value,(ev= .nilIface∨∃te pe,ev= .iface te pe)∧Tab h 2 [ev]
theorem l8.sub{h h'}(he:l8 h)(hs:Ab.Sub h h'):l8 h' :=by obtain⟨ev,h1,h2⟩:=he;exact⟨ev,h1,h2.sub hs⟩
theorem mw(neg)(s)(hs:s.length≤10000)(h)(he:l8 h):ai prog 157 [.s (pV neg),.s s] h fun r h' =>r= .tup [.v (.int .i64 (eW neg s).1),.i ((eW neg s).2:Nat)]∧h' =h:=by
 obtain⟨ev,hev,id,hi⟩:=he;refine .lib ⟨_,func157,acY,rfl⟩ fun c vs hs' g h1 h2=>?_
 obtain⟨u,v,rfl⟩:∃u v,vs= #[u,v]:=by
  match vs,h1 with
  |⟨[u,v]⟩,_=>exact⟨u,v,rfl⟩
 have e1:u= .string ⟨(pV neg).toArray⟩:=((h2 0 acS).nF).1;have e2:v= .string ⟨s.toArray⟩:=((h2 1 acS).nF).1;subst e1;subst e2
 obtain⟨_,t,fr,hh⟩:=g.ro id _ _ (hs' _ _ hi);have hc:c.w.cell? ⟨2,0,none⟩=some ev:=by grind [World.cell?]
 refine(DB neg s hs c.w ev hc hev (cV hh)).mono ?_
 rintro e w' ⟨rfl,hb⟩
 refine⟨⟨_,rfl,fun c' _=>?_⟩,hb⟩
 refine .tup _ _ rfl fun i hi=>?_
 rcases i with _|_|i
 ·exact ae3
 ·exact ae3
 ·simp at hi;omega
end Go.Proofs.YteaaeelhjnhaaaaGreatDoor
namespace Go.Bf
open Go Go.Ab
def marks:Txt:=[123,125,40,41,46,44,59,61,60,62,33]
theorem zH:∀n:Fin 256,decide (0≤Lib.indexByte marks (UInt8.ofNat n.val))=Du (UInt8.ofNat n.val):=acN
theorem rz(c):decide (0≤Lib.indexByte marks c)=Du c:=by have:=zH ⟨c.toNat,c.toNat_lt⟩;simpa using this
end Go.Bf
namespace Go.Proofs.YteaaeelhjnhaaaaGreatDoor
open Go Go.Ab Go.Bf Tryz
variable {h:Heap}{j f idw mid nr nk d:Nat}{alg e:Int}
theorem Dd(l)(c)(h):ai prog 159 [.s l,.v (.int .u8 c.toNat)] h fun r h' =>r= .i (Lib.indexByte l c)∧h' =h:=by
 refine .lib ⟨_,func159,acY,rfl⟩ fun cx vs hs' g h1 h2=>?_
 obtain⟨u,v,rfl⟩:∃u v,vs= #[u,v]:=by
  match vs,h1 with
  |⟨[u,v]⟩,_=>exact⟨u,v,rfl⟩
 have e1:u= .string ⟨l.toArray⟩:=((h2 0 acS).nF).1;have e2:v= .int .u8 c.toNat:=(h2 1 acS).bS;subst e1;subst e2
 refine(Tryz.strings_IndexByte ⟨l.toArray⟩ c.toNat cx.w).mono ?_
 rintro e w' ⟨rfl,rfl⟩
 refine⟨⟨_,rfl,fun c' _=>?_⟩,.refl _ _⟩
 have:((c.toNat:Int).toNat).toUInt8=c:=acS;rw[this];exact ae3
theorem HU(s)(h0:s≠ [])(hs:s.length≤4096)(h)(he:l8 h):ai prog 127 [.s s] h fun r h' =>r= .tup [fM (bQ s).1,.i ((bQ s).2:Nat)]∧h' =h:=by
 refine acJ func127 106 [.cell 2 151,.tmp 3] fun hwf=>?_
 obtain⟨c,r,rfl⟩:=List.exists_cons_of_ne_nil h0;have hsl:r.length≤4095:=by simpa using hs
 simp only[go_sem];intro i2 hi2;simp only[go_sem];intro i4 hi4;have n24:=aH hi4;have g2:∀(f:Heap) (x:Option Blk),upd f i4 x i2=f i2:=fun f x=>ag f x n24.symm
 have g4:∀(f:Heap) (x:Option Blk),upd f i2 x i4=f i4:=fun f x=>ag f x n24
 have hsub:Ab.Sub h (upd (upd h i2 (some (.obj [.i 0,.i 0,.i 0,.s []] 151))) i4 (some (.obj [.i 0,.i 0,.i 0,.s []] 151))):=(Sub.aj hi2).trans (.aj hi4);have he2:=he.sub hsub;have hi4h:h i4=none:=by rw[ag _ _ n24]at hi4;exact hi4
 simp only[go_sem];refine .at 0 acS ?_;cases la:decide (97≤(c.toNat:Int))
 ·have hl:ltr c=false:=by simp only[ltr,la,Bool.false_and]
  simp only[go_sem,aI,List.getElem_cons_zero,la];exact agS
 ·cases lb:decide ((c.toNat:Int)≤122)
  ·have hl:ltr c=false:=by simp only[ltr,lb,Bool.and_false]
   simp only[go_sem,aI,List.getElem_cons_zero,la,lb];exact agS
  ·have hl:ltr c=true:=by simp only[ltr,la,lb];rfl
   simp only[go_sem,aI,List.getElem_cons_zero,la,lb];refine(yB _ _).pthen ?_;simp only[go_sem,g2,ah];exact .mk _ (.refl _) acM ⟨by simp[bQ,hl,fM,ax],rfl⟩
theorem OM:(U 151).sz=4:=acY
theorem Va:(U 151).bytes=40:=acY
theorem pM(l:List wh):Sized 4 (l.map fM):=fun z hz=>by obtain⟨c,_,rfl⟩:=List.mem_map.1 hz;rfl
def N3:Lexed→AV
 |.bad e a=> .tup [.sl [] .no,.i e,.i a]
 |.ok l=> .tup [.sl (l.map fM) .no,.i 0,.i 0]
def JZ(s:Txt)(h:Heap)(m:Nat)(ρ:Env)(h' :Heap):Prop:=
 ∃(i f:Nat) (y:AV) (out:List wh) (id:Nat),Acc U 151 h h' y (out.map fM)∧out.length≤i∧i≤s.length∧m=s.length - i∧s.length<f+i∧s.length≤4096∧h id=none∧(∃c0 c1 c2 c3,h' id=some (.obj [c0,c1,c2,c3] 151))∧tD f (s.drop i) i out=sk s∧lk ρ 0=some (.s s)∧lk ρ 5=some y∧lk ρ 6=some (.ptr id 0)∧lk ρ 7=some (.i i)
theorem ED(s)(h)(he:l8 h):ai prog 89 [.s s] h fun r h' =>r=N3 (sk s)∧h' =h:=by
 refine ai.of_wp hU func89 rfl acY 52 rfl [.tmp 2,.tmp 3,.tmp 4] rfl (acz rfl) ?_;refine .one hU hm ?_;simp only[go_sem];refine WP.Mi hU hm 0 (JZ s h) rfl ?_ ?_
 ·rintro m ρ h' ⟨i,f,y,out,id,hy,hoi,hi,rfl,hf,hs,hid,⟨c0,c1,c2,c3,hob⟩,hl,r0,r5,r6,r7⟩
  refine .vc hU hm ?_;cases d1:((i:Int)==(s.length:Int))
  case true=>
   have e1:i=s.length:=acL;subst e1;obtain⟨f,rfl⟩:∃g,f=g+1:=⟨f - 1,acK⟩;rw[List.drop_length]at hl;simp only[tD]at hl;simp only[go_sem,r0,r5,r7,d1];refine hy.app (zs:=[fM ⟨7,s.length,0,[]⟩]) acN acN (fun k hk=>hk) (by grind [OM,pM]) (by rw[OM];exact pM [⟨7,s.length,0,[]⟩]) (by grind [Va]) fun y' h2 hy' hk2=>?_
   simp only[go_sem];obtain⟨q,rfl⟩:=hy'.row;refine .mk _ (Bk _ _ _ _) hy'.1 ⟨?_,rfl⟩
   grind [N3]
  have e1:i≠s.length:=acL;have hlt:i<s.length:=acK;obtain⟨f,rfl⟩:∃g,f=g+1:=⟨f - 1,acK⟩;have hdr:s.drop i=s[i]::s.drop (i+1):=acS;have w1:IntKind.i64.wrap ((i:Int)+1)=((i+1:Nat):Int):=acX;have hl2:=hl;rw[hdr]at hl2;simp only[tD]at hl2;rw[←hdr]at hl2;have blank:qk s[i]=true→∃m',m' <s.length - i∧True:=fun _=>⟨s.length - (i+1),acK,trivial⟩
  cases d2:((s[i].toNat:Int)==32)
  case true=>
   have hb:qk s[i]=true:=by simp only[qk,d2,Bool.true_or]
   rw[if_pos hb]at hl2;simp only[go_sem,r0,r7,d1];refine .at i hlt ?_;simp only[go_sem,r7,aI,d2,w1];exact ahK
  cases d3:((s[i].toNat:Int)==10)
  case true=>
   have hb:qk s[i]=true:=by simp only[qk,d3,Bool.or_true]
   rw[if_pos hb]at hl2;simp only[go_sem,r0,r7,d1];refine .at i hlt ?_;simp only[go_sem,r0,r7,aI,d2];refine .at i hlt ?_;simp only[go_sem,r7,aI,d3,w1];exact ahK
  have hb:¬qk s[i]=true:=by grind [qk]
  rw[if_neg hb]at hl2;have hne:s.drop i≠ []:=fun e=>by have:=congrArg List.length e;simp at this;omega
  have hle:=rW (s.drop i) hne;have hdl:(s.drop i).length=s.length - i:=acS;have hbo:=fun hh eh=>HU (s.drop i) hne acK hh eh
  obtain⟨t,n,etn⟩:∃t n,bQ (s.drop i)=(t,n):=⟨_,_,rfl⟩;rw[etn]at hbo hl2 hle;simp only[fM]at hbo hl2 hle;simp only[go_sem,r0,r7,d1];refine .at i hlt ?_;simp only[go_sem,r0,r7,aI,d2];refine .at i hlt ?_;simp only[go_sem,r0,r7,aI,d3,mb,Option.isSome_none,Option.isSome_some,Int.toNat_natCast];refine⟨acK,acK,acK,?_⟩;refine(hbo _ (he.sub hy.1)).pthen ?_;cases d4:((n:Int)==0)
  case true=>have e4:n=0:=acL;rw[if_pos e4]at hl2;simp only[go_sem,r6,r7,hob,d4];refine .mk _ (Bk _ _ _ _) (hy.1.put hid _) ⟨?_,rfl⟩;rw[←hl2];rfl
  have e4:n≠0:=acL;rw[if_neg e4]at hl2;have w2:IntKind.i64.wrap ((i:Int)+(n:Int))=((i+n:Nat):Int):=acX;simp only[go_sem,r5,r6,r7,hob,d4];refine(hy.put hid hob _).app (zs:=[fM {t with pos:=i}]) acN acN (fun k hk=>hk) (by grind [OM,pM]) (by rw[OM];exact pM [{t with pos:=i}]) (by grind [Va]) fun y' h2 hy' hk2=>?_
  simp only[go_sem,r7,w2];refine⟨s.length - (i+n),acK,i+n,f,y',out++ [{t with pos:=i}],id,acL,acL,acK,rfl,acK,hs,hid,⟨_,_,_,_,hk2 _ _ _ (ah ..)⟩,?_,?_,?_,?_,?_⟩
  ·grind [List.drop_drop]
  all_goals simp only[go_sem,r0,r6]
 ·intro nx
  cases d0:decide (4096<(s.length:Int))
  case true=>have e0:s.length>4096:=acL;refine .one hU hm ?_;simp only[go_sem,d0];exact .mk (.tup [.sl [] .no,.i 6,.i 4096]) (fD (.tup [.sl [] .full,.i 6,.i 4096])) (.refl _) ⟨by rw[sk,if_pos e0];rfl,rfl⟩
  have e0:¬s.length>4096:=acL;refine .one hU hm ?_;simp only[go_sem,d0];refine .one hU hm ?_;simp only[go_sem];refine .one hU hm ?_;simp only[go_sem];intro id hid;simp only[go_sem];refine .one hU hm ?_;simp only[go_sem];refine .one hU hm ?_;simp only[go_sem];refine nx (s.length - 0) _ _ ⟨0,s.length+1,_,[],id,.full (.aj hid),acS,acK,rfl,acK,acK,hid,⟨_,_,_,_,ah ..⟩,by simp_all [sk,if_neg],?_,?_,?_,?_⟩<;>simp only[go_sem]
def PO(st:PS):Blk:=.obj [.sl (st.ts.map fM) .no,.i st.pos,.i st.rules,.i st.bad,.i st.place] 148
def PC(f:FuncId)(args:List AV)(st:PS)(R:AV)(st' :PS):Prop:=∀(h:Heap) (id:Nat),h id=some (PO st)→ai prog f (.ptr id 0::args) h fun r h' =>r=R∧h' =upd h id (some (PO st'))
theorem PC.go{f}{args}{st st'}{R}(hc:PC f args st R st'){h}{id:Nat}{Q}(hid:h id=some (PO st))(k:Q R (upd h id (some (PO st')))):ai prog f (.ptr id 0::args) h Q:=
 (hc h id hid).mono fun r h' ⟨e1,e2⟩=>aeP
theorem bl{id:Nat}{b}(e:h id=b):upd h id b=h:=by grind [ah,ag]
theorem ri(st)(e p:Int):PC 94 [.i e,.i p] st (.tup []) (bI st e p):=fun h id hid=>by
 refine acJ func94 19 [] fun hwf=>?_
 have g:=hid;unfold PO at g;cases d1:(st.bad==0)
 ·have e1:st.bad≠0:=by grind
  simp only[go_sem,g,d1];exact .mk _ (.refl _) (.refl _) ⟨rfl,by rw[bI,if_neg e1,bl hid]⟩
 ·have e1:st.bad=0:=by grind
  simp only[go_sem,g,d1];exact .mk _ (.refl _) (.refl _) ⟨rfl,by rw[bI,if_pos e1];rfl⟩
theorem me(st)(hw:WfP st):PC 91 [] st (fM (aL st)) st:=fun h id hid=>by
 refine acJ func91 13 [.cell 2 151] fun hwf=>?_
 have g:=hid;unfold PO at g;simp only[go_sem];intro i2 hi2;have n2:id≠i2:=fun e=>acL
 simp only[go_sem,g,ak,n2];refine⟨.of acO,?_⟩;refine .at st.pos (by simpa using hw.1) acZ ?_
 simp only[go_sem,acB,fM];refine .mk _ (.refl _) (.aj hi2) ⟨by rw[Db hw.1];rfl,(bl hid).symm⟩
theorem lG(st)(hw:WfP st):PC 92 [] st (.tup []) (bp st):=fun h id hid=>by
 refine acJ func92 7 [] fun hwf=>?_
 simp only[go_sem];refine(me st hw).go hid ?_;rw[bl hid];simp only[go_sem,fM];refine(ri st 5 _).go hid ?_;exact aha
theorem cK(st)(b)(hw:WfP st):PC 163 [.b b] st (.tup []) (bF st b):=fun h id hid=>by
 refine acJ func163 10 [] fun hwf=>?_
 cases b
 ·simp only[go_sem]
  exact aet
 simp only[go_sem];refine(me st hw).go hid ?_;rw[bl hid];simp only[go_sem,fM];refine(ri st 6 _).go hid ?_;exact aha
theorem tv(st)(s)(hw:WfP st):PC 164 [.s s] st (.b (isD st s)) st:=fun h id hid=>by
 refine acJ func164 29 [.tmp 4] fun hwf=>?_
 have g:=hid;unfold PO at g;simp only[go_sem];refine(me st hw).go hid ?_;rw[bl hid];simp only[go_sem,fM];intro i2 hi2;have n2:id≠i2:=fun e=>acL
 cases d1:(st.bad==0)<;>cases d2:((aL st).s==s)<;>cases d3:((aL st).kind==1)<;>cases d4:((aL st).kind==6)
 all_goals
  simp only[go_sem,g,ak,n2,d1,d2,d3,d4];exact .mk _ (.refl _) (.aj hi2) ⟨by simp only[isD,d1,d2,d3,d4];rfl,rfl⟩
theorem j4(st)(s)(hw:WfP st):PC 161 [.s s] st (.v (.bool (cq st s).1)) (cq st s).2:=fun h id hid=>by
 refine acJ func161 18 [.tmp 4] fun hwf=>?_
 have g:=hid;unfold PO at g;simp only[go_sem];refine(tv st s hw).go hid ?_;rw[bl hid];cases d1:isD st s
 ·have e:cq st s=(false,st):=by grind [cq]
  simp only[go_sem];exact .mk _ (.refl _) (.refl _) ⟨af8,by grind [bl]⟩
 ·have e:cq st s=(true,bk st):=by grind [cq]
  have w1:IntKind.i64.wrap ((st.pos:Int)+1)=((st.pos+1:Nat):Int):=aeo;simp only[go_sem,g,w1];exact .mk _ (.refl _) (.refl _) ⟨af8,af8⟩
theorem kR(st)(s)(hw:WfP st):PC 131 [.s s] st (.tup []) (dV st s):=fun h id hid=>by
 refine acJ func131 10 [] fun hwf=>?_
 simp only[go_sem];refine(j4 st s hw).go hid ?_;cases d1:isD st s
 ·have e:cq st s=(false,st):=by grind [cq]
  rw[e,bl hid];simp only[go_sem];refine(lG st hw).go hid ?_;exact aiq
 ·have e:cq st s=(true,bk st):=by grind [cq]
  rw[e];exact aiq
theorem tO(st)(hw:WfP st):PC 129 [] st (.s (cp st).1) (cp st).2:=fun h id hid=>by
 refine acJ func129 25 [.tmp 2] fun hwf=>?_
 have g:=hid;unfold PO at g;have w1:IntKind.i64.wrap ((st.pos:Int)+1)=((st.pos+1:Nat):Int):=aeo;simp only[go_sem];refine(me st hw).go hid ?_;rw[bl hid];simp only[go_sem,fM];intro i2 hi2;have n2:id≠i2:=fun e=>acL
 cases d1:((aL st).kind !=1)
 case true=>
  have e1:(aL st).kind≠1:=acL;have en:cp st=([],bp st):=by grind [cp]
  simp only[go_sem,d1];have hid2:upd h i2 (some (.obj [.v (.int .i64 (aL st).kind),.v (.int .i64 (aL st).pos),.v (.int .i64 (aL st).n),.s (aL st).s] 151)) id=some (PO st):=adm;refine(lG st hw).go hid2 ?_;have hb:(bp st).bad≠0:=by grind [bp,bI,Int]
  have d2:((bp st).bad !=0)=true:=acL;simp only[go_sem,PO,d2];exact .mk _ (.refl _) (Sub.both (.aj hi2) _ _) ⟨ady,acL⟩
 have e1:(aL st).kind=1:=acL;cases d2:(st.bad !=0)
 case true=>
  have e2:st.bad≠0:=acL;have en:cp st=([],st):=by grind [cp]
  simp only[go_sem,g,ak,n2,d1,d2];exact .mk _ (.refl _) (.aj hi2) ⟨ady,by grind [bl]⟩
 have e2:st.bad=0:=acL;have en:cp st=((aL st).s,bk st):=by grind [cp]
 simp only[go_sem,g,ak,n2,n2.symm,d1,d2,w1];exact .mk _ (.refl _) (Sub.both (.aj hi2) _ _) ⟨ady,by rw[en];try rfl⟩
theorem PC.run{f}{args}{st st'}{R}(hc:PC f args st R st'){G}{id:Nat}{Q}(k:Q R (upd G id (some (PO st')))):ai prog f (.ptr id 0::args) (upd G id (some (PO st))) Q:=
 hc.go (ah ..) (by rw[nK];exact k)
theorem PC.of{f}{args}{st st'}{R}(hk:∀(G:Heap) (id:Nat),ai prog f (.ptr id 0::args) (upd G id (some (PO st))) fun r h' =>r=R∧h' =upd G id (some (PO st'))):PC f args st R st' :=fun h id hid=>by have:=hk h id;rw[bl hid]at this;exact adr
theorem cw{α:Type}(f:Nat→α){i:Nat}(x y:α)(h:i≠j):upd (upd f i x) j y=upd (upd f j y) i x:=by grind [ag,ah]
theorem BR{s}:∀ {ws:List Txt} {i:Nat},uE s ws=some i→i<ws.length
 |w::r,i,h=>by
  simp only[uE]at h;split at h
  ·grind
  ·cases hr:uE s r with
   |none=>grind
   |some j=>rw[hr]at h;cases h;have:=BR hr;simp;omega
theorem GJ{s}:∀ {ws:List Txt} (i:Nat) (hi:i<ws.length),(∀j (hj:j<ws.length),j<i→ws[j]≠s)→ws[i]=s→uE s ws=some i
 |w::r,0,_,_,h=>by grind [uE]
 |w::r,i+1,hi,hb,h=>by have h0:=hb 0 acS acK;simp only[List.getElem_cons_zero]at h0;simp only[uE,if_neg h0];rw[GJ i acL acL acL];rfl
theorem AI{s}:∀ {ws:List Txt},(∀j (hj:j<ws.length),ws[j]≠s)→uE s ws=none
 | [],_=>rfl
 |w::r,hb=>by
  have h0:=hb 0 acS;simp only[List.getElem_cons_zero]at h0;simp only[uE,if_neg h0];rw[AI (fun j hj=>by have:=hb (j+1) acL;simpa using this)]
  rfl
def Q1(o:Option Nat):Int:=match o with
 |some i=>i
 |none=> -1
theorem IX(ws)(q)(s)(hl:ws.length≤1000)(h):ai prog 160 [.sl (ws.map AV.s) q,.s s] h fun r h' =>r= .i (Q1 (uE s ws))∧h' =h:=by
 refine acJ func160 19 [.tmp 4] fun hwf=>?_
 simp only[go_sem,acA];refine .intro (fun m ρ h' =>h' =h∧∃i:Nat,i≤ws.length∧m=ws.length - i∧(∀j (hj:j<ws.length),j<i→ws[j]≠s)∧lk ρ 0=some (.sl (ws.map AV.s) q)∧lk ρ 1=some (.s s)∧lk ρ 7=some (.i ws.length)∧lk ρ 8=some (.i i)) ws.length ?_ ?_
 ·refine⟨rfl,0,acK,rfl,fun j _ hj=>acK,?_,?_,?_,?_⟩<;>simp only[go_sem]
 ·rintro m ρ h' ⟨rfl,i,hi,rfl,hc,r0,r1,r7,r8⟩
  simp only[go_sem,r7,r8];refine .intro (fun e=>?_) (fun e=>?_)
  ·have hlt:i<ws.length:=acH e
   have w1:IntKind.i64.wrap ((i:Int)+1)=((i+1:Nat):Int):=acX;simp only[go_sem,r0,r1,r8];refine .at i acL acZ ?_;cases d1:(s==ws[i])
   ·have e1:ws[i]≠s:=by grind
    simp only[go_sem,r8,acB,d1,w1];refine⟨_,?_,rfl,i+1,acK,rfl,fun j hj hji=>?_,?_,?_,?_,?_⟩
    ·omega
    ·grind
    all_goals simp only[go_sem,r0,r1,r7]
   ·have e1:ws[i]=s:=by grind
    simp only[go_sem,acB,d1];exact .same (.refl _) ⟨by rw[GJ i hlt hc e1];rfl,rfl⟩
  ·have hge:i=ws.length:=by grind
   subst hge;simp only[go_sem];exact .same (.refl _) ⟨by rw[AI fun j hj=>hc j hj hj];rfl,rfl⟩
theorem om(st)(ws)(q)(hl:ws.length≤1000)(hw:WfP st):PC 128 [.sl (ws.map AV.s) q] st (.v (.int .i64 (aX st ws).1)) (aX st ws).2:=.of fun G id=>by
 refine acJ func128 28 [.tmp 4] fun hwf=>?_
 simp only[go_sem];refine(me st hw).run ?_;simp only[go_sem,fM];intro i2 hi2;have n2:=aH hi2;have hG2:G i2=none:=adm;have c2:∀(f:Heap) (x y:Option Blk),upd (upd f id x) i2 y=upd (upd f i2 y) id x:=fun f x y=>cw f x y n2.symm
 cases d1:((aL st).kind==1)
 ·have e1:(aL st).kind≠1:=by grind
  have en:aX st ws=(0,bp st):=by grind [aX]
  simp only[go_sem,c2,ak,n2,d1];exact ahl
 have e1:(aL st).kind=1:=acL;simp only[go_sem,c2,ak,n2,d1];refine(IX ws q _ hl _).pthen ?_;cases ei:uE (aL st).s ws with
 |none=>
  have en:aX st ws=(0,bp st):=by grind [aX]
  have dm:decide ((0:Int)≤ -1)=false:=acN;simp only[go_sem,Q1,dm];exact ahl
 |some i=>
  have hil:=BR ei;have d2:decide (0≤(i:Int))=true:=acS;have w1:IntKind.i64.wrap ((i:Int)+1)=((i:Int)+1):=acX;simp only[go_sem,Q1,d2,ak,n2];refine(j4 st _ hw).run ?_;cases d3:(st.bad==0)
  ·have e3:st.bad≠0:=by grind
   have et:cq st (aL st).s=(false,st):=by grind [cq,isD]
   have en:aX st ws=(0,bp st):=by grind [aX]
   rw[et];simp only[go_sem];exact ahl
  ·have e3:st.bad=0:=by grind
   have et:cq st (aL st).s=(true,bk st):=by grind [cq,isD]
   have en:aX st ws=((i:Int)+1,bk st):=by grind [aX]
   rw[et];simp only[go_sem,w1];exact .mk _ (.refl _) (Sub.both (.aj hG2) _ _) ⟨ady,by rw[en]⟩
theorem Kh(st)(hw:WfP st):PC 235 [] st (Cw (fY st).1) (fY st).2:=.of fun G id=>by
 have h1:=gF vr hw;have h2:=jj [46] h1.1;have h3:=mV h2.1;refine acJ func235 17 [.cell 2 246] fun hwf=>?_
 simp only[go_sem];intro i2 hi2;have n2:=aH hi2;have hG2:G i2=none:=adm;have c2:∀(f:Heap) (x y:Option Blk),upd (upd f id x) i2 y=upd (upd f i2 y) id x:=fun f x y=>cw f x y n2.symm
 simp only[go_sem,c2];intro i3 hi3;have n3:=aH hi3;have hi3' :=hi3;rw[ag _ _ n3]at hi3';have n32:=aH hi3';have hG3:G i3=none:=adm;have c3:∀(f:Heap) (x y:Option Blk),upd (upd f id x) i3 y=upd (upd f i3 y) id x:=fun f x y=>cw f x y n3.symm
 have c23:∀(f:Heap) (x y:Option Blk),upd (upd f i3 x) i2 y=upd (upd f i2 y) i3 x:=fun f x y=>cw f x y n32
 have m32:¬i3=i2:=n32;have m23:¬i2=i3:=n32.symm;simp only[go_sem,c3];refine(om st vr .full acN hw).run ?_;simp only[go_sem,c3,ak,n3];refine(kR _ [46] h1.1).run ?_;simp only[go_sem];refine(tO _ h2.1).run ?_;simp only[go_sem,c3,ak,n3];refine(j4 _ [33] h3.1).run ?_;simp only[go_sem,c2,c3,c23,ak,n2,n3,m23];exact .mk _ (.refl _) (Sub.both adf _ _) ⟨rfl,rfl⟩
theorem uf(st)(hw:WfP st):PC 236 [] st (aP (aD st).1) (aD st).2:=.of fun G id=>by
 refine acJ func236 56 [.cell 2 23] fun hwf=>?_
 have w1:IntKind.i64.wrap ((st.pos:Int)+1)=((st.pos+1:Nat):Int):=aeo;simp only[go_sem];intro i2 hi2;have n2:=aH hi2;have hG2:G i2=none:=by rw[ag _ _ n2]at hi2;exact hi2
 have c2:∀(f:Heap) (x y:Option Blk),upd (upd f id x) i2 y=upd (upd f i2 y) id x:=fun f x y=>cw f x y n2.symm
 simp only[go_sem,c2];refine(me st hw).run ?_;simp only[go_sem,fM];intro i3 hi3;have n3:=aH hi3;have hi3' :=hi3;rw[ag _ _ n3]at hi3';have n32:=aH hi3';have hG3:G i3=none:=by rw[ag _ _ n32]at hi3';exact hi3'
 have c3:∀(f:Heap) (x y:Option Blk),upd (upd f id x) i3 y=upd (upd f i3 y) id x:=fun f x y=>cw f x y n3.symm
 have c23:∀(f:Heap) (x y:Option Blk),upd (upd f i3 x) i2 y=upd (upd f i2 y) i3 x:=fun f x y=>cw f x y n32
 have m32:¬i3=i2:=n32;have m23:¬i2=i3:=n32.symm;simp only[go_sem,c3,ak,n3];intro i4 hi4;have n4:=aH hi4;have hi4' :=hi4;rw[ag _ _ n4]at hi4';have n43:=aH hi4';have hi4'' :=hi4';rw[ag _ _ n43]at hi4'';have n42:=aH hi4'';have hG4:G i4=none:=by rw[ag _ _ n42]at hi4'';exact hi4''
 have c4:∀(f:Heap) (x y:Option Blk),upd (upd f id x) i4 y=upd (upd f i4 y) id x:=fun f x y=>cw f x y n4.symm
 have c24:∀(f:Heap) (x y:Option Blk),upd (upd f i4 x) i2 y=upd (upd f i2 y) i4 x:=fun f x y=>cw f x y n42
 have c34:∀(f:Heap) (x y:Option Blk),upd (upd f i4 x) i3 y=upd (upd f i3 y) i4 x:=fun f x y=>cw f x y n43
 have m42:¬i4=i2:=n42;have m24:¬i2=i4:=n42.symm;have m43:¬i4=i3:=n43;have m34:¬i3=i4:=n43.symm;cases k2:((aL st).kind==2)
 case true=>
  have e2:(aL st).kind=2:=by simpa using k2
  have ev:fX st=(⟨2,(aL st).n,(aL st).s⟩,st):=by simp[fX,e2]
  cases kb:(st.bad !=0)
  ·have eb:st.bad=0:=by simpa using kb
   have en:aD st=(⟨2,(aL st).n,(aL st).s⟩,bk st):=ad8;simp only[go_sem,c2,c4,c23,c24,ak,n2,n3,n4,m23,m24,m34,k2,PO,kb,w1];exact agY
  ·have eb:st.bad≠0:=by simpa using kb
   have en:aD st=(⟨0,0,[]⟩,st):=ad8;simp only[go_sem,c2,c4,c23,c24,ak,n2,n3,n4,m23,m24,m34,k2,PO,kb];exact agY
 have e2:(aL st).kind≠2:=by simpa using k2
 cases k3:((aL st).kind==3)
 case true=>
  have e3:(aL st).kind=3:=by simpa using k3
  have ev:fX st=(⟨4,(aL st).n,(aL st).s⟩,st):=by simp[fX,e3]
  cases kb:(st.bad !=0)
  ·have eb:st.bad=0:=by simpa using kb
   have en:aD st=(⟨4,(aL st).n,(aL st).s⟩,bk st):=ad8;simp only[go_sem,c2,c4,c23,c24,ak,n2,n3,n4,m23,m24,m34,k2,k3,PO,kb,w1];exact agY
  ·have eb:st.bad≠0:=by simpa using kb
   have en:aD st=(⟨0,0,[]⟩,st):=ad8;simp only[go_sem,c2,c4,c23,c24,ak,n2,n3,n4,m23,m24,m34,k2,k3,PO,kb];exact agY
 have e3:(aL st).kind≠3:=by simpa using k3
 cases k4:((aL st).kind==4)
 case true=>
  have e4:(aL st).kind=4:=by simpa using k4
  have ev:fX st=(⟨5,(aL st).n,(aL st).s⟩,st):=by simp[fX,e4]
  cases kb:(st.bad !=0)
  ·have eb:st.bad=0:=by simpa using kb
   have en:aD st=(⟨5,(aL st).n,(aL st).s⟩,bk st):=ad8;simp only[go_sem,c2,c4,c23,c24,ak,n2,n3,n4,m23,m24,m34,k2,k3,k4,PO,kb,w1];exact agY
  ·have eb:st.bad≠0:=by simpa using kb
   have en:aD st=(⟨0,0,[]⟩,st):=ad8;simp only[go_sem,c2,c4,c23,c24,ak,n2,n3,n4,m23,m24,m34,k2,k3,k4,PO,kb];exact agY
 have e4:(aL st).kind≠4:=by simpa using k4
 cases k5:((aL st).kind==5)
 case true=>
  have e5:(aL st).kind=5:=by simpa using k5
  have ev:fX st=(⟨3,(aL st).n,(aL st).s⟩,st):=by simp[fX,e5]
  cases kb:(st.bad !=0)
  ·have eb:st.bad=0:=by simpa using kb
   have en:aD st=(⟨3,(aL st).n,(aL st).s⟩,bk st):=ad8;simp only[go_sem,c2,c4,c23,c24,ak,n2,n3,n4,m23,m24,m34,k2,k3,k4,k5,PO,kb,w1];exact agY
  ·have eb:st.bad≠0:=by simpa using kb
   have en:aD st=(⟨0,0,[]⟩,st):=ad8;simp only[go_sem,c2,c4,c23,c24,ak,n2,n3,n4,m23,m24,m34,k2,k3,k4,k5,PO,kb];exact agY
 have e5:(aL st).kind≠5:=by simpa using k5
 simp only[go_sem,c4,ak,n3,n4,m34,k2,k3,k4,k5];refine(tv st vY hw).run ?_;cases kt:isD st vY
 case true=>
  have ev:fX st=(⟨1,1,[]⟩,st):=by simp[fX,e2,e3,e4,e5,kt]
  cases kb:(st.bad !=0)
  ·have eb:st.bad=0:=by simpa using kb
   have en:aD st=(⟨1,1,[]⟩,bk st):=ad8;simp only[go_sem,c2,c4,c23,c24,ak,n2,n4,m23,m24,PO,kb,w1];exact agY
  ·have eb:st.bad≠0:=by simpa using kb
   have en:aD st=(⟨0,0,[]⟩,st):=ad8;simp only[go_sem,c2,c4,c23,c24,ak,n2,n4,m23,m24,PO,kb];exact agY
 simp only[go_sem];refine(tv st qA hw).run ?_;cases kf:isD st qA
 case true=>
  have ev:fX st=(⟨1,0,[]⟩,st):=by simp[fX,e2,e3,e4,e5,kt,kf]
  cases kb:(st.bad !=0)
  ·have eb:st.bad=0:=by simpa using kb
   have en:aD st=(⟨1,0,[]⟩,bk st):=ad8;simp only[go_sem,c2,c4,c23,c24,ak,n2,n4,m23,m24,PO,kb,w1];exact agY
  ·have eb:st.bad≠0:=by simpa using kb
   have en:aD st=(⟨0,0,[]⟩,st):=ad8;simp only[go_sem,c2,c4,c23,c24,ak,n2,n4,m23,m24,PO,kb];exact agY
 have ev:fX st=(⟨0,(aL st).n,(aL st).s⟩,bp st):=by simp[fX,e2,e3,e4,e5,kt,kf]
 have en:aD st=(⟨0,0,[]⟩,bp st):=by simp[aD,ev,rF]
 have kb:((bp st).bad !=0)=true:=by simpa using rF st
 simp only[go_sem];refine(lG st hw).run ?_;simp only[go_sem,c2,c23,c24,ak,n2,m23,m24,PO,kb];exact agY
def tH:List Txt:=[[61],[60],[62]]
theorem Rr{st}(i:Nat)(hi:i<tH.length)(hb:∀j (hj:j<tH.length),j<i→isD st tH[j]=false)(h:isD st tH[i]=true):opP st=((i:Int)+1,bk st):=by
 have h3:i<3:=hi;rcases(by omega:i=0∨i=1∨i=2)with rfl|rfl|rfl
 ·simp only[opP,show isD st [61]=true from h,if_true];rfl
 ·simp only[opP,show isD st [61]=false from hb 0 acN acN,show isD st [60]=true from h,if_true];rfl
 ·simp only[opP,show isD st [61]=false from hb 0 acN acN,show isD st [60]=false from hb 1 acN acN,show isD st [62]=true from h,if_true];rfl
theorem LF{st}(hb:∀j (hj:j<tH.length),isD st tH[j]=false):opP st=(0,bp st):=by simp only[opP,show isD st [61]=false from hb 0 acN,show isD st [60]=false from hb 1 acN,show isD st [62]=false from hb 2 acN];rfl
theorem GR(st)(hw:WfP st):PC 213 [] st (dO (gA st).1) (gA st).2:=.of fun G id=>by
 have h1:=Bu hw;obtain⟨a,st1,e1⟩:∃a st1,fY st=(a,st1):=⟨_,_,rfl⟩;have hat:=Kh st hw;rw[e1]at h1 hat;simp only at h1 hat;refine acJ func213 32 [.cell 2 248] fun hwf=>?_
 simp only[go_sem];intro i2 hi2;have n2:=aH hi2;have hG2:G i2=none:=adm;have c2:∀(f:Heap) (x y:Option Blk),upd (upd f id x) i2 y=upd (upd f i2 y) id x:=fun f x y=>cw f x y n2.symm
 simp only[go_sem,c2];refine hat.run ?_;simp only[go_sem,Cw];intro i3 hi3;have n3:=aH hi3;have hi3' :=hi3;rw[ag _ _ n3]at hi3';have n32:=aH hi3';have hG3:G i3=none:=adm;have c3:∀(f:Heap) (x y:Option Blk),upd (upd f id x) i3 y=upd (upd f i3 y) id x:=fun f x y=>cw f x y n3.symm
 have c23:∀(f:Heap) (x y:Option Blk),upd (upd f i3 x) i2 y=upd (upd f i2 y) i3 x:=fun f x y=>cw f x y n32
 have m32:¬i3=i2:=n32;have m23:¬i2=i3:=n32.symm;simp only[go_sem,c3,ak,n3];refine .intro (fun m ρ H=>H=upd (upd (upd G i2 (some (.obj [.i 0,.s [],.b false,.i 0,.i 0,.i 0,.s []] 248))) i3 (some (.obj [.i a.cat,.s a.name,.b a.must,.i 0,.i 0,.i 0,.s []] 248))) id (some (PO st1))∧
  ∃i:Nat,i≤3∧m=3 - i∧(∀j (hj:j<tH.length),j<i→isD st1 tH[j]=false)∧lk ρ 0=some (.ptr id 0)∧lk ρ 2=some (.ptr i2 0)∧lk ρ 3=some (.ptr i3 0)∧lk ρ 9=some (.sl (tH.map AV.s) .full)∧lk ρ 10=some (.i 3)∧lk ρ 11=some (.i i)) 3 ?_ ?_
 ·refine⟨rfl,0,acK,rfl,fun j _ hj=>acK,?_,?_,?_,?_,?_,?_⟩<;>simp only[go_sem]<;>rfl
 ·rintro m ρ H ⟨rfl,i,hi,rfl,hb,r0,r2,r3,r9,r10,r11⟩
  simp only[go_sem,r10,r11];refine .intro (fun e=>?_) (fun e=>?_)
  ·have hlt:i<3:=by grind
   have hlo:i<tH.length:=hlt;have w1:IntKind.i64.wrap ((i:Int)+1)=((i+1:Nat):Int):=acX;have w2:IntKind.i64.wrap (1+(i:Int))=((i:Int)+1):=acL;simp only[go_sem,r9,r11];refine .at i acL acZ ?_;simp only[go_sem,r0,acB];refine(j4 st1 tH[i] h1.1).run ?_;cases d1:isD st1 tH[i]
   ·have et:cq st1 tH[i]=(false,st1):=by grind [cq]
    rw[et];simp only[go_sem,r11,w1];refine⟨_,?_,rfl,i+1,acK,rfl,fun j hj hji=>?_,?_,?_,?_,?_,?_,?_⟩
    ·omega
    ·grind
    all_goals simp only[go_sem,r0,r2,r3,r9,r10]
   ·have et:cq st1 tH[i]=(true,bk st1):=by grind [cq]
    have eo:=Rr i hlo hb d1;have h2:Ah st1 (bk st1):=eU h1.1 (dF d1);have en:gA st=(⟨a,(i:Int)+1,(aD (bk st1)).1⟩,(aD (bk st1)).2):=by grind [gA]
    have d2:(((i:Int)+1)==0)=false:=acY;rw[et];simp only[go_sem,c3,ak,n3,r0,r3,w2,d2];refine(uf (bk st1) h2.1).run ?_;exact ahO
  ·have hge:i=3:=by grind
   subst hge;have eo:=LF fun j hj=>hb j hj hj
   have h2:Ah st1 (bp st1):=oh h1.1;have en:gA st=(⟨a,0,(aD (bp st1)).1⟩,(aD (bp st1)).2):=by grind [gA]
   simp only[go_sem,r0,r3,ak,n3];refine(lG st1 h1.1).run ?_;simp only[go_sem,r0];refine(uf (bp st1) h2.1).run ?_;exact ahO
theorem R2:(U 248).sz=7:=acY
theorem Vi:(U 248).bytes=72:=acY
theorem HA(l:List ck):Sized 7 (l.map dO):=fun z hz=>by obtain⟨c,_,rfl⟩:=List.mem_map.1 hz;rfl
theorem R1:(U 271).sz=1:=acY
theorem Vg:(U 271).bytes=24:=acY
theorem Hz(l:List (List ck)):Sized 1 (l.map iR):=fun z hz=>by obtain⟨c,_,rfl⟩:=List.mem_map.1 hz;rfl
theorem R3:(U 232).sz=1:=acY
theorem Vk:(U 232).bytes=24:=acY
theorem HC(l:List (List (List ck))):Sized 1 (l.map cS):=fun z hz=>by obtain⟨c,_,rfl⟩:=List.mem_map.1 hz;rfl
theorem O4(st)(hw:WfP st):PC 191 [] st (iR (pW st).1) (pW st).2:=.of fun G id=>by
 have h1:=qf hw;have hm1:=GR st hw;obtain⟨x0,st1,e1⟩:∃x0 st1,gA st=(x0,st1):=⟨_,_,rfl⟩;have ep:fS gA [44] 8 st.ts.length st1 [x0]=pW st:=by grind [pW]
 rw[e1]at h1 hm1;simp only[dO]at h1 hm1;refine acJ func191 20 [.tmp 2] fun hwf=>?_
 simp only[go_sem];refine hm1.run ?_;simp only[go_sem];have hB:upd G id none id=none:=ah ..;refine .intro (fun m ρ H=>∃(f:Nat) (st' :PS) (l:List _) (y:AV),H id=some (PO st')∧Acc U 248 (upd G id none) H y (l.map dO)∧Ah st1 st'∧fS gA [44] 8 f st' l=pW st∧st1.ts.length≤f+st'.pos∧l.length≤st'.pos+1∧m=st1.ts.length - st'.pos∧lk ρ 0=some (.ptr id 0)∧lk ρ 3=some y) (st1.ts.length - st1.pos) ?_ ?_
 ·refine⟨st.ts.length,st1,[x0],.sl ([x0].map dO) .full,ah ..,.full (base_start G id _),.refl h1.1,ep,by rw[h1.2.1];omega,acS,rfl,?_,?_⟩<;>simp only[go_sem]<;>rfl
 ·rintro m ρ H ⟨f,st',l,y,hH,hy,ha,hfin,hf,hll,rfl,r0,r3⟩
  have hlen:=ha.1.2.2;have hpos:=ha.1.1;have htl:=ha.2.1;simp only[go_sem,r0];refine(j4 st' [44] ha.1).go hH ?_;cases d1:isD st' [44]
  ·have et:cq st' [44]=(false,st'):=by grind [cq]
   have ef:fS gA [44] 8 f st' l=(l,st'):=af6;rw[et,bl hH];rw[ef]at hfin;simp only[go_sem,r3];exact .mk (h' :=upd G id (some (PO (pW st).2))) (iR l) hy.weak (by rw[←hfin];exact fz hy.1 hH) ⟨acL,rfl⟩
  ·have et:cq st' [44]=(true,bk st'):=by grind [cq]
   obtain⟨g,rfl⟩:∃g,f=g+1:=⟨f - 1,acL⟩;simp only[fS,d1,if_true]at hfin;have h2:=eU ha.1 (dF d1);have hone:=GR (bk st') h2.1;have h3:=(fun _ h=>qf h:∀st,WfP st→Ah st (gA st).2) _ h2.1
   obtain⟨x,st2,e2⟩:∃x st2,gA (bk st')=(x,st2):=⟨_,_,rfl⟩;rw[e2]at hfin hone h3;simp only[dO]at hfin hone h3;have hdec:decide ((8:Int)<((l.length+1:Nat):Int))=decide (8<l.length+1):=by grind
   have h4:=kX (decide (8<l.length+1)) h3.1;have hnp:(bk st').pos=st'.pos+1:=rfl;have hp3:=h3.2.2;have hp4:=h4.2.2;rw[et];simp only[go_sem,r0,r3];refine hone.run ?_;simp only[go_sem];refine(hy.put hB hH _).app (zs:=[dO x]) (by grind [R2]) (by grind [Vi]) (fun k hk=>hk) (by grind [R2,HA]) (by rw[R2];exact HA [x]) (by grind [Vi]) fun y' H2 hy' hk2=>?_
   exact agW
theorem O5(st)(hw:WfP st):PC 162 [] st (cS (rI st).1) (rI st).2:=.of fun G id=>by
 have h0:=jj [40] hw;have h1:=Bs h0.1;have hm1:=O4 _ h0.1;obtain⟨x0,st1,e1⟩:∃x0 st1,pW (dV st [40])=(x0,st1):=⟨_,_,rfl⟩;obtain⟨M,eM⟩:∃M,fS pW orT 8 st.ts.length st1 [x0]=M:=⟨_,rfl⟩;have epp:(M.1,dV M.2 [41])=rI st:=by grind [rI]
 rw[e1]at h1 hm1;simp only[iR]at h1 hm1;refine acJ func162 24 [.tmp 2] fun hwf=>?_
 simp only[go_sem];refine(kR st [40] hw).run ?_;simp only[go_sem];refine hm1.run ?_;simp only[go_sem];have hB:upd G id none id=none:=ah ..;refine .intro (fun m ρ H=>∃(f:Nat) (st' :PS) (l:List _) (y:AV),H id=some (PO st')∧Acc U 271 (upd G id none) H y (l.map iR)∧Ah st1 st'∧fS pW orT 8 f st' l=M∧st1.ts.length≤f+st'.pos∧l.length≤st'.pos+1∧m=st1.ts.length - st'.pos∧lk ρ 0=some (.ptr id 0)∧lk ρ 3=some y) (st1.ts.length - st1.pos) ?_ ?_
 ·refine⟨st.ts.length,st1,[x0],.sl ([x0].map iR) .full,ah ..,.full (base_start G id _),.refl h1.1,eM,by rw[h1.2.1,h0.2.1];omega,acS,rfl,?_,?_⟩<;>simp only[go_sem]<;>rfl
 ·rintro m ρ H ⟨f,st',l,y,hH,hy,ha,hfin,hf,hll,rfl,r0,r3⟩
  have hlen:=ha.1.2.2;have hpos:=ha.1.1;have htl:=ha.2.1;simp only[go_sem,r0];refine(j4 st' orT ha.1).go hH ?_;cases d1:isD st' orT
  ·have et:cq st' orT=(false,st'):=by grind [cq]
   have ef:fS pW orT 8 f st' l=(l,st'):=af6;rw[et,bl hH];rw[ef]at hfin;simp only[go_sem,r0];refine(kR st' [41] ha.1).go hH ?_;simp only[go_sem,r3];exact .mk (h' :=upd G id (some (PO (rI st).2))) (cS l) hy.weak (by rw[←epp,←hfin];exact fz (hy.1.put hB _) (ah ..)) ⟨acL,rfl⟩
  ·have et:cq st' orT=(true,bk st'):=by grind [cq]
   obtain⟨g,rfl⟩:∃g,f=g+1:=⟨f - 1,acL⟩;simp only[fS,d1,if_true]at hfin;have h2:=eU ha.1 (dF d1);have hone:=O4 (bk st') h2.1;have h3:=(fun _ h=>Bs h:∀st,WfP st→Ah st (pW st).2) _ h2.1
   obtain⟨x,st2,e2⟩:∃x st2,pW (bk st')=(x,st2):=⟨_,_,rfl⟩;rw[e2]at hfin hone h3;simp only[iR]at hfin hone h3;have hdec:decide ((8:Int)<((l.length+1:Nat):Int))=decide (8<l.length+1):=by grind
   have h4:=kX (decide (8<l.length+1)) h3.1;have hnp:(bk st').pos=st'.pos+1:=rfl;have hp3:=h3.2.2;have hp4:=h4.2.2;rw[et];simp only[go_sem,r0,r3];refine hone.run ?_;simp only[go_sem];refine(hy.put hB hH _).app (zs:=[iR x]) (by grind [R1]) (by grind [Vg]) (fun k hk=>hk) (by grind [R1,Hz]) (by rw[R1];exact Hz [x]) (by grind [Vg]) fun y' H2 hy' hk2=>?_
   exact agW
theorem PG(st)(hw:WfP st):PC 130 [] st (aV (gR st).1) (gR st).2:=.of fun G id=>by
 refine acJ func130 23 [.tmp 2] fun hwf=>?_
 simp only[go_sem];refine(j4 st Eu hw).run ?_;cases d0:isD st Eu
 ·have et:cq st Eu=(false,st):=by grind [cq]
  have ep:gR st=([],st):=by grind [gR]
  rw[et];simp only[go_sem];exact .mk (h' :=upd G id (some (PO (gR st).2))) (aV []) (.sl _ _) (by rw[ep];exact .refl _) ⟨by rw[ep],rfl⟩
 have et:cq st Eu=(true,bk st):=by grind [cq]
 have h0:=eU hw (dF d0);have h1:=Bt h0.1;have hm1:=O5 _ h0.1;obtain⟨x0,st1,e1⟩:∃x0 st1,rI (bk st)=(x0,st1):=⟨_,_,rfl⟩;obtain⟨M,eM⟩:∃M,fS rI Cs 8 st.ts.length st1 [x0]=M:=⟨_,rfl⟩;have ep:M=gR st:=by simp_all [gR,if_true]
 rw[e1]at h1 hm1;simp only[cS]at h1 hm1;rw[et];simp only[go_sem];refine hm1.run ?_;simp only[go_sem];have hB:upd G id none id=none:=ah ..;refine .intro (fun m ρ H=>∃(f:Nat) (st' :PS) (l:List _) (y:AV),H id=some (PO st')∧Acc U 232 (upd G id none) H y (l.map cS)∧Ah st1 st'∧fS rI Cs 8 f st' l=M∧st1.ts.length≤f+st'.pos∧l.length≤st'.pos+1∧m=st1.ts.length - st'.pos∧lk ρ 0=some (.ptr id 0)∧lk ρ 3=some y) (st1.ts.length - st1.pos) ?_ ?_
 ·refine⟨st.ts.length,st1,[x0],.sl ([x0].map cS) .full,ah ..,.full (base_start G id _),.refl h1.1,eM,by rw[h1.2.1,h0.2.1];omega,acS,rfl,?_,?_⟩<;>simp only[go_sem]<;>rfl
 ·rintro m ρ H ⟨f,st',l,y,hH,hy,ha,hfin,hf,hll,rfl,r0,r3⟩
  have hlen:=ha.1.2.2;have hpos:=ha.1.1;have htl:=ha.2.1;simp only[go_sem,r0];refine(j4 st' Cs ha.1).go hH ?_;cases d1:isD st' Cs
  ·have et:cq st' Cs=(false,st'):=by grind [cq]
   have ef:fS rI Cs 8 f st' l=(l,st'):=af6;rw[et,bl hH];rw[ef]at hfin;simp only[go_sem,r3];exact .mk (h' :=upd G id (some (PO (gR st).2))) (aV l) hy.weak (by rw[←ep,←hfin];exact fz hy.1 hH) ⟨acL,rfl⟩
  ·have et:cq st' Cs=(true,bk st'):=by grind [cq]
   obtain⟨g,rfl⟩:∃g,f=g+1:=⟨f - 1,acL⟩;simp only[fS,d1,if_true]at hfin;have h2:=eU ha.1 (dF d1);have hone:=O5 (bk st') h2.1;have h3:=(fun _ h=>Bt h:∀st,WfP st→Ah st (rI st).2) _ h2.1
   obtain⟨x,st2,e2⟩:∃x st2,rI (bk st')=(x,st2):=⟨_,_,rfl⟩;rw[e2]at hfin hone h3;simp only[cS]at hfin hone h3;have hdec:decide ((8:Int)<((l.length+1:Nat):Int))=decide (8<l.length+1):=by grind
   have h4:=kX (decide (8<l.length+1)) h3.1;have hnp:(bk st').pos=st'.pos+1:=rfl;have hp3:=h3.2.2;have hp4:=h4.2.2;rw[et];simp only[go_sem,r0,r3];refine hone.run ?_;simp only[go_sem];refine(hy.put hB hH _).app (zs:=[cS x]) (by grind [R3]) (by grind [Vk]) (fun k hk=>hk) (by grind [R3,HC]) (by rw[R3];exact HC [x]) (by grind [Vk]) fun y' H2 hy' hk2=>?_
   exact agW
theorem DF(op:Int)(h):ai prog 258 [.i op] h fun r h' =>r= .sl ((opers op).map jO) .no∧h' =h:=by
 refine acJ func258 15 [.tmp 2] fun hwf=>?_
 cases k3:(op==3)<;>cases k4:(op==4)<;>cases k5:(op==5)<;>cases k11:(op==11)
 all_goals
  simp only[go_sem,k3,k4,k5,k11];simp only[beq_iff_eq,beq_eq_false_iff_ne]at k3 k4 k5 k11;refine .mk _ (.sl _ _) (.refl _) ⟨?_,rfl⟩
  grind [opers,jO]
theorem Vl:(U 184).sz=3:=acY
theorem XB:(U 184).bytes=32:=acY
theorem HB(l:List dN):Sized 3 (l.map bu):=fun z hz=>by obtain⟨c,_,rfl⟩:=List.mem_map.1 hz;rfl
theorem sV(st)(hw:WfP st):PC 134 [] st (aA (gv st).1) (gv st).2:=.of fun G id=>by
 obtain⟨M,eM⟩:∃M,gv st=M:=⟨_,rfl⟩;have eM2:fS zM vM 8 st.ts.length st []=M:=eM;refine acJ func134 28 [.tmp 2] fun hwf=>?_
 simp only[go_sem];have hB:upd G id none id=none:=ah ..;refine .intro (fun m ρ H=>∃(f:Nat) (st' :PS) (l:List dN) (y:AV),H id=some (PO st')∧Acc U 184 (upd G id none) H y (l.map bu)∧Ah st st'∧fS zM vM 8 f st' l=M∧st.ts.length≤f+st'.pos∧l.length≤st'.pos+1∧m=st.ts.length - st'.pos∧lk ρ 0=some (.ptr id 0)∧lk ρ 3=some y) (st.ts.length - st.pos) ?_ ?_
 ·refine⟨st.ts.length,st,[],.sl ([].map bu) .full,ah ..,.full (base_start G id _),.refl hw,eM2,acK,acS,rfl,?_,?_⟩<;>simp only[go_sem]<;>rfl
 ·rintro m ρ H ⟨f,st',l,y,hH,hy,ha,hfin,hf,hll,rfl,r0,r3⟩
  have hlen:=ha.1.2.2;have hpos:=ha.1.1;have htl:=ha.2.1;simp only[go_sem,r0];refine(j4 st' vM ha.1).go hH ?_;cases d1:isD st' vM
  ·have et:cq st' vM=(false,st'):=by grind [cq]
   have ef:fS zM vM 8 f st' l=(l,st'):=af6;rw[et,bl hH];rw[ef]at hfin;simp only[go_sem,r3];exact .mk (h' :=upd G id (some (PO (gv st).2))) (aA l) hy.weak (by rw[eM,←hfin];exact fz hy.1 hH) ⟨acL,rfl⟩
  ·have et:cq st' vM=(true,bk st'):=by grind [cq]
   obtain⟨g,rfl⟩:∃g,f=g+1:=⟨f - 1,acL⟩;simp only[fS,d1,if_true]at hfin;have h2:=eU ha.1 (dF d1);have ho1:=gF uS h2.1;have ho2:=gF mF ho1.1;have ho3:=mV ho2.1;have h3:Ah (bk st') (zM (bk st')).2:=Ka h2.1;have hdec:decide ((8:Int)<((l.length+1:Nat):Int))=decide (8<l.length+1):=by grind
   have h4:=kX (decide (8<l.length+1)) h3.1;have hnp:(bk st').pos=st'.pos+1:=rfl;have hp3:=h3.2.2;have hp4:=h4.2.2;have eX:(zM (bk st'))=(⟨(aX (bk st') uS).1,(aX (aX (bk st') uS).2 mF).1,(cp (aX (aX (bk st') uS).2 mF).2).1⟩,(cp (aX (aX (bk st') uS).2 mF).2).2):=rfl;obtain⟨x,st2,e2⟩:∃x st2,zM (bk st')=(x,st2):=⟨_,_,rfl⟩;rw[et];simp only[go_sem];intro i4 hi4;have n4:=aH hi4;have hH4:H i4=none:=adm;have c4:∀(f:Heap) (x y:Option Blk),upd (upd f id x) i4 y=upd (upd f i4 y) id x:=fun f x y=>cw f x y n4.symm
   simp only[go_sem,r0,c4];refine(om _ uS .full acN h2.1).run ?_;simp only[go_sem,r0,c4,ak,n4];refine(om _ mF .full acN ho1.1).run ?_;simp only[go_sem,r0,c4,ak,n4];refine(tO _ ho2.1).run ?_;simp only[go_sem,r3,c4,ak,n4];rw[e2]at hfin h3 h4 hp3 hp4;simp only at hfin h3 h4 hp3 hp4;have ex1:x=(zM (bk st')).1:=by rw[e2]
   have ex2:st2=(cp (aX (aX (bk st') uS).2 mF).2).2:=by grind
   rw[←ex2];refine((hy.sub (Sub.aj (k:=_) hH4)).put hB (by rw[ag _ _ n4.symm];exact hH) _).app (zs:=[bu x]) acN acN (fun k hk=>by rw[ex1]at hk;exact hk) (by grind [Vl,HB]) (by rw[Vl];exact HB [x]) (by grind [XB]) fun y' H2 hy' hk2=>?_
   exact agW
theorem sM{U}{e}{B B' H}{y}{xs}(hs:Sub B B')(ha:Acc U e B' H y xs):Acc U e B H y xs:=by
 obtain⟨h1,rfl|⟨k,i1,rfl,i2⟩⟩:=ha
 ·exact⟨hs.trans h1,.inl rfl⟩
 ·refine⟨hs.trans h1,.inr ⟨k,?_,rfl,i2⟩⟩
  cases hk:B k with
  |none=>rfl
  |some b=>rw[hs _ _ hk]at i1;omega
theorem xh{U}{e}{B H}{y}{xs}(ha:Acc U e B H y xs){i:Nat}(hi:H i=none)(b):Acc U e (upd B i b) (upd H i b) y xs:=by
 obtain⟨h1,rfl|⟨k,i1,rfl,i2⟩⟩:=ha
 ·exact⟨h1.both _ _,.inl rfl⟩
 ·have hne:k≠i:=fun hh=>by subst hh;rw[hi]at i2;cases i2
  exact⟨h1.both _ _,.inr ⟨k,adm,rfl,adm⟩⟩
theorem og{U}{e}{G K}{id:Nat}{st}{y}{xs}(ha:Acc U e (upd G id none) (upd K id (some (PO st))) y xs)(st'):Acc U e (upd G id none) (upd K id (some (PO st'))) y xs:=by have:=ha.put (id:=id) (ah ..) (cs:=_) (t:=_) (ah ..) (some (PO st'));rw[nK]at this;exact adr
def XC(f:FuncId)(args:List AV)(st:PS)(l:List aZ)(mk:AV→AV)(st' :PS)(l' :List aZ):Prop:=
 ∀(G K:Heap) (id:Nat) (y:AV),Acc U 261 (upd G id none) (upd K id (some (PO st))) y (l.map dH)→ai prog f (.ptr id 0::y::args) (upd K id (some (PO st))) fun r h' =>∃y',r=mk y'∧h' id=some (PO st')∧Acc U 261 (upd G id none) h' y' (l'.map dH)
theorem XC.run{f}{args}{st st'}{l l'}{mk}(hc:XC f args st l mk st' l'){G K}{id:Nat}{y}{Q}(ha:Acc U 261 (upd G id none) (upd K id (some (PO st))) y (l.map dH))
  (k:∀y' K',Acc U 261 (upd G id none) (upd K' id (some (PO st'))) y' (l'.map dH)→Q (mk y') (upd K' id (some (PO st')))):ai prog f (.ptr id 0::y::args) (upd K id (some (PO st))) Q:=
 (hc G K id y ha).mono fun r h' ⟨y',e1,e2,e3⟩=>by
  subst e1;have:=k y' h' (by grind [bl])
  rwa [bl e2]at this
def EH(ex:ExF)(f:Nat):Prop:=∀st l,WfP st→st.ts.length≤f+st.pos→l.length≤2*st.pos+1→XC 214 [] st l (fun y=> .tup [y,.v (.bool (ex st l).1.2)]) (ex st l).2 (ex st l).1.1
theorem HQ(st)(ws):0≤(aX st ws).1∧(aX st ws).1≤ws.length:=by
 unfold aX;cases ei:uE (aL st).s ws with
 |none=>simp
 |some i=>have:=BR ei;simp only;split<;>simp<;>omega
theorem AR{ex}(ho:Ez ex)(he:EH ex f)(st)(l)(b)(hw:WfP st)(hf:st.ts.length≤f+st.pos)(hl:l.length≤2*st.pos+1):XC 192 [.b b] st l (fun y=>y) (iq ex st l b).2 (iq ex st l b).1:=fun G K id y ha=>by
 refine acJ func192 25 [.tmp 6] fun hwf=>?_
 simp only[go_sem];refine(me st hw).run ?_;simp only[go_sem,fM];refine(he st l hw hf hl).run ha fun y' K' ha' =>?_
 cases db:((ex st l).1.2==b)
 ·have e1:(ex st l).1.2≠b:=by grind
  have en:iq ex st l b=((ex st l).1.1,bI (ex st l).2 5 (aL st).pos):=by grind [iq]
  simp only[go_sem,db,Bool.not_false];refine(ri _ 5 _).run ?_;simp only[go_sem];exact .mk (h' :=upd K' id (some (PO (bI (ex st l).2 5 (aL st).pos)))) y' (.refl _) (.refl _) ⟨y',rfl,agL,by grind [og]⟩
 ·have e1:(ex st l).1.2=b:=by grind
  have en:iq ex st l b=((ex st l).1.1,(ex st l).2):=by grind [iq]
  simp only[go_sem,db,Bool.not_true];exact .mk (h' :=upd K' id (some (PO (ex st l).2))) y' (.refl _) (.refl _) ⟨y',rfl,agL,acL⟩
theorem Fe{ex}(ho:Ez ex)(he:EH ex f)(st)(l)(hw:WfP st)(hf:st.ts.length≤f+st.pos)(hl:l.length+1≤2*st.pos):XC 237 [] st l (fun y=> .tup [y,dH (qC ex st l).1.2]) (qC ex st l).2 (qC ex st l).1.1:=fun G K id y ha=>by
 have h1:=gF lR hw;have hrg:=HQ st lR;have hfl:lR.length=11:=rfl;have w2:IntKind.i64.wrap (2+(aX st lR).1)=2+(aX st lR).1:=acX;refine acJ func237 36 [.tmp 4,.cell 5 261] fun hwf=>?_
 simp only[go_sem];intro i5 hi5;have n5:=aH hi5;have hK5:K i5=none:=adm;have c5:∀(f:Heap) (x y:Option Blk),upd (upd f id x) i5 y=upd (upd f i5 y) id x:=fun f x y=>cw f x y n5.symm
 simp only[go_sem,c5];refine(om _ lR .full acN hw).run ?_;simp only[go_sem,w2];intro i6 hi6;have n6:=aH hi6;have c6:∀(f:Heap) (x y:Option Blk),upd (upd f id x) i6 y=upd (upd f i6 y) id x:=fun f x y=>cw f x y n6.symm
 have hi6' :=hi6;rw[ag _ _ n6]at hi6';have n65:=aH hi6';have hK6:K i6=none:=adm;simp only[go_sem,c6,ak,n6];refine(DF _ _).pthen ?_;simp only[go_sem];have h5f:=ha;obtain⟨bs,ebs⟩:∃bs,opers (2+(aX st lR).1)=bs:=⟨_,rfl⟩;obtain⟨M,eM⟩:∃M,jr ex bs (aX st lR).2 l=M:=⟨_,rfl⟩;have hb2:bs.length≤2:=by grind [DG]
 have hMr:qC ex st l=((M.1,⟨2+(aX st lR).1,⟨0,0,[]⟩,⟨0,[],false⟩⟩),dV M.2 [41]):=by grind [qC]
 obtain⟨st1,es1⟩:∃st1,(aX st lR).2=st1:=⟨_,rfl⟩;have hac0:=xh (xh (og ha st1) (by rw[ag _ _ n5];omega) (some (.obj [.i 0,.i 0,.i 0,.s [],.i 0,.s [],.b false] 261))) (by rw[ag _ _ n65,ag _ _ n6];omega) (some (.obj [.i (2+(aX st lR).1),.i 0,.i 0,.s [],.i 0,.s [],.b false] 261))
 simp only[c5,c6]at hac0;obtain⟨G',eG⟩:∃G',G' =upd (upd G i5 (some (.obj [.i 0,.i 0,.i 0,.s [],.i 0,.s [],.b false] 261))) i6 (some (.obj [.i (2+(aX st lR).1),.i 0,.i 0,.s [],.i 0,.s [],.b false] 261)):=⟨_,rfl⟩;have g5:upd G' id none i5=some (.obj [.i 0,.i 0,.i 0,.s [],.i 0,.s [],.b false] 261):=by simp_all [ag,Ne.symm,ah]
 have g6:upd G' id none i6=some (.obj [.i (2+(aX st lR).1),.i 0,.i 0,.s [],.i 0,.s [],.b false] 261):=by simp_all [ag,ah]
 rw[←eG]at hac0;have gi5:upd G id none i5=none:=by
  cases hk:upd G id none i5 with
  |none=>rfl
  |some b=>rw[ha.1 _ _ hk]at hi5;omega
 have hsG:Sub (upd G id none) (upd G' id none):=fun k b hk=>by
  have hs1:=ha.1 k b hk;have hk5:k≠i5:=fun e=>acL
  have hk6:k≠i6:=fun e=>by grind [ag]
  by_cases hkid:k=id
  ·subst hkid;rw[ah]at hk;cases hk
  ·rw[ag _ _ hkid]at hk⊢
   rw[eG,ag _ _ hk6,ag _ _ hk5];exact hk
 simp only[es1,ebs]at h1 eM⊢;refine .intro (fun m ρ H=>∃(i:Nat) (st' :PS) (l' :List aZ) (y' :AV) (K' :Heap),H=upd K' id (some (PO st'))∧Acc U 261 (upd G' id none) (upd K' id (some (PO st'))) y' (l'.map dH)∧Ah st1 st'∧i≤bs.length∧jr ex (bs.drop i) st' l' =M∧l'.length+1≤2*st'.pos+i∧m=bs.length - i∧lk ρ 0=some (.ptr id 0)∧lk ρ 1=some y'∧lk ρ 5=some (.ptr i5 0)∧lk ρ 6=some (.ptr i6 0)∧lk ρ 16=some (.sl (bs.map jO) .no)∧lk ρ 17=some (.i bs.length)∧lk ρ 18=some (.i i)) bs.length ?_ ?_
 ·refine⟨0,st1,l,y,_,rfl,hac0,.refl h1.1,acK,acL,by have:=h1.2.2;omega,rfl,?_,?_,?_,?_,?_,?_,?_⟩<;>simp only[go_sem]<;>(try rfl)<;>simp
 ·rintro m ρ H ⟨i,st',l',y',K',rfl,hac,hah,hi,hfin,hll,rfl,r0,r1,r5,r6,r16,r17,r18⟩
  simp only[go_sem,r17,r18];have k6:upd K' id (some (PO st')) i6=some (.obj [.i (2+(aX st lR).1),.i 0,.i 0,.s [],.i 0,.s [],.b false] 261):=hac.1 _ _ g6;have k5:upd K' id (some (PO st')) i5=some (.obj [.i 0,.i 0,.i 0,.s [],.i 0,.s [],.b false] 261):=hac.1 _ _ g5;rw[ag _ _ n6]at k6;rw[ag _ _ n5]at k5;refine .intro (fun e=>?_) (fun e=>?_)
  ·have hlt:i<bs.length:=acH e
   simp only[go_sem,r16,r18];refine .at i acL acZ ?_;cases db:(st'.bad !=0)
   ·have e1:st'.bad=0:=by grind
    rw[List.drop_eq_getElem_cons hlt]at hfin;simp only[jr,e1,if_true]at hfin;simp only[go_sem,r0,r1,acB,jO,PO,db];have hpl:=hah.2.2;refine(AR ho he st' l' bs[i] hah.1 (by rw[hah.2.1,h1.2.1];have:=h1.2.2;omega) acK).run hac fun y2 K2 hac2=>?_
    obtain⟨q1,q2⟩:=yG ho st' l' bs[i] hah.1;have w1:IntKind.i64.wrap ((i:Int)+1)=((i+1:Nat):Int):=acX;simp only[go_sem,r18,w1];refine⟨_,?_,i+1,(iq ex st' l' bs[i]).2,(iq ex st' l' bs[i]).1,y2,K2,rfl,hac2,hah.trans q1,hlt,hfin,acK,rfl,?_⟩
    ·omega
    refine⟨?_,?_,?_,?_,?_,?_,?_⟩
    all_goals simp only[go_sem,r0,r5,r6,r16,r17]
   ·have e1:st'.bad≠0:=by grind
    have hfin2:(l',st')=M:=by grind [List.drop_eq_getElem_cons,jr]
    clear hfin;have hfin:=hfin2;simp only[go_sem,r0,acB,jO,PO,db];refine(kR _ [41] hah.1).run ?_;simp only[go_sem,r1,r5,r6,ak,n5,n6,k5,k6];refine⟨.of acO,?_⟩;exact .mk (.tup [y',dH ⟨2+(aX st lR).1,⟨0,0,[]⟩,⟨0,[],false⟩⟩]) (.refl _) (.refl _) ⟨y',acY,by rw[hMr,←hfin];exact(ag _ _ (Ne.symm n5)).trans (ah ..),aef⟩
  ·have hge:i=bs.length:=by grind
   subst hge;rw[List.drop_length]at hfin;simp only[jr]at hfin;simp only[go_sem,r0];refine(kR _ [41] hah.1).run ?_;simp only[go_sem,r1,r5,r6,ak,n5,n6,k5,k6];refine⟨.of acO,?_⟩;exact .mk (.tup [y',dH ⟨2+(aX st lR).1,⟨0,0,[]⟩,⟨0,[],false⟩⟩]) (.refl _) (.refl _) ⟨y',acY,by rw[hMr,←hfin];simp_all [ag,Ne.symm,trans,ah],aef⟩
theorem sF:(U 261).sz=7:=acY
theorem zY:(U 261).bytes=72:=acY
theorem kW(l:List aZ):Sized 7 (l.map dH):=fun z hz=>by obtain⟨c,_,rfl⟩:=List.mem_map.1 hz;rfl
theorem QW(f:Nat)(ih:EH (eD f) f):EH (eD (f+1)) (f+1):=fun st l hw hf hl G K id y ha=>by
 refine acJ func214 52 [.tmp 4,.tmp 5] fun hwf=>?_
 simp only[go_sem];intro i6 hi6;have n6:=aH hi6;have hK6:K i6=none:=by rw[ag _ _ n6]at hi6;exact hi6
 have c6:∀(f:Heap) (x y:Option Blk),upd (upd f id x) i6 y=upd (upd f i6 y) id x:=fun f x y=>cw f x y n6.symm
 have gi6:upd G id none i6=none:=by
  cases hk:upd G id none i6 with
  |none=>rfl
  |some b=>rw[ha.1 _ _ hk]at hi6;cases hi6
 have hac:=xh ha hi6 (some (.obj [.i 0,.i 0,.i 0,.s [],.i 0,.s [],.b false] 261));simp only[go_sem,c6];refine(me st hw).run ?_;simp only[go_sem,fM];intro i7 hi7;have n7:=aH hi7;have hi7' :=hi7;rw[ag _ _ n7]at hi7';have n76:=aH hi7';have m76:¬i7=i6:=n76;have m67:¬i6=i7:=fun e=>n76 e.symm
 have hK7:K i7=none:=by rw[ag _ _ n76]at hi7';exact hi7'
 have c7:∀(f:Heap) (x y:Option Blk),upd (upd f id x) i7 y=upd (upd f i7 y) id x:=fun f x y=>cw f x y n7.symm
 have e6:upd (upd G id none) i6 (some (.obj [.i 0,.i 0,.i 0,.s [],.i 0,.s [],.b false] 261))=upd (upd G i6 (some (.obj [.i 0,.i 0,.i 0,.s [],.i 0,.s [],.b false] 261))) id none:=c6 G none _;have hac7:∀k,Acc U 261 (upd (upd G i6 (some (.obj [.i 0,.i 0,.i 0,.s [],.i 0,.s [],.b false] 261))) id none) (upd (upd (upd K i6 (some (.obj [.i 0,.i 0,.i 0,.s [],.i 0,.s [],.b false] 261))) i7 k) id (some (PO st))) y (l.map dH):=fun k=>by
  have:=hac.sub (Sub.aj (k:=k) (by rw[c6];exact hi7))
  rw[e6,c6 K,c7]at this;exact adr
 have hsG:Sub (upd G id none) (upd (upd G i6 (some (.obj [.i 0,.i 0,.i 0,.s [],.i 0,.s [],.b false] 261))) id none):=by rw[←e6];exact Sub.aj gi6
 have g6:upd (upd G i6 (some (.obj [.i 0,.i 0,.i 0,.s [],.i 0,.s [],.b false] 261))) id none i6=some (.obj [.i 0,.i 0,.i 0,.s [],.i 0,.s [],.b false] 261):=by rw[←e6,ah]
 simp only[go_sem,c7,ak,n7];refine(j4 st [40] hw).run ?_;have hacX:∀tk NB st',Acc U 261 (upd G id none) (upd (upd (upd (upd K i6 (some (.obj [.i 0,.i 0,.i 0,.s [],.i 0,.s [],.b false] 261))) i7 tk) i6 NB) id (some (PO st'))) y (l.map dH):=fun tk NB st' =>by have:=(og (sM hsG (hac7 tk)) st').put gi6 ((ag _ _ n6).trans ((ag _ _ m67).trans (ah ..))) NB;rw[c6]at this;exact adr
 obtain⟨⟨⟨lh,n⟩,sth⟩,eh⟩:∃x,iZ (eD f) st l=x:=⟨_,rfl⟩;obtain⟨hha,hhl⟩:=Da (qw f) st l hw;rw[eh]at hha hhl;simp only at hha hhl;have hwp:=hha.1.2.2;have hwq:=hha.1.1;have hpl:=hha.2.2;have hdec:decide ((32:Int)<((lh.length+1:Nat):Int))=decide (32<lh.length+1):=by
  by_cases h:32<lh.length+1
  ·simp only[h,decide_true];exact decide_eq_true acK
  ·simp only[h,decide_false];exact decide_eq_false acK
 cases d0:isD st [40]
 ·have et:cq st [40]=(false,st):=by simp[cq,d0]
  rw[et];cases d1:((aL st).kind==1)
  ·have en:iZ (eD f) st l=((l,⟨1,(aD st).1,⟨0,[],false⟩⟩),(aD st).2):=by have:(aL st).kind≠1:=afJ;simp[iZ,d0,this]
   simp only[go_sem,ak,n7,d1];exact agV
  ·have k1:(aL st).kind=1:=by simpa using d1
   cases d2:((aL st).s== [116,114,117,101])
   ·have k2:(aL st).s≠vY:=by unfold vY;simpa using d2
    cases d3:((aL st).s== [102,97,108,115,101])
    ·have k3:(aL st).s≠qA:=by unfold qA;simpa using d3
     have en:iZ (eD f) st l=((l,⟨2,⟨0,0,[]⟩,(fY st).1⟩),(fY st).2):=by simp[iZ,d0,k1,k2,k3]
     simp only[go_sem,ak,n7,d1,d2,d3,Bool.not_false];refine(Kh st hw).run ?_;rw[en]at eh;injection eh with eh1 eh2
     injection eh1 with eh3 eh4
     subst eh2;subst eh3;subst eh4;simp only[go_sem,c6,ak,n6,m67,Cw];refine(hacX _ _ _).app (zs:=[dH (⟨2,⟨0,0,[]⟩,(fY st).1⟩:aZ)]) agv agw (fun k hk=>hk) afQ (by rw[sF];exact kW [(⟨2,⟨0,0,[]⟩,(fY st).1⟩:aZ)]) afB fun y3 H3 hy3 hk3=>?_
     have hH3:H3 id=some (PO (fY st).2):=hk3 _ _ _ (ah ..);have hb3:H3 i6=some (.obj [.v (.int .i64 (⟨2,⟨0,0,[]⟩,(fY st).1⟩:aZ).op),.v (.int .i64 (⟨2,⟨0,0,[]⟩,(fY st).1⟩:aZ).val.kind),.v (.int .i64 (⟨2,⟨0,0,[]⟩,(fY st).1⟩:aZ).val.n),.s (⟨2,⟨0,0,[]⟩,(fY st).1⟩:aZ).val.s,.v (.int .i64 (⟨2,⟨0,0,[]⟩,(fY st).1⟩:aZ).attr.cat),.s (⟨2,⟨0,0,[]⟩,(fY st).1⟩:aZ).attr.name,.v (.bool (⟨2,⟨0,0,[]⟩,(fY st).1⟩:aZ).attr.must)] 261):=hk3 _ _ _ ((ag _ _ n6).trans (ah ..));simp only[go_sem,hy3.len,acE,acA,List.length_cons,List.length_nil,Nat.zero_add,hdec];refine(cK (fY st).2 _ hha.1).go hH3 ?_;simp only[go_sem,ak,n6,hb3];refine⟨.of acO,?_⟩;have efin:eD (f+1) st l=((l++ [(⟨2,⟨0,0,[]⟩,(fY st).1⟩:aZ)],(⟨2,⟨0,0,[]⟩,(fY st).1⟩:aZ).op==2),bF (fY st).2 (decide (32<l.length+1))):=agC;exact .mk (.tup [y3,.b ((⟨2,⟨0,0,[]⟩,(fY st).1⟩:aZ).op==2)]) (.refl _) (.refl _) ⟨y3,by rw[efin],afe,adw⟩
    ·have k3:(aL st).s=qA:=by unfold qA;simpa using d3
     have en:iZ (eD f) st l=((l,⟨1,(aD st).1,⟨0,[],false⟩⟩),(aD st).2):=by simp[iZ,d0,k1,k3]
     simp only[go_sem,ak,n7,d1,d2,d3,Bool.not_false,Bool.not_true];exact agV
   ·have k2:(aL st).s=vY:=by unfold vY;simpa using d2
    have en:iZ (eD f) st l=((l,⟨1,(aD st).1,⟨0,[],false⟩⟩),(aD st).2):=by simp[iZ,d0,k1,k2]
    simp only[go_sem,ak,n7,d1,d2,Bool.not_true];exact agV
 ·have et:cq st [40]=(true,bk st):=by simp[cq,d0]
  have h1:=eU hw (dF d0);have hnp:(bk st).pos=st.pos+1:=rfl;have hnt:(bk st).ts=st.ts:=rfl;rw[et];simp only[go_sem];have ef:qC (eD f) (bk st) l=((lh,n),sth):=by rw[←eh];simp[iZ,d0]
  have hfx:=Fe (qw f) ih (bk st) l h1.1 (by rw[hnt];omega) acK
  simp only[ef]at hfx;refine hfx.run (og (hac7 _) _) fun y2 K2 hac2=>?_
  have k6:=hac2.1 _ _ g6;rw[ag _ _ n6]at k6;simp only[go_sem,c6,ak,n6,k6,dH];have hac3:=(sM hsG hac2).put gi6 ((ag _ _ n6).trans k6) (some (.obj [.i n.op,.i n.val.kind,.i n.val.n,.s n.val.s,.i n.attr.cat,.s n.attr.name,.b n.attr.must] 261));rw[c6]at hac3;refine(hac3).app (zs:=[dH n]) agv agw (fun k hk=>hk) afQ (by rw[sF];exact kW [n]) afB fun y3 H3 hy3 hk3=>?_
  have hH3:H3 id=some (PO sth):=hk3 _ _ _ (ah ..);have hb3:H3 i6=some (.obj [.i n.op,.i n.val.kind,.i n.val.n,.s n.val.s,.i n.attr.cat,.s n.attr.name,.b n.attr.must] 261):=hk3 _ _ _ ((ag _ _ n6).trans (ah ..));simp only[go_sem,hy3.len,acE,acA,List.length_cons,List.length_nil,Nat.zero_add,hdec];refine(cK sth _ hha.1).go hH3 ?_;simp only[go_sem,ak,n6,hb3];refine⟨.of acO,?_⟩;have efin:eD (f+1) st l=((lh++ [n],n.op==2),bF sth (decide (32<lh.length+1))):=by simp only[eD,eh]
  exact .mk (.tup [y3,.b (n.op==2)]) (.refl _) (.refl _) ⟨y3,by rw[efin],afe,adw⟩
theorem KM:∀f,EH (eD f) f
 |0=>fun st l hw hf _=>absurd hw.1 acK
 |f+1=>QW f (KM f)
theorem E8{P}{f}{args}{h}{Q Q'}(hf:ai P f args h Q)(hq:∀x h1,Q x h1→∃y h2,Weak x y∧Sub h2 h1∧Q' y h2):ai P f args h Q' :=
 fun c vs h1 h2 h3 h4=>(hf c vs h1 h2 h3 h4).mono fun u w' ⟨c',x,h',g1,g2,g3,g4,g5,g6⟩=>by obtain⟨y,h'',k1,k2,k3⟩:=hq x h' g6;exact⟨c',y,h'',g1,g2,g3,g4.weak k1,k2.trans g5,k3⟩
def flat:AV→AV
 |.sl xs _=> .sl xs .no
 |x=>x
theorem gq(xs):Weak (.agg xs) (.agg (xs.map flat)):=.agg _ _ acS fun i h1 h2=>by rw[acB];cases xs[i]<;>first|exact .refl _|exact .sl _ _
theorem Jd(st)(hw:WfP st):PC 192 [.sl [] .full,.b false] st (fA (iq (eD st.ts.length) st [] false).1) (iq (eD st.ts.length) st [] false).2:=.of fun G id=>by
 have hx:=AR (qw st.ts.length) (KM st.ts.length) st [] false hw acK acS;refine E8 (hx G G id (.sl [] .full) (.full (base_start G id _))) fun r h1 ⟨y',e1,e2,e3⟩=>⟨_,upd G id (some (PO (iq (eD st.ts.length) st [] false).2)),?_,fz e3.1 e2,rfl,rfl⟩
 subst e1;exact e3.weak
theorem Ma(deny)(st)(hw:WfP st):PC 165 [.b deny] st (aC (pU deny st).1) (pU deny st).2:=.of fun G id=>by
 have h1:=mV hw;have h2:=Bz h1.1;have h3:=Gh h2.1;have h4:=Bw h3.1;have ht:=PG _ h1.1;simp only[aV]at ht;refine acJ func165 23 [.cell 4 237] fun hwf=>?_
 simp only[go_sem];intro i4 hi4;have n4:=aH hi4;have hG4:G i4=none:=adm;have c4:∀(f:Heap) (x y:Option Blk),upd (upd f id x) i4 y=upd (upd f i4 y) id x:=fun f x y=>cw f x y n4.symm
 simp only[go_sem,c4];refine(tO st hw).run ?_;simp only[go_sem];refine ht.run ?_;simp only[go_sem];intro i5 hi5;have n5:=aH hi5;have hi5' :=hi5;rw[ag _ _ n5]at hi5';have n54:=aH hi5';have m54:¬i5=i4:=n54;have m45:¬i4=i5:=n54.symm;have hG5:G i5=none:=adm;have c5:∀(f:Heap) (x y:Option Blk),upd (upd f id x) i5 y=upd (upd f i5 y) id x:=fun f x y=>cw f x y n5.symm
 have c45:∀(f:Heap) (x y:Option Blk),upd (upd f i5 x) i4 y=upd (upd f i4 y) i5 x:=fun f x y=>cw f x y n54
 simp only[go_sem,c5,ak,n5];refine(j4 _ ifT h2.1).run ?_;cases d0:isD (gR (cp st).2).2 ifT
 ·have et:cq (gR (cp st).2).2 ifT=(false,(gR (cp st).2).2):=by grind [cq]
  have ec:qu (gR (cp st).2).2=([],(gR (cp st).2).2):=by grind [qu]
  have er:pU deny st=(⟨(cp st).1,deny,(gR (cp st).2).1,[],(gv (gR (cp st).2).2).1⟩,dV (gv (gR (cp st).2).2).2 [59]):=by grind [pU]
  rw[ec]at h4;have ho:=sV _ h2.1;simp only[aA]at ho;rw[et];simp only[go_sem];refine ho.run ?_;simp only[go_sem,c5,ak,n5];refine(kR _ [59] h4.1).run ?_;simp only[go_sem,c4,c45,ak,n4,n5,m45];exact .mk (h' :=upd G id (some (PO (dV (gv (gR (cp st).2).2).2 [59])))) (aC ⟨(cp st).1,deny,(gR (cp st).2).1,[],(gv (gR (cp st).2).2).1⟩) (gq _) (Sub.both adf _ _) ⟨by rw[er],by rw[er]⟩
 ·have et:cq (gR (cp st).2).2 ifT=(true,bk (gR (cp st).2).2):=by grind [cq]
  obtain⟨⟨cn,stc⟩,ec⟩:∃x,qu (gR (cp st).2).2=x:=⟨_,rfl⟩;have er:pU deny st=(⟨(cp st).1,deny,(gR (cp st).2).1,cn,(gv stc).1⟩,dV (gv stc).2 [59]):=by grind [pU]
  have hcnd:=Jd (bk (gR (cp st).2).2) (eU h2.1 (dF d0)).1;have ec2:iq (eD (bk (gR (cp st).2).2).ts.length) (bk (gR (cp st).2).2) [] false=(cn,stc):=by rw[←ec];simp only[qu,d0,if_true];rfl
  rw[ec2]at hcnd;simp only[fA]at hcnd;rw[ec]at h3 h4;have ho:=sV _ h3.1;simp only[aA]at ho;rw[et];simp only[go_sem];refine hcnd.run ?_;simp only[go_sem,c5,ak,n5];refine ho.run ?_;simp only[go_sem,c5,ak,n5];refine(kR _ [59] h4.1).run ?_;simp only[go_sem,c4,c45,ak,n4,n5,m45];exact .mk (h' :=upd G id (some (PO (dV (gv stc).2 [59])))) (aC ⟨(cp st).1,deny,(gR (cp st).2).1,cn,(gv stc).1⟩) (gq _) (Sub.both adf _ _) ⟨by rw[er],by rw[er]⟩
theorem OP:(U 237).sz=5:=acY
theorem Vj:(U 237).bytes=96:=acY
theorem wV(l:List fy):Sized 5 (l.map aC):=fun z hz=>by obtain⟨c,_,rfl⟩:=List.mem_map.1 hz;rfl
theorem RJ(st)(hw:WfP st)(hr:st.rules≤64):PC 133 [] st (.sl ((jZ 17 st []).1.map aC) .no) (jZ 17 st []).2:=.of fun G id=>by
 obtain⟨M,eM⟩:∃M,jZ 17 st []=M:=⟨_,rfl⟩;rw[eM];refine acJ func133 51 [.tmp 2] fun hwf=>?_
 simp only[go_sem];have hB:upd G id none id=none:=ah ..;refine .intro (fun m ρ H=>∃(f:Nat) (st' :PS) (l:List fy) (y:AV),H id=some (PO st')∧Acc U 237 (upd G id none) H y (l.map aC)∧Ah st st'∧st'.rules≤64∧jZ f st' l=M∧f+l.length=17∧l.length≤16∧m=f∧lk ρ 0=some (.ptr id 0)∧lk ρ 3=some y) 17 ?_ ?_
 ·refine⟨17,st,[],.sl ([].map aC) .full,ah ..,.full (base_start G id _),.refl hw,hr,eM,acS,acS,rfl,?_,?_⟩<;>simp only[go_sem]<;>rfl
 ·rintro m ρ H ⟨f,st',l,y,hH,hy,ha,hru,hfin,hf,hll,rfl,r0,r3⟩
  have hlen:=ha.1.2.2;have hpos:=ha.1.1;obtain⟨g,rfl⟩:∃g,m=g+1:=⟨m - 1,acK⟩;simp only[go_sem,r0];refine(tv st' pn ha.1).go hH ?_;rw[bl hH];have fin:isD st' pn=false→isD st' iX=false→(l,st')=M:=fun d1 d2=>by grind [jZ]
  have rest:isD st' pn=true∨isD st' iX=true→True:=fun _=>trivial
  cases d1:isD st' pn
  ·simp only[go_sem,r0]
   refine(tv st' iX ha.1).go hH ?_;rw[bl hH];cases d2:isD st' iX
   ·simp only[go_sem,r3]
    have e:=fin d1 d2;exact .mk (h' :=upd G id (some (PO M.2))) (.sl (M.1.map aC) .no) adL (by rw[←e];exact fz hy.1 hH) ⟨rfl,rfl⟩
   ·exact agU
  ·exact agU
theorem OO:(U 96).sz=7:=acY
theorem Vh:(U 96).bytes=128:=acY
theorem wU(l:List bV):Sized 7 (l.map aN):=fun z hz=>by obtain⟨c,_,rfl⟩:=List.mem_map.1 hz;cases c;rfl
theorem Q9(pol)(d:Nat)(hd5:d≤5)(hp:∀st,WfP st→st.rules≤64→d≤4→PC 90 [.i d] st (aN (pol st).1) (pol st).2)(hpa:∀st,WfP st→Ah st (pol st).2)(hpr:∀st,nP st (pol st).2)
  (st) (hw:WfP st) (hr:st.rules≤64):PC 132 [.i d] st (.sl ((jT pol (decide ((4:Int)<(d:Int))) 17 st []).1.map aN) .no) (jT pol (decide ((4:Int)<(d:Int))) 17 st []).2:=.of fun G id=>by
 obtain⟨M,eM⟩:∃M,jT pol (decide ((4:Int)<(d:Int))) 17 st []=M:=⟨_,rfl⟩;rw[eM];refine acJ func132 33 [.tmp 4] fun hwf=>?_
 simp only[go_sem];have hB:upd G id none id=none:=ah ..;refine .intro (fun m ρ H=>∃(f:Nat) (st' :PS) (l:List bV) (y:AV),H id=some (PO st')∧Acc U 96 (upd G id none) H y (l.map aN)∧Ah st st'∧st'.rules≤64∧jT pol (decide ((4:Int)<(d:Int))) f st' l=M∧f+l.length=17∧l.length≤16∧m=f∧lk ρ 0=some (.ptr id 0)∧lk ρ 1=some (.i d)∧lk ρ 5=some y) 17 ?_ ?_
 ·refine⟨17,st,[],.sl ([].map aN) .full,ah ..,.full (base_start G id _),.refl hw,hr,eM,acS,acS,rfl,?_,?_,?_⟩<;>simp only[go_sem]<;>rfl
 ·rintro m ρ H ⟨f,st',l,y,hH,hy,ha,hru,hfin,hf,hll,rfl,r0,r1,r5⟩
  have hlen:=ha.1.2.2;have hpos:=ha.1.1;obtain⟨g,rfl⟩:∃g,m=g+1:=⟨m - 1,acK⟩;simp only[go_sem,r0];refine(tv st' pq ha.1).go hH ?_;rw[bl hH];have fin:isD st' pq=false→isD st' FR=false→(l,st')=M:=fun d1 d2=>by grind [jT]
  cases d1:isD st' pq
  ·simp only[go_sem,r0]
   refine(tv st' FR ha.1).go hH ?_;rw[bl hH];cases d2:isD st' FR
   ·simp only[go_sem,r5]
    have e:=fin d1 d2;exact .mk (h' :=upd G id (some (PO M.2))) (.sl (M.1.map aN) .no) adL (by rw[←e];exact fz hy.1 hH) ⟨rfl,rfl⟩
   ·have hd:isD st' pq=true∨isD st' FR=true:=by grind
    have eb:=(mJ hd).1;have ek:=(mJ hd).2;have db:(st'.bad !=0)=false:=acL;have gP:=hH;unfold PO at gP;have lim:l.length=16∨decide ((4:Int)<(d:Int))=true→(l,bF st' true)=M:=fun h=>by rw[←hfin];simp only[jT,if_pos hd,if_pos h]
    have hdl:bF st' true=bI st' 6 (aL st').pos:=rfl;have hlb:((bF st' true).bad !=0)=true:=by grind [bI]
    cases dA:((l.length:Int)==16)
    ·cases dB:decide ((4:Int)<(d:Int))
     ·have nA:l.length≠16:=fun e=>by grind
      have hno:¬(l.length=16∨decide ((4:Int)<(d:Int))=true):=fun h=>h.elim nA (fun e=>acL)
      simp only[jT,if_pos hd,if_neg hno]at hfin;rw[dB]at hfin;have hd4:d≤4:=acL;simp only[go_sem,r0,r1,r5,hy.len,acA,dA,dB];refine(cK st' false ha.1).go hH ?_;rw[show bF st' false=st' from rfl,bl hH]
      have h3:=hpa st' ha.1;have hrp:=hp st' ha.1 hru hd4;have hr3:=u0 (hpr st') hru;obtain⟨x,st2,e2⟩:∃x st2,pol st' =(x,st2):=⟨_,_,rfl⟩;rw[e2]at hfin hrp h3 hr3;obtain⟨pid,pset,palg,ptgt,prules,pkids,pobls⟩:=x;simp only[aN]at hrp hfin h3 hr3;simp only[go_sem,r0,r1,r5,gP,db];refine hrp.go hH ?_;simp only[go_sem];refine(hy.put hB hH _).app (zs:=[aN ⟨pid,pset,palg,ptgt,prules,pkids,pobls⟩]) acN acN (fun k hk=>hk) (by grind [OO,wU]) ae7 (by grind [Vh]) fun y' H2 hy' hk2=>?_
      have hH2:H2 id=some (PO st2):=hk2 _ _ _ (ah ..);simp only[go_sem];refine⟨_,?_,g,st2,l++ [⟨pid,pset,palg,ptgt,prules,pkids,pobls⟩],y',hH2,acL,ha.trans h3,hr3,hfin,acL,acL,rfl,?_,?_,?_⟩
      ·omega
      all_goals simp only[go_sem,r0,r1]
     ·have e:=lim (.inr dB)
      simp only[go_sem,r0,r1,r5,hy.len,acA,dA,dB];refine(cK st' true ha.1).go hH ?_;have g3:upd H id (some (PO (bF st' true))) id=some (PO (bF st' true)):=ah ..;unfold PO at g3;simp only[go_sem,r0,r5,g3,hlb,PO];exact .mk (h' :=upd G id (some (PO M.2))) (.sl (M.1.map aN) .no) adL adk ⟨rfl,rfl⟩
    ·have nA:l.length=16:=by grind
     have e:=lim (.inl nA);simp only[go_sem,r0,r5,hy.len,acA,dA];refine(cK st' true ha.1).go hH ?_;have g3:upd H id (some (PO (bF st' true))) id=some (PO (bF st' true)):=ah ..;unfold PO at g3;simp only[go_sem,r0,r5,g3,hlb,PO];exact .mk (h' :=upd G id (some (PO M.2))) (.sl (M.1.map aN) .no) adL adk ⟨rfl,rfl⟩
  ·have hd:isD st' pq=true∨isD st' FR=true:=by grind
   have eb:=(mJ hd).1;have ek:=(mJ hd).2;have db:(st'.bad !=0)=false:=acL;have gP:=hH;unfold PO at gP;have lim:l.length=16∨decide ((4:Int)<(d:Int))=true→(l,bF st' true)=M:=fun h=>by rw[←hfin];simp only[jT,if_pos hd,if_pos h]
   have hdl:bF st' true=bI st' 6 (aL st').pos:=rfl;have hlb:((bF st' true).bad !=0)=true:=by grind [bI]
   cases dA:((l.length:Int)==16)
   ·cases dB:decide ((4:Int)<(d:Int))
    ·have nA:l.length≠16:=fun e=>by grind
     have hno:¬(l.length=16∨decide ((4:Int)<(d:Int))=true):=fun h=>h.elim nA (fun e=>acL)
     simp only[jT,if_pos hd,if_neg hno]at hfin;rw[dB]at hfin;have hd4:d≤4:=acL;simp only[go_sem,r0,r1,r5,hy.len,acA,dA,dB];refine(cK st' false ha.1).go hH ?_;rw[show bF st' false=st' from rfl,bl hH]
     have h3:=hpa st' ha.1;have hrp:=hp st' ha.1 hru hd4;have hr3:=u0 (hpr st') hru;obtain⟨x,st2,e2⟩:∃x st2,pol st' =(x,st2):=⟨_,_,rfl⟩;rw[e2]at hfin hrp h3 hr3;obtain⟨pid,pset,palg,ptgt,prules,pkids,pobls⟩:=x;simp only[aN]at hrp hfin h3 hr3;simp only[go_sem,r0,r1,r5,gP,db];refine hrp.go hH ?_;simp only[go_sem];refine(hy.put hB hH _).app (zs:=[aN ⟨pid,pset,palg,ptgt,prules,pkids,pobls⟩]) acN acN (fun k hk=>hk) (by grind [OO,wU]) ae7 (by grind [Vh]) fun y' H2 hy' hk2=>?_
     have hH2:H2 id=some (PO st2):=hk2 _ _ _ (ah ..);simp only[go_sem];refine⟨_,?_,g,st2,l++ [⟨pid,pset,palg,ptgt,prules,pkids,pobls⟩],y',hH2,acL,ha.trans h3,hr3,hfin,acL,acL,rfl,?_,?_,?_⟩
     ·omega
     all_goals simp only[go_sem,r0,r1]
    ·have e:=lim (.inr dB)
     simp only[go_sem,r0,r1,r5,hy.len,acA,dA,dB];refine(cK st' true ha.1).go hH ?_;have g3:upd H id (some (PO (bF st' true))) id=some (PO (bF st' true)):=ah ..;unfold PO at g3;simp only[go_sem,r0,r5,g3,hlb,PO];exact .mk (h' :=upd G id (some (PO M.2))) (.sl (M.1.map aN) .no) adL adk ⟨rfl,rfl⟩
   ·have nA:l.length=16:=by grind
    have e:=lim (.inl nA);simp only[go_sem,r0,r5,hy.len,acA,dA];refine(cK st' true ha.1).go hH ?_;have g3:upd H id (some (PO (bF st' true))) id=some (PO (bF st' true)):=ah ..;unfold PO at g3;simp only[go_sem,r0,r5,g3,hlb,PO];exact .mk (h' :=upd G id (some (PO M.2))) (.sl (M.1.map aN) .no) adL adk ⟨rfl,rfl⟩
theorem DR(r:Nat)(d:Nat)(hrd:r+d=4)(hp:∀st,WfP st→st.rules≤64→d+1≤4→PC 90 [.i (d+1:Nat)] st (aN (gH r st).1) (gH r st).2)(st:PS)(hw:WfP st)(hr:st.rules≤64):
  PC 90 [.i d] st (aN (gH (r+1) st).1) (gH (r+1) st).2:=.of fun G id=>by
 have h1:=gF mL hw;have h2:=mV h1.1;have h3:=gF xm h2.1;have h4:=Bz h3.1;have h5:Ah _ (cU st).2:=jj [123] h4.1;have ht:=PG _ h3.1;simp only[aV]at ht;have hrh:=u0 (DX st).big hr;have hset:(cU st).1.1=((aX st mL).1==2):=rfl;have w1:IntKind.i64.wrap ((d:Int)+1)=((d+1:Nat):Int):=acX;have hdp:(r==0)=decide ((4:Int)<((d+1:Nat):Int)):=by grind
 have hk:=Q9 (gH r) (d+1) acK hp (fun _ h=>xj r _ h) (B7 r) _ h5.1 hrh
 have hs:=RJ _ h5.1 hrh;refine acJ func90 39 [.cell 4 96] fun hwf=>?_
 simp only[go_sem];intro i4 hi4;have n4:=aH hi4;have hG4:G i4=none:=adm;have c4:∀(f:Heap) (x y:Option Blk),upd (upd f id x) i4 y=upd (upd f i4 y) id x:=fun f x y=>cw f x y n4.symm
 simp only[go_sem,c4];intro i5 hi5;have n5:=aH hi5;have hi5' :=hi5;rw[ag _ _ n5]at hi5';have n54:=aH hi5';have m54:¬i5=i4:=n54;have m45:¬i4=i5:=n54.symm;have hG5:G i5=none:=adm;have c5:∀(f:Heap) (x y:Option Blk),upd (upd f id x) i5 y=upd (upd f i5 y) id x:=fun f x y=>cw f x y n5.symm
 have c45:∀(f:Heap) (x y:Option Blk),upd (upd f i5 x) i4 y=upd (upd f i4 y) i5 x:=fun f x y=>cw f x y n54
 simp only[go_sem,c5];refine(om st mL .full acN hw).run ?_;simp only[go_sem,c5,ak,n5];refine(tO _ h1.1).run ?_;simp only[go_sem,c5,ak,n5];refine(om _ xm .full acN h2.1).run ?_;simp only[go_sem,c5,ak,n5];refine ht.run ?_;simp only[go_sem,c5,ak,n5];refine(kR _ [123] h4.1).run ?_;cases ds:((aX st mL).1==2)
 ·rw[ds]at hset
  simp only[go_sem,ak,n5];have eb:pP (gH r) (r==0) (cU st).1.1 (cU st).2=(((jZ 17 (cU st).2 []).1,[]),(jZ 17 (cU st).2 []).2):=by grind [pP]
  have hb:=Bv (fun _ h=>xj r _ h) (r==0) (cU st).1.1 h5.1
  obtain⟨⟨rl,stb⟩,er⟩:∃x,jZ 17 (cU st).2 []=x:=⟨_,rfl⟩;rw[er]at eb hs;rw[eb]at hb;have ho:=sV _ (jj [125] hb.1).1;simp only[aA]at ho hs;refine hs.run ?_;simp only[go_sem,c5,ak,n5];refine(kR _ [125] hb.1).run ?_;simp only[go_sem];refine ho.run ?_;simp only[go_sem,c4,c5,c45,ak,n4,n5,m45];have efin:gH (r+1) st=(.mk (cU st).1.2.1 false (cU st).1.2.2.1 (cU st).1.2.2.2 rl [] (gv (dV stb [125])).1,(gv (dV stb [125])).2):=by grind [gH]
  exact .mk (h' :=upd G id (some (PO (gv (dV stb [125])).2))) (aN (.mk (cU st).1.2.1 false (cU st).1.2.2.1 (cU st).1.2.2.2 rl [] (gv (dV stb [125])).1)) (gq _) (Sub.both adf _ _) ⟨acL,acL⟩
 ·rw[ds]at hset
  simp only[go_sem,ak,n5,w1];have eb:pP (gH r) (r==0) (cU st).1.1 (cU st).2=(([],(jT (gH r) (r==0) 17 (cU st).2 []).1),(jT (gH r) (r==0) 17 (cU st).2 []).2):=by grind [pP]
  have hb:=Bv (fun _ h=>xj r _ h) (r==0) (cU st).1.1 h5.1
  rw[←hdp]at hk;obtain⟨⟨kl,stb⟩,er⟩:∃x,jT (gH r) (r==0) 17 (cU st).2 []=x:=⟨_,rfl⟩;rw[er]at eb hk;rw[eb]at hb;have ho:=sV _ (jj [125] hb.1).1;simp only[aA]at ho hk;refine hk.run ?_;simp only[go_sem,c5,ak,n5];refine(kR _ [125] hb.1).run ?_;simp only[go_sem];refine ho.run ?_;simp only[go_sem,c4,c5,c45,ak,n4,n5,m45];have efin:gH (r+1) st=(.mk (cU st).1.2.1 true (cU st).1.2.2.1 (cU st).1.2.2.2 [] kl (gv (dV stb [125])).1,(gv (dV stb [125])).2):=by grind [gH]
  exact .mk (h' :=upd G id (some (PO (gv (dV stb [125])).2))) (aN (.mk (cU st).1.2.1 true (cU st).1.2.2.1 (cU st).1.2.2.2 [] kl (gv (dV stb [125])).1)) (by simp only[aN,bf];exact gq _) (Sub.both adf _ _) ⟨acL,acL⟩
theorem DP:∀(r d:Nat),r+d=4→∀st,WfP st→st.rules≤64→PC 90 [.i d] st (aN (gH (r+1) st).1) (gH (r+1) st).2
 |0,d,hrd=>fun st hw hr=>DR 0 d hrd acK st hw hr
 |r+1,d,hrd=>fun st hw hr=>DR (r+1) d hrd (fun st hw hr _=>DP r (d+1) acK st hw hr) st hw hr
theorem Kc(l)(h):ai prog 215 [cS l] h fun r h' =>r= .i (wo l)∧h' =h:=by
 refine acJ func215 25 [.tmp 2] fun hwf=>?_
 simp only[go_sem,cS,acA];refine(GQ _ _).pthen ?_;cases d1:(j8 l.length !=0)
 case true=>have e1:j8 l.length≠0:=acL;simp only[go_sem,d1];exact .same (.refl _) ⟨by grind [wo,ax],rfl⟩
 have e1:j8 l.length=0:=acL;have hlen:=Dt e1;simp only[go_sem,d1,acA];refine .intro (fun m ρ h' =>Ab.Sub h h'∧∃i:Nat,i≤l.length∧m=l.length - i∧ig wj (l.take i)=0∧lk ρ 13=some (cS l)∧lk ρ 14=some (.i l.length)∧lk ρ 15=some (.i i)) l.length ?_ ?_
 ·refine⟨.refl _,0,acK,rfl,rfl,?_,?_,?_⟩<;>simp only[go_sem,cS]
 ·rintro m ρ h' ⟨hs,i,hi,rfl,hc,r12,r13,r14⟩
  simp only[go_sem,r13,r14];refine .intro (fun e=>?_) (fun e=>?_)
  ·have hlt:i<l.length:=acH e
   have w1:IntKind.i64.wrap ((i:Int)+1)=((i+1:Nat):Int):=acX;simp only[go_sem,r12,r14,cS];refine .at i acL acZ ?_;simp only[go_sem,acB,iR];refine(Kb l[i] _).pthen ?_;cases d2:(wj l[i] !=0)
   ·have e2:wj l[i]=0:=by grind
    simp only[go_sem,r14,d2,w1];refine⟨_,?_,hs,i+1,acK,rfl,vD hlt hc e2,?_,?_,?_⟩
    ·omega
    all_goals simp only[go_sem,r12,r13,cS]
   ·have e2:wj l[i]≠0:=by grind
    simp only[go_sem,d2];refine .mk _ (.refl _) hs ⟨?_,rfl⟩
    grind [wo,Az,ax]
  ·have hge:i=l.length:=by grind
   subst hge;rw[List.take_length]at hc;simp only[go_sem];exact .mk _ (.refl _) hs ⟨by grind [wo,ax],rfl⟩
theorem vb(l)(h):ai prog 194 [aV l] h fun r h' =>r= .i (lH l)∧h' =h:=by
 refine acJ func194 21 [.tmp 2] fun hwf=>?_
 cases d1:decide (8<(l.length:Int))
 case true=>have e1:8<l.length:=acL;simp only[go_sem,aV,acA,d1];exact .same (.refl _) ⟨by grind [lH,ax],rfl⟩
 have e1:¬8<l.length:=acL;simp only[go_sem,d1,aV,acA];refine .intro (fun m ρ h' =>Ab.Sub h h'∧∃i:Nat,i≤l.length∧m=l.length - i∧ig wo (l.take i)=0∧lk ρ 9=some (aV l)∧lk ρ 10=some (.i l.length)∧lk ρ 11=some (.i i)) l.length ?_ ?_
 ·refine⟨.refl _,0,acK,rfl,rfl,?_,?_,?_⟩<;>simp only[go_sem,aV]
 ·rintro m ρ h' ⟨hs,i,hi,rfl,hc,r12,r13,r14⟩
  simp only[go_sem,r13,r14];refine .intro (fun e=>?_) (fun e=>?_)
  ·have hlt:i<l.length:=acH e
   have w1:IntKind.i64.wrap ((i:Int)+1)=((i+1:Nat):Int):=acX;simp only[go_sem,r12,r14,aV];refine .at i acL acZ ?_;simp only[go_sem,acB,cS];refine(Kc l[i] _).pthen ?_;cases d2:(wo l[i] !=0)
   ·have e2:wo l[i]=0:=by grind
    simp only[go_sem,r14,d2,w1];refine⟨_,?_,hs,i+1,acK,rfl,vD hlt hc e2,?_,?_,?_⟩
    ·omega
    all_goals simp only[go_sem,r12,r13,aV]
   ·have e2:wo l[i]≠0:=by grind
    simp only[go_sem,d2];refine .mk _ (.refl _) hs ⟨?_,rfl⟩
    grind [lH,Az,ax]
  ·have hge:i=l.length:=by grind
   subst hge;rw[List.take_length]at hc;simp only[go_sem];exact .mk _ (.refl _) hs ⟨by grind [lH,ax],rfl⟩
theorem B1(l)(h):ai prog 195 [aA l] h fun r h' =>r= .i (ij l)∧h' =h:=by
 refine acJ func195 39 [.tmp 2] fun hwf=>?_
 cases d1:decide (8<(l.length:Int))
 case true=>have e1:8<l.length:=acL;simp only[go_sem,aA,acA,d1];exact .same (.refl _) ⟨by grind [ij,ax],rfl⟩
 have e1:¬8<l.length:=acL;simp only[go_sem,d1,aA,acA];refine .intro (fun m ρ h' =>Ab.Sub h h'∧∃i:Nat,i≤l.length∧m=l.length - i∧(l.take i).all qL=true∧lk ρ 8=some (aA l)∧lk ρ 9=some (.i l.length)∧lk ρ 10=some (.i i)) l.length ?_ ?_
 ·refine⟨.refl _,0,acK,rfl,rfl,?_,?_,?_⟩<;>simp only[go_sem,aA]
 ·rintro m ρ h' ⟨hs,i,hi,rfl,hc,r12,r13,r14⟩
  simp only[go_sem,r13,r14];refine .intro (fun e=>?_) (fun e=>?_)
  ·have hlt:i<l.length:=acH e
   have w1:IntKind.i64.wrap ((i:Int)+1)=((i+1:Nat):Int):=acX;simp only[go_sem,r12,r14,aA];refine .at i acL acZ ?_;simp only[go_sem,acB,bu];intro id hid;have bad:qL l[i]=false→ij l=1:=fun hb=>by have:l.all qL=false:=List.all_eq_false.2 ⟨_,acF hlt,acL⟩;simp[ij,e1,this]
   cases c1:decide (l[i].on<1)
   case true=>simp only[go_sem,c1];exact .mk _ (.refl _) (hs.new hid _) ⟨by rw[bad (by have:=acC c1;simp[qL];omega)];rfl,rfl⟩
   cases c2:decide (2<l[i].on)
   case true=>simp only[go_sem,c1,c2];exact .mk _ (.refl _) (hs.new hid _) ⟨by rw[bad (by have:=acC c2;simp[qL];omega)];rfl,rfl⟩
   cases c3:decide (l[i].kind<1)
   case true=>simp only[go_sem,c1,c2,c3];exact .mk _ (.refl _) (hs.new hid _) ⟨by rw[bad (by have:=acC c3;simp[qL];omega)];rfl,rfl⟩
   cases c4:decide (4<l[i].kind)
   case true=>simp only[go_sem,c1,c2,c3,c4];exact .mk _ (.refl _) (hs.new hid _) ⟨by rw[bad (by have:=acC c4;simp[qL];omega)];rfl,rfl⟩
   simp only[go_sem,c1,c2,c3,c4];refine(o6 _ _).pthen ?_;cases d2:aK l[i].arg
   ·simp only[go_sem]
    exact .mk _ (.refl _) (hs.new hid _) ⟨by rw[bad (by grind [qL])];rfl,rfl⟩
   ·simp only[go_sem,r14,w1]
    refine⟨_,?_,hs.new hid _,i+1,acK,rfl,?_,?_,?_,?_⟩
    ·omega
    ·grind [acD,List.take_succ_eq_append_getElem,qL]
    all_goals simp only[go_sem,r12,r13,aA]
  ·have hge:i=l.length:=by grind
   subst hge;rw[List.take_length]at hc;simp only[go_sem];exact .mk _ (.refl _) hs ⟨by grind [ij,ax],rfl⟩
theorem MJ(op:Int)(h):ai prog 240 [.i op] h fun r h' =>r=(match iF op with
  |none=> .tup [.sl [] .no,.b false]
  |some w=> .tup [.sl (w.map jO) .no,.b true])∧h' =h:=by
 refine acJ func240 35 [.tmp 2,.tmp 3] fun hwf=>?_
 cases k1:(op==1)
 case true=>have e1:op=1:=acL;simp only[go_sem,k1];exact .mk _ (fD _) (.refl _) ⟨af7,rfl⟩
 have n1:op≠1:=acL;cases k2:(op==2)
 case true=>have e1:op=2:=acL;simp only[go_sem,k1,k2];exact .mk _ (fD _) (.refl _) ⟨af7,rfl⟩
 have n2:op≠2:=acL;cases k3:(op==3)
 case true=>have e1:op=3:=acL;simp only[go_sem,k1,k2,k3];exact .mk _ (fD _) (.refl _) ⟨ae1,rfl⟩
 have n3:op≠3:=acL;cases k4:(op==4)
 case true=>have e1:op=4:=acL;simp only[go_sem,k1,k2,k3,k4];exact .mk _ (fD _) (.refl _) ⟨ae1,rfl⟩
 have n4:op≠4:=acL;cases k5:(op==5)
 case true=>have e1:op=5:=acL;simp only[go_sem,k1,k2,k3,k4,k5];exact .mk _ (fD _) (.refl _) ⟨ae1,rfl⟩
 have n5:op≠5:=acL;cases k11:(op==11)
 case true=>have e1:op=11:=acL;simp only[go_sem,k1,k2,k3,k4,k5,k11];exact .mk _ (fD _) (.refl _) ⟨ae1,rfl⟩
 have n11:op≠11:=acL;cases k6:decide (6≤op)
 ·have n6:=acD k6
  simp only[go_sem,k1,k2,k3,k4,k5,k11,k6];exact .mk _ (fD _) (.refl _) ⟨af7,rfl⟩
 cases k13:decide (op≤13)
 ·have n13:=acD k13
  simp only[go_sem,k1,k2,k3,k4,k5,k11,k6,k13];exact .mk _ (fD _) (.refl _) ⟨af7,rfl⟩
 have n6:=acC k6;have n13:=acC k13;simp only[go_sem,k1,k2,k3,k4,k5,k11,k6,k13];exact .mk _ (fD _) (.refl _) ⟨ae1,rfl⟩
theorem It(n)(h):ai prog 241 [dH n] h fun r h' =>r= .b (jP n)∧h' =h:=by
 refine acJ func241 37 [.tmp 2] fun hwf=>?_
 simp only[go_sem,dH];intro id hid;have fa:∀x y z:Bool,(x && (y && (z && true)))=(x && (y && (z && true))):=fun _ _ _=>rfl
 cases k1:(n.op==1)
 case true=>
  have e1:n.op=1:=acL;simp only[go_sem,k1];refine(gx n.val _).pthen ?_;cases d0:aW n.val
  ·simp only[go_sem]
   exact ah8
  ·simp only[go_sem]
   exact .mk _ (.refl _) (.aj hid) ⟨by grind [jP,ax,zeroAt],rfl⟩
 have n1:n.op≠1:=acL;cases k2:(n.op==2)
 case true=>
  have e1:n.op=2:=acL;simp only[go_sem,k1,k2];refine(Gm n.attr _).pthen ?_;cases d0:qj n.attr
  ·simp only[go_sem]
   exact ah8
  ·simp only[go_sem]
   exact .mk _ (.refl _) (.aj hid) ⟨by grind [jP,ax,zeroV],rfl⟩
 have n2:n.op≠2:=acL;cases d0:zeroV n.val
 ·have d1:=d0
  unfold zeroV at d1;simp only[go_sem,k1,k2,d1];exact ah8
 ·have d1:=d0
  unfold zeroV at d1;simp only[go_sem,k1,k2,d1];exact .mk _ (.refl _) (.aj hid) ⟨by grind [jP,ax,zeroAt],rfl⟩
theorem u4:(U 4).sz=1:=acY
theorem u4a:(U 4).k.agg=false:=acY
theorem u4b:(U 4).bytes=1:=acY
theorem u4f:fit (U 4).zero 1:=acT
theorem u4n:bC (U 4).zero=false:=acY
theorem Gn(l:List Bool):One (l.map jO):=One.map (fun _=>rfl) l
theorem OD(y)(st)(n)(h0 h)(hy:WrA 4 h0 h y (st.map jO))(hl:st.length≤1000000):
  ai prog 216 [y,dH n] h fun r h' =>∃z,r= .tup [z,.v (.bool (iE st n).isSome)]∧match iE st n with
   |none=>Ab.Sub h0 h'
   |some st' =>WrA 4 h0 h' z (st'.map jO):=by
 refine acJ func216 60 [.tmp 4,.tmp 5] fun hwf=>?_
 simp only[go_sem,dH];intro id hid;simp only[go_sem];have hyb:=hy.base hid (some (.obj [.i n.op,.i n.val.kind,.i n.val.n,.s n.val.s,.i n.attr.cat,.s n.attr.name,.b n.attr.must] 261));have hw:=MJ n.op (upd h id (some (.obj [.i n.op,.i n.val.kind,.i n.val.n,.s n.val.s,.i n.attr.cat,.s n.attr.name,.b n.attr.must] 261)));cases hwd:iF n.op with
 |none=>
  rw[hwd]at hw;have hst:iE st n=none:=by grind [iE]
  refine hw.pthen ?_;exact aiC
 |some w=>
  rw[hwd]at hw;have hwl:w.length≤2:=by grind [iF]
  refine hw.pthen ?_;simp only[go_sem];refine(It n _).pthen ?_;cases d1:jP n
  ·have hst:iE st n=none:=by grind [iE]
   exact aiC
  cases d2:decide ((st.length:Int)<(w.length:Int))
  case true=>
   have e2:¬w.length≤st.length:=acL;have hst:iE st n=none:=by grind [iE]
   simp only[go_sem,hyb.len,acA,d2];exact .mk _ (.refl _) (.aj hid) ⟨_,agG,ags⟩
  have e2:w.length≤st.length:=acL;have w1:IntKind.i64.wrap ((st.length:Int) - (w.length:Int))=((st.length - w.length:Nat):Int):=acX;obtain⟨hb,ehb⟩:∃hb,upd h id (some (.obj [.i n.op,.i n.val.kind,.i n.val.n,.s n.val.s,.i n.attr.cat,.s n.attr.name,.b n.attr.must] 261))=hb:=⟨_,rfl⟩;have hbid:hb id=some (.obj [.i n.op,.i n.val.kind,.i n.val.n,.s n.val.s,.i n.attr.cat,.s n.attr.name,.b n.attr.must] 261):=af9;have hsub:Ab.Sub h hb:=by rw[←ehb];exact .aj hid
  rw[ehb]at hyb⊢;simp only[go_sem,hyb.len,acA,d2,w1];refine .intro (fun m ρ h' =>h' =hb∧∃i:Nat,i≤w.length∧m=w.length - i∧(∀j,j<i→st[st.length - w.length+j]? =w[j]?)∧lk ρ 0=some y∧lk ρ 3=some (.ptr id 0)∧lk ρ 8=some (.i ((st.length - w.length:Nat):Int))∧lk ρ 36=some (.sl (w.map jO) .no)∧lk ρ 37=some (.i w.length)∧lk ρ 38=some (.i i)) w.length ?_ ?_
  ·refine⟨rfl,0,acK,rfl,fun j hj=>acK,?_,?_,?_,?_,?_,?_⟩<;>simp only[go_sem]
  ·rintro m ρ h' ⟨rfl,i,hi,rfl,hc,r0,r3,r8,r36,r37,r38⟩
   simp only[go_sem,r37,r38];refine .intro (fun e=>?_) (fun e=>?_)
   ·have hlt:i<w.length:=acH e
    have w2:IntKind.i64.wrap ((i:Int)+1)=((i+1:Nat):Int):=acX;have w3:IntKind.i64.wrap (((st.length - w.length:Nat):Int)+(i:Int))=((st.length - w.length+i:Nat):Int):=acX;have hlt2:st.length - w.length+i<st.length:=acK;simp only[go_sem,r36,r38];refine .at i acL acZ ?_;simp only[go_sem,r0,r8,acB,jO,w3];refine hyb.idx (Gn st) (st.length - w.length+i) rfl acL u4 u4a fun p hp=>?_
    simp only[go_sem,hp _,acB,jO];cases d3:(st[st.length - w.length+i]==w[i])
    ·have hst:iE st n=none:=by
      have:st.drop (st.length - w.length)≠w:=fun hh=>by grind
      simp[iE,hwd,this]
     simp only[go_sem];exact .mk _ (.refl _) hsub ⟨_,agG,ags⟩
    ·simp only[go_sem,r38,w2]
     refine⟨_,?_,rfl,i+1,acK,rfl,fun j hj=>?_,?_,?_,?_,?_,?_,?_⟩
     ·omega
     ·grind
     all_goals simp only[go_sem,r0,r3,r8,r36,r37]
   ·have hge:i=w.length:=by grind
    subst hge;have hdrop:st.drop (st.length - w.length)=w:=by
     apply List.ext_getElem?
     grind
    have hst:iE st n=some (st.take (st.length - w.length)++ [n.op==2]):=by grind [iE]
    simp only[go_sem];refine .calls (hm1 id _) [0,1,2,3,4,5,6,7,8,9] (.hm1 hbid) acO rfl ?_;simp only[go_sem,r0,r8];refine hyb.cut (x:=.i64) (st.length - w.length) acY rfl acS u4 fun z hz=>?_
    rw[←List.map_take]at hz;simp only[go_sem,r3,gj];refine hz.app (zs:=[.b (n.op==2)]) (Gn _) (Gn [n.op==2]) u4 acN u4f u4n (fun k hk=>hk) (by grind [u4b]) fun z' h2 hz' =>?_
    refine⟨fun j b hj=>((Sub.hm1 (ah ..)).trans hz'.1) j b hj,?_⟩
    simp only[go_sem];have hz2:=hz'.less (Sub.aj (hy.1.none hid));refine .same (.refl _) ⟨z',agG,?_⟩;rw[hst];simp only[List.map_append];exact hz2
theorem EP{l}(h:l.length≤32)(hs:fV [] l=none):j7 l=1:=by grind [j7,Nat.not_lt]
theorem j0(st):∀(l:List aZ) (i:Nat),fV st l=(match fV st (l.take i)with
  |none=>none
  |some st' =>fV st' (l.drop i))
 | [],i=>by simp[fV]
 |n::r,0=>acY
 |n::r,i+1=>by
  simp only[List.take_succ_cons,List.drop_succ_cons,fV];cases iE st n with
  |none=>rfl
  |some st' =>simp only;exact j0 st' r i
theorem rT(st st')(l)(h:fV st l=some st'):st'.length≤st.length+l.length:=by
 induction l generalizing st with
 |nil=>grind [fV,Option.some.injEq]
 |cons n r ih=>
  simp only[fV]at h;cases hs:iE st n with
  |none=>grind
  |some s2=>grind [iE]
theorem Gv(l)(h):ai prog 196 [fA l] h fun r h' =>r= .i (j7 l)∧h' =h:=by
 refine acJ func196 38 [.tmp 2] fun hwf=>?_
 cases d1:decide (32<(l.length:Int))
 case true=>have e1:32<l.length:=acL;simp only[go_sem,fA,acA,d1];exact .same (.refl _) ⟨by grind [j7,ax],rfl⟩
 have e1:l.length≤32:=acL;simp only[go_sem,fA,acA,d1];refine .intro (fun m ρ h' =>∃(i:Nat) (y:AV) (st:List Bool),WrA 4 h h' y (st.map jO)∧fV [] (l.take i)=some st∧i≤l.length∧m=l.length - i∧
  lk ρ 0=some (fA l)∧lk ρ 3=some y∧lk ρ 10=some (fA l)∧lk ρ 11=some (.i l.length)∧lk ρ 12=some (.i i)) l.length ?_ ?_
 ·refine⟨0,_,[],.nil (.refl _),rfl,acK,rfl,?_,?_,?_,?_,?_⟩<;>simp only[go_sem,fA]
 ·rintro m ρ h' ⟨i,y,st,hy,hst,hi,rfl,r0,r3,r10,r11,r12⟩
  have hsl:=rT _ _ _ hst;have hsl:st.length≤i:=acL;simp only[go_sem,r11,r12];refine .intro (fun e=>?_) (fun e=>?_)
  ·have hlt:i<l.length:=acH e
   have w1:IntKind.i64.wrap ((i:Int)+1)=((i+1:Nat):Int):=acX;have hnx:fV [] (l.take (i+1))=iE st l[i]:=by
    rw[j0 [] _ i,List.take_take,Nat.min_eq_left acK,hst,List.take_succ_eq_append_getElem hlt,List.drop_append_of_le_length acL,List.drop_of_length_le acL]
    grind [fV,iE]
   simp only[go_sem,r10,r12,fA];refine .at i acL acZ ?_;simp only[go_sem,acB,dH];intro id hid;simp only[go_sem,r3];have hyb:=hy.sub (Sub.aj (k:=some (.obj [.i l[i].op,.i l[i].val.kind,.i l[i].val.n,.s l[i].val.s,.i l[i].attr.cat,.s l[i].attr.name,.b l[i].attr.must] 261)) hid);refine(OD y st l[i] h _ hyb acK).mono fun r h2 ⟨z,e2,hz⟩=>?_
   subst e2;cases hsd:iE st l[i]with
   |none=>rw[hsd]at hz;simp only[go_sem,Option.isSome_none];refine .mk _ (.refl _) hz ⟨?_,rfl⟩;rw[EP e1 (by rw[j0 [] l (i+1),hnx,hsd])];rfl
   |some st' =>
    rw[hsd]at hz hnx;simp only[go_sem,r12,Option.isSome_some,w1];refine⟨_,?_,i+1,z,st',hz,hnx,acK,rfl,?_,?_,?_,?_,?_⟩
    ·omega
    all_goals simp only[go_sem,r0,r10,r11,fA]
  ·have hge:i=l.length:=by grind
   subst hge;rw[List.take_length]at hst;have he:j7 l=if l= []∨st= [false]then 0 else 1:=by simp_all [j7,if_neg]
   cases d2:decide (0<(l.length:Int))
   ·have e2:l= []:=by simp_all
    simp only[go_sem,r0,fA,acA,d2];exact .mk _ (.refl _) hy.1 ⟨by rw[he,if_pos (.inl e2)];rfl,rfl⟩
   have e2:l≠ []:=acL;cases d3:((st.length:Int) !=1)
   case true=>have e3:st≠ [false]:=acL;simp only[go_sem,r0,r3,fA,acA,d2,hy.len,d3];exact .mk _ (.refl _) hy.1 ⟨by rw[he,if_neg acL];rfl,rfl⟩
   have e3:st.length=1:=by grind
   obtain⟨b,rfl⟩:=List.length_eq_one_iff.1 e3;simp only[go_sem,r0,r3,fA,acA,d2,hy.len];refine hy.idx (Gn [b]) 0 rfl acS u4 u4a fun p hp=>?_
   simp only[go_sem,hp _,jO,List.getElem_cons_zero];cases b
   ·simp only[go_sem]
    exact .mk _ (.refl _) hy.1 ⟨by rw[he,if_pos (.inr rfl)];rfl,rfl⟩
   ·simp only[go_sem]
    exact .mk _ (.refl _) hy.1 ⟨by rw[he,if_neg acL];rfl,rfl⟩
def Keeps(S:List Nat)(h h' :Heap):Prop:=∀j k,j∉S→h j=some k→h' j=some k
theorem Keeps.trans{S}{a b c}(x:Keeps S a b)(y:Keeps S b c):Keeps S a c:=fun j k hj e=>y j k hj (x j k hj e)
theorem Keeps.of{S}{a b}(x:Ab.Sub a b):Keeps S a b:=fun j k _ e=>x j k e
theorem Keeps.upd{S}{a}{i:Nat}{b}(hi:i∈S):Keeps S a (Ab.upd a i b):=fun j k hj e=>by grind [ag]
def hY(h:Heap)(idw mid:Nat)(m:jJ):Prop:=h idw=some (.obj [.mp mid,.i m.rules] 209)∧h mid=some (.mp (zS m.met))∧(∀l∈m.met,l.length≤16)∧m.rules≤64
theorem hY.ne{h}{m}(hw:hY h idw mid m):idw≠mid:=fun e=>by
 have h1:=hw.1;have h2:=hw.2.1
 rw[e,h2]at h1;cases h1
theorem hY.keep{h h'}{m}(hw:hY h idw mid m)(hs:Ab.Sub h h'):hY h' idw mid m:=⟨hs _ _ hw.1,hs _ _ hw.2.1,hw.2.2⟩
theorem XA:(U 297).sz=0:=acY
theorem FB{s}(h:aK s=true):s.length≤16:=by grind [aK]
theorem yA{m}{s}(h:s∈m.met∨aK s=false):jg m s=none:=by
 unfold jg
 grind
theorem Ev(idw mid:Nat)(m)(s)(h)(hw:hY h idw mid m):ai prog 193 [.ptr idw 0,.s s] h fun r h' =>match jg m s with
  |none=>r= .b false∧Ab.Sub h h'
  |some m' =>r= .b true∧Keeps [idw,mid] h h'∧hY h' idw mid m' :=by
 refine acJ func193 28 [.tmp 4] fun hwf=>?_
 obtain⟨w1,w2,w3,w4⟩:=hw;have hlen:s.length≤maxLen:=by have:=hwf (.s s) acS;simp only[wfA,wf1,lim]at this;unfold maxLen;omega
 have hkeys:Ad .str (zS m.met):=I3 fun l hl=>by grind [maxLen]
 simp only[go_sem,w1,w2];refine⟨hlen,.inr acY,hkeys,?_⟩;rw[I5 _ _ XA];simp only[go_sem];intro idv hidv;simp only[go_sem];cases d1:decide (s∈m.met)
 case true=>have hm:=yA (.inl (acC d1));simp only[go_sem];rw[hm];exact .mk _ (.refl _) (.aj hidv) ⟨rfl,.refl _⟩
 have e1:=acD d1;simp only[go_sem];refine(o6 _ _).pthen ?_;cases d2:aK s
 ·have hm:=yA (m:=m) (.inr d2)
  simp only[go_sem];rw[hm];exact .mk _ (.refl _) (.aj hidv) ⟨rfl,.refl _⟩
 have hm:jg m s=some ⟨m.met++ [s],m.rules⟩:=by grind [jg]
 have w1' :upd h idv (some (.obj [] 297)) idw=some (.obj [.mp mid,.i m.rules] 209):=adm;have w2' :upd h idv (some (.obj [] 297)) mid=some (.mp (zS m.met)):=adm;simp only[go_sem,w1',w2'];refine⟨hlen,hkeys,?_⟩;rw[Mj e1];rw[hm];refine .same (.refl _) ⟨rfl,(Keeps.of (.aj hidv)).trans (.upd acS),?_,?_,?_,w4⟩
 ·grind [ag]
 ·rw[ah]
 grind [List.mem_singleton,FB]
theorem MN(idw mid:Nat)(m)(r)(h)(hw:hY h idw mid m):ai prog 167 [.ptr idw 0,aC r] h fun x h' =>x= .v (.int .i64 (gw m r).err)∧Keeps [idw,mid] h h'∧∀m',gw m r= .ok m'→hY h' idw mid m' :=by
 refine acJ func167 39 [.tmp 4] fun hwf=>?_
 simp only[go_sem,aC,aV,fA,aA];intro id hid;have n1:idw≠id:=fun e=>by have:=hw.1;rw[e,hid]at this;cases this
 have n2:mid≠id:=fun e=>by have:=hw.2.1;rw[e,hid]at this;cases this
 have hwb:=hw.keep (Sub.aj (k:=some (.obj [.s r.id,.b r.deny,.sl (r.tgt.map cS) .no,.sl (r.cond.map dH) .no,.sl (r.obls.map bu) .no] 237)) hid);have hk0:Keeps [idw,mid] h (upd h id (some (.obj [.s r.id,.b r.deny,.sl (r.tgt.map cS) .no,.sl (r.cond.map dH) .no,.sl (r.obls.map bu) .no] 237))):=.of (.aj hid);simp only[go_sem];obtain⟨hb,ehb⟩:∃hb,upd h id (some (.obj [.s r.id,.b r.deny,.sl (r.tgt.map cS) .no,.sl (r.cond.map dH) .no,.sl (r.obls.map bu) .no] 237))=hb:=⟨_,rfl⟩;have hbid:hb id=some (.obj [.s r.id,.b r.deny,.sl (r.tgt.map cS) .no,.sl (r.cond.map dH) .no,.sl (r.obls.map bu) .no] 237):=af9;rw[ehb]at hwb hk0⊢;refine(Ev idw mid m r.id hb hwb).mono fun x h2 hx=>?_
 cases hm:jg m r.id with
 |none=>
  rw[hm]at hx;obtain⟨rfl,hs⟩:=hx;have hr:gw m r= .bad 1:=by grind [gw]
  simp only[go_sem];exact .same (.refl _) ⟨agN,hk0.trans (.of hs),fun m' h' =>acL⟩
 |some m1=>
  rw[hm]at hx;obtain⟨rfl,hk,hw2⟩:=hx;have g2:=hw2.1;have hle:=hw2.2.2.2;have hid2:h2 id=some (.obj [.s r.id,.b r.deny,.sl (r.tgt.map cS) .no,.sl (r.cond.map dH) .no,.sl (r.obls.map bu) .no] 237):=hk id _ acL hbid;have w1:IntKind.i64.wrap ((m1.rules:Int)+1)=((m1.rules+1:Nat):Int):=acX;have hk3:Keeps [idw,mid] h (upd h2 idw (some (.obj [.mp mid,.i ((m1.rules+1:Nat):Int)] 209))):=(hk0.trans hk).trans (.upd acS);have hid3:upd h2 idw (some (.obj [.mp mid,.i ((m1.rules+1:Nat):Int)] 209)) id=some (.obj [.s r.id,.b r.deny,.sl (r.tgt.map cS) .no,.sl (r.cond.map dH) .no,.sl (r.obls.map bu) .no] 237):=by grind [ag]
  cases d1:decide (64<((m1.rules+1:Nat):Int))
  case true=>
   have e1:m1.rules+1>64:=acL;have hr:gw m r= .bad 6:=by grind [gw]
   simp only[go_sem,g2,w1,d1];exact ahM
  have e1:¬m1.rules+1>64:=acL;have hr:gw m r=need (lH r.tgt) (need (j7 r.cond) (need (ij r.obls) (.ok ⟨m1.met,m1.rules+1⟩))):=by grind [gw]
  simp only[go_sem,g2,w1,d1,hid3];refine(vb r.tgt _).pthen ?_;cases d2:(lH r.tgt !=0)
  case true=>
   have e2:lH r.tgt≠0:=acL;have hr:gw m r= .bad (lH r.tgt):=by grind [need]
   simp only[go_sem,d2];exact ahM
  have e2:lH r.tgt=0:=acL;rw[need,if_pos e2]at hr;simp only[go_sem,d2,hid3];refine(Gv r.cond _).pthen ?_;cases d3:(j7 r.cond !=0)
  case true=>
   have e3:j7 r.cond≠0:=acL;have hr:gw m r= .bad (j7 r.cond):=by grind [need]
   simp only[go_sem,d3];exact ahM
  have e3:j7 r.cond=0:=acL;rw[need,if_pos e3]at hr;simp only[go_sem,d3,hid3];refine(B1 r.obls _).pthen ?_;simp only[go_sem]
  by_cases e4:ij r.obls=0
  ·rw[need,if_pos e4]at hr
   refine .same (.refl _) ⟨by rw[hr,e4];rfl,hk3,fun m' h' =>?_⟩
   rw[hr]at h';cases h';refine⟨ah ..,?_,hw2.2.2.1,acL⟩;rw[ag _ _ hw2.ne.symm];exact hw2.2.1
  ·rw[need,if_neg e4]at hr
   exact ahM
theorem xZ{m}{id}{set}{tgt}{obls}(h:jg m id=none):fj m id set alg tgt nr nk obls= .bad 1:=by grind [fj]
theorem ML(idw mid:Nat)(m)(id)(set)(alg:Int)(tgt)(rules)(kids)(obls)(h)(hw:hY h idw mid m):
  ai prog 166 [.ptr idw 0,aN (.mk id set alg tgt rules kids obls)] h fun x h' =>x= .v (.int .i64 (fj m id set alg tgt rules.length kids.length obls).err)∧Keeps [idw,mid] h h'∧∀m',fj m id set alg tgt rules.length kids.length obls= .ok m'→hY h' idw mid m' :=by
 refine acJ func166 68 [.tmp 4] fun hwf=>?_
 simp only[go_sem,aN,aV,aA];intro ip hip;have n1:idw≠ip:=fun e=>by have:=hw.1;rw[e,hip]at this;cases this
 have n2:mid≠ip:=fun e=>by have:=hw.2.1;rw[e,hip]at this;cases this
 have hwb:=hw.keep (Sub.aj (k:=some (.obj [.s id,.b set,.i alg,.sl (tgt.map cS) .no,.sl (rules.map aC) .no,.sl (fH kids) .no,.sl (obls.map bu) .no] 96)) hip);have hk0:Keeps [idw,mid] h (upd h ip (some (.obj [.s id,.b set,.i alg,.sl (tgt.map cS) .no,.sl (rules.map aC) .no,.sl (fH kids) .no,.sl (obls.map bu) .no] 96))):=.of (.aj hip);simp only[go_sem];obtain⟨hb,ehb⟩:∃hb,upd h ip (some (.obj [.s id,.b set,.i alg,.sl (tgt.map cS) .no,.sl (rules.map aC) .no,.sl (fH kids) .no,.sl (obls.map bu) .no] 96))=hb:=⟨_,rfl⟩;have hbip:hb ip=some (.obj [.s id,.b set,.i alg,.sl (tgt.map cS) .no,.sl (rules.map aC) .no,.sl (fH kids) .no,.sl (obls.map bu) .no] 96):=af9;rw[ehb]at hwb hk0⊢;refine(Ev idw mid m id hb hwb).mono fun x h2 hx=>?_
 cases hm:jg m id with
 |none=>rw[hm]at hx;obtain⟨rfl,hs⟩:=hx;simp only[go_sem];exact .same (.refl _) ⟨by rw[xZ hm];rfl,hk0.trans (.of hs),fun m' h' =>by rw[xZ hm]at h';cases h'⟩
 |some m1=>
  rw[hm]at hx;obtain⟨rfl,hk,hw2⟩:=hx;have hip2:h2 ip=some (.obj [.s id,.b set,.i alg,.sl (tgt.map cS) .no,.sl (rules.map aC) .no,.sl (fH kids) .no,.sl (obls.map bu) .no] 96):=hk ip _ (by simp[n1.symm,n2.symm]) hbip
  have hkk:=hk0.trans hk;have bad:∀e,fj m id set alg tgt rules.length kids.length obls= .bad e→(.i e:AV)= .v (.int .i64 (fj m id set alg tgt rules.length kids.length obls).err)∧Keeps [idw,mid] h h2∧∀m',fj m id set alg tgt rules.length kids.length obls= .ok m'→hY h2 idw mid m' :=
   fun e he=>⟨by rw[he];rfl,hkk,fun m' h' =>by rw[he]at h';cases h'⟩
  cases d1:decide (alg<1)
  case true=>have e1:=acC d1;simp only[go_sem,d1,hip2];exact .same (.refl _) (bad 1 (by simp[fj,hm,e1]))
  cases d2:decide (6<alg)
  case true=>have e2:=acC d2;simp only[go_sem,d1,d2,hip2];exact .same (.refl _) (bad 1 (by simp[fj,hm,e2]))
  have e1:¬(alg<1∨alg>6):=by have:=acD d1;have:=acD d2;omega
  have tail:∀(z:Unit),¬(set=true∧rules.length>0∨set=false∧(kids.length>0∨alg=4))→fj m id set alg tgt rules.length kids.length obls=need (lH tgt) (need (ij obls) (if rules.length>16∨kids.length>16 then .bad 6 else .ok m1)):=fun _ hh=>by simp only[fj,hm];rw[if_neg e1,if_neg hh]
  cases set
  ·cases d4:decide (0<(kids.length:Int))
   case true=>
    have f4:0<kids.length:=by have:=acC d4;omega
    simp only[go_sem,d1,d2,hip2,bf,acA,d4];exact .same (.refl _) (bad 1 (by simp[fj,hm,e1,f4]))
   have g4:¬0<kids.length:=by have:=acD d4;omega
   cases d5:(alg==4)
   case true=>
    have f5:alg=4:=by simpa using d5
    simp only[go_sem,d1,d2,hip2,bf,acA,d4,d5];exact .same (.refl _) (bad 1 (by simp[fj,hm,f5]))
   have g5:alg≠4:=by simpa using d5
   simp only[go_sem,d1,d2,hip2,bf,acA,d4,d5];have e3:=tail () (by simp[g4,g5])
   refine(vb tgt _).pthen ?_;cases t1:(lH tgt !=0)
   case true=>exact ah5
   have f1:lH tgt=0:=by simpa using t1
   simp only[go_sem,t1,hip2];refine(B1 obls _).pthen ?_;cases t2:(ij obls !=0)
   case true=>exact ah1
   have f2:ij obls=0:=by simpa using t2
   cases t3:decide (16<(rules.length:Int))
   case true=>exact ahP
   have f3:¬16<rules.length:=by have:=acD t3;omega
   cases t4:decide (16<(kids.length:Int))
   case true=>exact ahN
   have f4:¬16<kids.length:=by have:=acD t4;omega
   simp only[go_sem,t2,hip2,acA,t3,bf,t4];have e4:fj m id false alg tgt rules.length kids.length obls= .ok m1:=by rw[e3];simp[need,f1,f2,f3,f4]
   exact aio
  ·cases d3:decide (0<(rules.length:Int))
   case true=>
    have f3:0<rules.length:=by have:=acC d3;omega
    simp only[go_sem,d1,d2,hip2,acA,d3];exact .same (.refl _) (bad 1 (by simp[fj,hm,e1,f3]))
   have g3:¬0<rules.length:=by have:=acD d3;omega
   simp only[go_sem,d1,d2,hip2,acA,d3];have e3:=tail () (by simp[g3])
   refine(vb tgt _).pthen ?_;cases t1:(lH tgt !=0)
   case true=>exact ah5
   have f1:lH tgt=0:=by simpa using t1
   simp only[go_sem,t1,hip2];refine(B1 obls _).pthen ?_;cases t2:(ij obls !=0)
   case true=>exact ah1
   have f2:ij obls=0:=by simpa using t2
   cases t3:decide (16<(rules.length:Int))
   case true=>exact ahP
   have f3:¬16<rules.length:=by have:=acD t3;omega
   cases t4:decide (16<(kids.length:Int))
   case true=>exact ahN
   have f4:¬16<kids.length:=by have:=acD t4;omega
   simp only[go_sem,t2,hip2,acA,t3,bf,t4];have e4:fj m id true alg tgt rules.length kids.length obls= .ok m1:=by rw[e3];simp[need,f1,f2,f3,f4]
   exact aio
theorem LQ(k):(aN k).cells.length=7:=by cases k;rfl
theorem uU{m}{p}(h:4<d):kI m d p= .bad 6:=by cases p;grind [kI]
theorem uW{m}{id}{set}{tgt}{rules}{kids}{obls}(h:¬4<d)
  (hh:fj m id set alg tgt rules.length kids.length obls= .bad e):kI m d (.mk id set alg tgt rules kids obls)= .bad e:=by
 grind [kI]
theorem yO{m m1}{id}{set}{tgt}{rules}{kids}{obls}(h:¬4<d)
  (hh:fj m id set alg tgt rules.length kids.length obls= .ok m1) (hr:fC m1 rules= .bad e):kI m d (.mk id set alg tgt rules kids obls)= .bad e:=by
 grind [kI]
theorem AX{m m1 m2}{id}{set}{tgt}{rules}{kids}{obls}(h:¬4<d)
  (hh:fj m id set alg tgt rules.length kids.length obls= .ok m1) (hr:fC m1 rules= .ok m2):kI m d (.mk id set alg tgt rules kids obls)=iP m2 (d+1) kids:=by
 grind [kI]
theorem tP:∀(n d:Nat) (m:jJ) (p:bV) (e:Int),d+n=5→kI m d p= .bad e→e≠0
 |0,d,m,p,e,hd,h=>by grind [uU]
 |n+1,d,m,.mk id set alg tgt rules kids obls,e,hd,h=>by
  by_cases h4:4<d
  ·omega
  cases hh:fj m id set alg tgt rules.length kids.length obls with
  |bad e' =>grind [uW,AE]
  |ok m1=>
   cases hr:fC m1 rules with
   |bad e' =>
    rw[yO h4 hh hr]at h;cases h
    clear hh hd
    induction rules generalizing m1 with
    |nil=>cases hr
    |cons r l ih=>grind [fC,gw,A6]
   |ok m2=>
    rw[AX h4 hh hr]at h;have ih:=fun m p e=>tP n (d+1) m p e acK
    clear hh hr
    induction kids generalizing m2 with
    |nil=>cases h
    |cons k l ihk=>
     simp only[iP]at h;cases hx:kI m2 (d+1) k with
     |bad x=>rw[hx]at h;cases h;exact ih _ _ _ hx
     |ok m3=>rw[hx]at h;exact ihk m3 h
theorem GW{w}{m}(h:need e w= .ok m):e=0∧w= .ok m:=by grind [need]
theorem KW{m m1}{id}{set}{tgt}{obls}(h:fj m id set alg tgt nr nk obls= .ok m1):
  jg m id=some m1∧1≤alg∧alg≤6∧(set=true→nr=0)∧(set=false→nk=0∧alg≠4)∧lH tgt=0∧ij obls=0∧nr≤16∧nk≤16:=by
 unfold fj at h;split at h
 ·cases h
 split at h
 ·cases h
 split at h
 ·cases h
 obtain⟨h3,h⟩:=GW h;obtain⟨h4,h⟩:=GW h
 grind
theorem HN:∀(n d:Nat),d+n=5→∀(idw mid:Nat) (m:jJ) (p:bV) (h:Heap),hY h idw mid m→
  ai prog 135 [.ptr idw 0,aN p,.i d] h fun x h' =>x= .v (.int .i64 (kI m d p).err)∧Keeps [idw,mid] h h'∧∀m',kI m d p= .ok m'→hY h' idw mid m'
 |n,d,hd,idw,mid,m,.mk id set alg tgt rules kids obls,h,hw=>by
  refine acJ func135 52 [.tmp 6] fun hwf=>?_
  simp only[go_sem,aN,aV,aA];intro ip hip;have n1:idw≠ip:=fun e=>by have:=hw.1;rw[e,hip]at this;cases this
  have n2:mid≠ip:=fun e=>by have:=hw.2.1;rw[e,hip]at this;cases this
  have hwb:=hw.keep (Sub.aj (k:=some (.obj [.s id,.b set,.i alg,.sl (tgt.map cS) .no,.sl (rules.map aC) .no,.sl (fH kids) .no,.sl (obls.map bu) .no] 96)) hip);have hk0:Keeps [idw,mid] h (upd h ip (some (.obj [.s id,.b set,.i alg,.sl (tgt.map cS) .no,.sl (rules.map aC) .no,.sl (fH kids) .no,.sl (obls.map bu) .no] 96))):=.of (.aj hip);obtain⟨hb,ehb⟩:∃hb,upd h ip (some (.obj [.s id,.b set,.i alg,.sl (tgt.map cS) .no,.sl (rules.map aC) .no,.sl (fH kids) .no,.sl (obls.map bu) .no] 96))=hb:=⟨_,rfl⟩;have hbip:hb ip=some (.obj [.s id,.b set,.i alg,.sl (tgt.map cS) .no,.sl (rules.map aC) .no,.sl (fH kids) .no,.sl (obls.map bu) .no] 96):=af9;rw[ehb]at hwb hk0⊢;cases d0:decide (4<(d:Int))
  case true=>have e0:4<d:=acL;simp only[go_sem,d0];exact .same (.refl _) ⟨by rw[uU e0];rfl,hk0,fun m' h' =>by grind [uU]⟩
  have e0:¬4<d:=acL;simp only[go_sem,d0,hbip];have hhead:=ML idw mid m id set alg tgt rules kids obls hb hwb;simp only[aN,aV,aA]at hhead;refine hhead.mono fun x h2 ⟨ex,hk,hw2⟩=>?_
  subst ex;have hk2:=hk0.trans hk;cases hh:fj m id set alg tgt rules.length kids.length obls with
  |bad e=>have hne:=AE hh;have t1:(e !=0)=true:=acL;simp only[go_sem,Went.err,t1];exact .same (.refl _) ⟨by rw[uW e0 hh];rfl,hk2,fun m' h' =>by grind [uW]⟩
  |ok m1=>
   have hw2:=hw2 _ hh;have hle:=(KW hh).2.2.2.2.2.2.2;have hip2:=hk ip _ acL hbip;simp only[go_sem,Went.err,hip2,acA];refine .intro (fun k ρ h' =>∃(i:Nat) (mi:jJ),i≤rules.length∧k=rules.length - i∧fC m1 (rules.take i)= .ok mi∧Keeps [idw,mid] h h'∧hY h' idw mid mi∧
    h' ip=some (.obj [.s id,.b set,.i alg,.sl (tgt.map cS) .no,.sl (rules.map aC) .no,.sl (fH kids) .no,.sl (obls.map bu) .no] 96)∧
    lk ρ 0=some (.ptr idw 0)∧lk ρ 2=some (.i d)∧lk ρ 4=some (.ptr ip 0)∧lk ρ 23=some (.sl (rules.map aC) .no)∧lk ρ 24=some (.i rules.length)∧lk ρ 25=some (.i i)) rules.length ?_ ?_
   ·refine⟨0,m1,acK,rfl,rfl,hk2,hw2,hip2,?_,?_,?_,?_,?_,?_⟩<;>simp only[go_sem]
   ·rintro k ρ h' ⟨i,mi,hi,rfl,hri,hki,hwi,hipi,r0,r2,r4,r23,r24,r25⟩
    simp only[go_sem,r24,r25];refine .intro (fun e=>?_) (fun e=>?_)
    ·have hlt:i<rules.length:=acH e
     have w1:IntKind.i64.wrap ((i:Int)+1)=((i+1:Nat):Int):=acX;simp only[go_sem,r23,r25];refine .at i acL acZ ?_;simp only[go_sem,acB,aC];intro ir hir;have hrl:=MN idw mid mi rules[i] _ (hwi.keep (Sub.aj (k:=some (.obj [.s rules[i].id,.b rules[i].deny,aV rules[i].tgt,fA rules[i].cond,aA rules[i].obls] 237)) hir));simp only[aC]at hrl;simp only[go_sem,r0];refine hrl.mono fun x h3 ⟨ex,hk3,hw3⟩=>?_
     subst ex;have hk4:=(hki.trans (.of (Sub.aj hir))).trans hk3;have hip3:=hk3 ip _ acL ((Sub.aj hir) _ _ hipi);cases hx:gw mi rules[i]with
     |bad x=>
      have t1:(x !=0)=true:=by grind [A6]
      simp only[go_sem,Went.err,t1];have hp:=yO (d:=d) (kids:=kids) e0 hh (D8 hlt hri hx);exact .same (.refl _) ⟨by rw[hp];rfl,hk4,fun m' h' =>acL⟩
     |ok m3=>
      simp only[go_sem,r25,Went.err,w1];refine⟨_,?_,i+1,m3,acK,rfl,by grind [vR],hk4,hw3 _ hx,hip3,?_,?_,?_,?_,?_,?_⟩
      ·omega
      all_goals simp only[go_sem,r0,r2,r4,r23,r24]
    ·have hge:i=rules.length:=by grind
     subst hge;rw[List.take_length]at hri;have hpk:=AX (d:=d) (kids:=kids) e0 hh hri;simp only[go_sem,r4,hipi,bf,acA];refine .intro (fun k ρ h' =>∃(i:Nat) (mj:jJ),i≤kids.length∧k=kids.length - i∧iP mi (d+1) (kids.take i)= .ok mj∧Keeps [idw,mid] h h'∧hY h' idw mid mj∧
      lk ρ 0=some (.ptr idw 0)∧lk ρ 2=some (.i d)∧lk ρ 37=some (.sl (kids.map aN) .no)∧lk ρ 38=some (.i kids.length)∧lk ρ 39=some (.i i)) kids.length ?_ ?_
     ·refine⟨0,mi,acK,rfl,rfl,hki,hwi,?_,?_,?_,?_,?_⟩<;>simp only[go_sem,r0,r2]
     ·rintro k ρ h' ⟨i,mj,hi,rfl,hkj,hki,hwi,r0,r2,r37,r38,r39⟩
      simp only[go_sem,r38,r39];refine .intro (fun e=>?_) (fun e=>?_)
      ·have hlt:i<kids.length:=acH e
       have w1:IntKind.i64.wrap ((i:Int)+1)=((i+1:Nat):Int):=acX;have w2:IntKind.i64.wrap ((d:Int)+1)=((d+1:Nat):Int):=acX;obtain⟨n',rfl⟩:∃n',n=n' +1:=⟨n - 1,acK⟩;have hrec:=HN n' (d+1) acK idw mid mj kids[i];cases hki' :kids[i]with
       |mk kid kset kalg ktgt krules kkids kobls=>
       rw[hki']at hrec;simp only[aN,aV,aA]at hrec;simp only[go_sem,r37,r39];refine .at i acL (by grind [LQ]) ?_
       simp only[go_sem,acB,hki',aN,aV,aA];intro ir hir;simp only[go_sem,r0,r2,w2];refine(hrec _ (hwi.keep (Sub.aj hir))).mono fun x h3 ⟨ex,hk3,hw3⟩=>?_
       subst ex;have hk4:=(hki.trans (.of (Sub.aj hir))).trans hk3;cases hx:kI mj (d+1) (.mk kid kset kalg ktgt krules kkids kobls)with
       |bad x=>
        have t1:(x !=0)=true:=by simpa using tP n' (d+1) _ _ _ acK hx
        simp only[go_sem,Went.err,t1];have hp:=Fv hlt hkj (by rw[hki'];exact hx)
        exact .same (.refl _) ⟨by rw[hpk,hp];rfl,hk4,fun m' h' =>acL⟩
       |ok m3=>
        simp only[go_sem,r39,Went.err,w1];refine⟨_,?_,i+1,m3,acK,rfl,by grind [yf],hk4,hw3 _ hx,?_,?_,?_,?_,?_⟩
        ·omega
        all_goals simp only[go_sem,r0,r2,r37,r38]
      ·have hge:i=kids.length:=by grind
       subst hge;rw[List.take_length]at hkj;simp only[go_sem];exact .same (.refl _) ⟨by rw[hpk,hkj];rfl,hki,fun m' h' =>acL⟩
theorem FC{i:Nat}{b}(e:upd h i (some b) j=none):j≠i:=fun hh=>by subst hh;rw[ah]at e;cases e
theorem tX(p)(h):ai prog 93 [aN p] h fun r h' =>r= .i (gC p)∧h' =h:=by
 cases p with
 |mk id set alg tgt rules kids obls=>
 refine acJ func93 10 [.tmp 2] fun hwf=>?_
 simp only[go_sem,aN,aV,aA];intro ip hip;simp only[go_sem];intro im him;simp only[go_sem];intro iw hiw;have n1:=FC him;have n2:=FC hiw;have hiw1:=hiw;rw[ag _ _ n2]at hiw1;have n3:=FC hiw1;have s1:Ab.Sub h (upd (upd (upd h ip (some (.obj [.s id,.b set,.i alg,.sl (tgt.map cS) .no,.sl (rules.map aC) .no,.sl (fH kids) .no,.sl (obls.map bu) .no] 96))) im (some (.mp []))) iw (some (.obj [.mp im,.i 0] 209))):=
  ((Sub.aj hip).trans (.aj him)).trans (.aj hiw)
 obtain⟨h3,e3⟩:∃h3,upd (upd (upd h ip (some (.obj [.s id,.b set,.i alg,.sl (tgt.map cS) .no,.sl (rules.map aC) .no,.sl (fH kids) .no,.sl (obls.map bu) .no] 96))) im (some (.mp []))) iw (some (.obj [.mp im,.i 0] 209))=h3:=⟨_,rfl⟩;have g1:h3 ip=some (.obj [.s id,.b set,.i alg,.sl (tgt.map cS) .no,.sl (rules.map aC) .no,.sl (fH kids) .no,.sl (obls.map bu) .no] 96):=by rw[←e3,ag _ _ n3.symm,ag _ _ n1.symm,ah]
 have g2:hY h3 iw im ⟨[],0⟩:=by refine⟨by rw[←e3,ah];rfl,by rw[←e3,ag _ _ n2.symm,ah];rfl,fun l hl=>acL,acN⟩
 have hi0:h im=none:=adm;have hw0:h iw=none:=adm;simp only[go_sem];rw[e3]at s1⊢;simp only[go_sem,g1];have hp:=HN 4 1 rfl iw im ⟨[],0⟩ (.mk id set alg tgt rules kids obls) h3 g2;refine hp.mono fun x h4 ⟨ex,hk,_⟩=>?_
 subst ex;simp only[go_sem];refine .mk _ (.refl _) (fun j k hj=>?_) ⟨rfl,rfl⟩
 refine hk j k ?_ (s1 _ _ hj)
 grind
def jY(x:bV×Int×Int):AV:=.tup [aN x.1,.i x.2.1,.i x.2.2]
theorem jv(a b c:AV)(h:Weak a b)(d:AV):Weak (.tup [a,c,d]) (.tup [b,c,d]):=.tup _ _ rfl fun i h1 h2=>by
 rcases i with _|_|_|i
 ·exact h
 ·exact ad4
 ·exact ad4
 grind
theorem yJ(s:Txt)(h:Heap)(he:l8 h):ai prog 72 [.s s] h fun r h' =>r=jY (aQ s)∧h' =h:=by
 refine acJ func72 61 [.cell 2 96,.tmp 3,.tmp 4] fun hwf=>?_
 simp only[go_sem];intro i2 hi2;simp only[go_sem];refine(ED s _ (he.sub (.aj hi2))).pthen ?_;cases el:sk s with
 |bad e a=>
  have e1:=yo el;have d1:(e !=0)=true:=by grind
  have efin:aQ s=(oI,e,a):=by grind [aQ]
  simp only[go_sem,N3,d1];rw[efin];exact .mk (h' :=h) (jY (oI,e,a)) (jv _ _ _ (gq _) _) (.aj hi2) ⟨rfl,rfl⟩
 |ok ts=>
  have efin:aQ s=yI s ts:=by grind [aQ]
  have hw:=JQ el 0 0 0;have hpol:=DP 3 1 rfl ⟨ts,0,0,0,0⟩ hw (Nat.zero_le _);have hap:=xj 4 ⟨ts,0,0,0,0⟩ hw;obtain⟨⟨⟨pid,pset,palg,ptgt,prules,pkids,pobls⟩,st1⟩,ep⟩:∃x,gH 4 ⟨ts,0,0,0,0⟩=x:=⟨_,rfl⟩;rw[show 3+1=4 from rfl,ep]at hpol
  rw[ep]at hap;simp only[aN]at hpol hap;simp only[yI,ep]at efin;simp only[go_sem,N3];intro i8 hi8;have n8:=aH hi8;have m82:¬i8=i2:=n8;have m28:¬i2=i8:=fun e=>n8 e.symm
  have hh8:h i8=none:=adm;simp only[go_sem];refine hpol.go (ah ..) ?_;rw[nK];simp only[go_sem];intro i9 hi9;have n9:=aH hi9;have hi9' :=hi9;rw[ag _ _ n9]at hi9';have n92:=aH hi9';have m92:¬i9=i2:=n92;have m29:¬i2=i9:=fun e=>n92 e.symm
  have m98:¬i9=i8:=n9;have m89:¬i8=i9:=fun e=>n9 e.symm
  have hh9:h i9=none:=adm;have c9:∀(f:Heap) (x y:Option Blk),upd (upd f i8 x) i9 y=upd (upd f i9 y) i8 x:=fun f x y=>cw f x y n9.symm
  simp only[go_sem,c9,ak,m98];refine(me st1 hap.1).run ?_;have subs:∀x y z,Sub h (upd (upd (upd h i2 x) i9 y) i8 z):=fun x y z=>((Sub.aj hi2).put hh9 _).put hh8 _
  cases d1:((aL st1).kind !=7)
  ·have k1:(aL st1).kind=7:=by grind
   have e2:(if(aL st1).kind=7 then st1 else bp st1)=st1:=if_pos k1
   simp only[go_sem,fM,d1];cases db:((st1).bad==0)
   ·have eb:(st1).bad≠0:=by grind
    simp only[go_sem,PO,db];have eend:pZ s (.mk pid pset palg ptgt prules pkids pobls,st1)=st1:=by simp_all [pZ,if_neg]
    have hbb:(st1).bad≠0:=eb;have dn:((st1).bad !=0)=true:=acL;simp only[go_sem,dn];refine .calls (hm1 i8 (PO (st1))) [0,1,2,3,4,5,6,7,8,9,10,11] (.hm1 (ah ..)) acO rfl ?_;simp only[go_sem,ak,m28,m29,PO,gj];refine⟨.hm1 ((ag _ _ n8).trans (ah ..)),?_⟩;have efin2:aQ s=(oI,(st1).bad,(st1).place):=acL;rw[efin2];exact .mk (h' :=h) (jY (oI,(st1).bad,(st1).place)) (jv _ _ _ (gq _) _) (Sub.put (subs _ _ _) hi2 _) ⟨rfl,rfl⟩
   ·have eb:(st1).bad=0:=by grind
    simp only[go_sem,ak,m98,PO,db];refine(tX (.mk pid pset palg ptgt prules pkids pobls) _).pthen ?_;cases dr:(gC (.mk pid pset palg ptgt prules pkids pobls) !=0)
    ·have er:gC (.mk pid pset palg ptgt prules pkids pobls)=0:=by grind
     have dn:((st1).bad !=0)=false:=acL;simp only[go_sem,ak,m28,m29,m98,dr,dn];have eend:pZ s (.mk pid pset palg ptgt prules pkids pobls,st1)=st1:=by simp_all [pZ,if_neg]
     exact aiy
    ·have er:gC (.mk pid pset palg ptgt prules pkids pobls)≠0:=by grind
     simp only[go_sem,dr];refine(ri (st1) 5 s.length).run ?_;have eend:pZ s (.mk pid pset palg ptgt prules pkids pobls,st1)=bI (st1) 5 s.length:=by simp_all [pZ,if_pos]
     have hwb:bI (st1) 5 s.length= {(st1)with bad:=5,place:=s.length}:=by rw[bI,if_pos eb]
     have hbb:(bI (st1) 5 s.length).bad≠0:=acL;have dn:((bI (st1) 5 s.length).bad !=0)=true:=acL;simp only[go_sem,PO,dn];refine .calls (hm1 i8 (PO (bI (st1) 5 s.length))) [0,1,2,3,4,5,6,7,8,9,10,11] (.hm1 (ah ..)) acO rfl ?_;simp only[go_sem,ak,m28,m29,PO,gj];refine⟨.hm1 ((ag _ _ n8).trans (ah ..)),?_⟩;have efin2:aQ s=(oI,(bI (st1) 5 s.length).bad,(bI (st1) 5 s.length).place):=acL;rw[efin2];exact .mk (h' :=h) (jY (oI,(bI (st1) 5 s.length).bad,(bI (st1) 5 s.length).place)) (jv _ _ _ (gq _) _) (Sub.put (subs _ _ _) hi2 _) ⟨rfl,rfl⟩
  ·have k1:(aL st1).kind≠7:=by grind
   have e2:(if(aL st1).kind=7 then st1 else bp st1)=bp st1:=if_neg k1
   simp only[go_sem,fM,d1];refine(lG st1 hap.1).run ?_;simp only[go_sem];cases db:((bp st1).bad==0)
   ·have eb:(bp st1).bad≠0:=by grind
    simp only[go_sem,PO,db];have eend:pZ s (.mk pid pset palg ptgt prules pkids pobls,st1)=bp st1:=by simp_all [pZ,if_neg]
    have hbb:(bp st1).bad≠0:=eb;have dn:((bp st1).bad !=0)=true:=acL;simp only[go_sem,dn];refine .calls (hm1 i8 (PO (bp st1))) [0,1,2,3,4,5,6,7,8,9,10,11] (.hm1 (ah ..)) acO rfl ?_;simp only[go_sem,ak,m28,m29,PO,gj];refine⟨.hm1 ((ag _ _ n8).trans (ah ..)),?_⟩;have efin2:aQ s=(oI,(bp st1).bad,(bp st1).place):=acL;rw[efin2];exact .mk (h' :=h) (jY (oI,(bp st1).bad,(bp st1).place)) (jv _ _ _ (gq _) _) (Sub.put (subs _ _ _) hi2 _) ⟨rfl,rfl⟩
   ·have eb:(bp st1).bad=0:=by grind
    simp only[go_sem,ak,m98,PO,db];refine(tX (.mk pid pset palg ptgt prules pkids pobls) _).pthen ?_;cases dr:(gC (.mk pid pset palg ptgt prules pkids pobls) !=0)
    ·have er:gC (.mk pid pset palg ptgt prules pkids pobls)=0:=by grind
     have dn:((bp st1).bad !=0)=false:=acL;simp only[go_sem,ak,m28,m29,m98,dr,dn];have eend:pZ s (.mk pid pset palg ptgt prules pkids pobls,st1)=bp st1:=by simp_all [pZ,if_neg]
     exact aiy
    ·have er:gC (.mk pid pset palg ptgt prules pkids pobls)≠0:=by grind
     simp only[go_sem,dr];refine(ri (bp st1) 5 s.length).run ?_;have eend:pZ s (.mk pid pset palg ptgt prules pkids pobls,st1)=bI (bp st1) 5 s.length:=by simp_all [pZ,if_pos]
     have hwb:bI (bp st1) 5 s.length= {(bp st1)with bad:=5,place:=s.length}:=by rw[bI,if_pos eb]
     have hbb:(bI (bp st1) 5 s.length).bad≠0:=acL;have dn:((bI (bp st1) 5 s.length).bad !=0)=true:=acL;simp only[go_sem,PO,dn];refine .calls (hm1 i8 (PO (bI (bp st1) 5 s.length))) [0,1,2,3,4,5,6,7,8,9,10,11] (.hm1 (ah ..)) acO rfl ?_;simp only[go_sem,ak,m28,m29,PO,gj];refine⟨.hm1 ((ag _ _ n8).trans (ah ..)),?_⟩;have efin2:aQ s=(oI,(bI (bp st1) 5 s.length).bad,(bI (bp st1) 5 s.length).place):=acL;rw[efin2];exact .mk (h' :=h) (jY (oI,(bI (bp st1) 5 s.length).bad,(bI (bp st1) 5 s.length).place)) (jv _ _ _ (gq _) _) (Sub.put (subs _ _ _) hi2 _) ⟨rfl,rfl⟩
end Go.Proofs.YteaaeelhjnhaaaaGreatDoor
namespace Go.Ab
open Go
theorem OwE.keepb{tb:TypeId}{h0 h h' :Heap}{sz:Nat}{y:AV}{xs:List AV}(hw:OwE tb h0 h sz y xs)(hk:∀id,h0 id=Option.none→h id≠Option.none→h' id=h id):OwE tb h0 h' sz y xs:=
 hw.keep fun id e=>hk id (hw.nid e).1 (hw.nid e).2.1
end Go.Ab
namespace Go.Proofs.YteaaeelhjnhaaaaGreatDoor
open Go Go.Ab Go.Bf Tryz
variable {h0 h h' g:Heap}{ys xs:List AV}{x y:AV}{c:aU}{cs:List aU}{i0:Nat}{s:aq}
theorem fu.keepb(hm:fu h0 h ys x c)(hk:∀id,h0 id=none→h id≠none→h' id=h id):fu h0 h' ys x c:=by obtain⟨f,l,e,a,b,c,d⟩:=hm;exact⟨f,l,e,a.keepb hk,b.keepb hk,c,d⟩
theorem l9.keepb(ho:l9 h0 h ys y cs i0)(hk:∀id,h0 id=none→h id≠none→h' id=h id):l9 h0 h' ys y cs i0:=by obtain⟨xs,a,b,c,d⟩:=ho;exact⟨xs,a.keepb hk,b,c,fun h1 h2=>(d h1 h2).keepb hk⟩
theorem sJ.keepb(ho:sJ h0 h x s i0)(hk:∀id,h0 id=none→h id≠none→h' id=h id):sJ h0 h' x s i0:=by obtain⟨y1,y2,y3,y4,e,a,b,c,d,r⟩:=ho;exact⟨y1,y2,y3,y4,e,a.keepb hk,b.keepb hk,c.keepb hk,d.keepb hk,r⟩
theorem l9.keepx{z:AV}(ho:l9 h0 h ys y cs i0)(hz:z∈ys)(hy:apart y z)(hk:∀id,h0 id=none→h id≠none→nid z≠some id→h' id=h id):l9 h0 h' ys y cs i0:=by
 obtain⟨xs,a,b,c,d⟩:=ho;refine⟨xs,a.keep fun id e=>hk id (a.nid e).1 (a.nid e).2.1 (hy id e),b,c,fun h1 h2=>?_⟩
 obtain⟨f,l,e,of,ol,hap,hys⟩:=d h1 h2;exact⟨f,l,e,of.keep fun id e=>hk id (of.nid e).1 (of.nid e).2.1 ((hys z hz).1 id e),ol.keep fun id e=>hk id (ol.nid e).1 (ol.nid e).2.1 ((hys z hz).2 id e),hap,hys⟩
theorem fu.frz(hm:fu h0 h ys x c)(hg:Ab.Sub g h0):Frz g h x (ct c):=by
 obtain⟨f,l,rfl,a,b,_⟩:=hm;refine .agg _ _ rfl fun j h1 h2=>?_
 rcases j with _|_|_|_|_|j
 ·exact ac5
 ·exact ac5
 ·exact ac5
 ·exact(a.less hg).frz (bw (fun _=>rfl) _)
 ·exact(b.less hg).frz (bw (fun _=>rfl) _)
 ·simp at h1;omega
theorem IF(hw:OwE 135 h0 h 5 y xs)(hg:Ab.Sub g h0)(hn:xs.length=cs.length)(hx:∀j (h1:j<xs.length) (h2:j<cs.length),Frz g h xs[j] (ct cs[j])):Frz g h y (gh cs):=by
 rcases hw with⟨rfl,rfl⟩|⟨id,h1,hw⟩
 ·have:cs= []:=by grind
  subst this;exact .sl [] [] .full rfl acK acS
 ·have hsz:∀i (h1:i<xs.length),xs[i].cells.length=5:=fun i h1=>hw.rd.1 _ acS
  refine hw.frz (hg.none h1) acL (fun i h1 h2=>by rw[hsz i h1,acB];rfl) fun i h1 h2 j h3 h4=>?_
  have h2' :i<cs.length:=acK;have hf:=hx i h1 h2';have key:∀x y:AV,Frz g h x y→bC y=true→cM y=true→∀j (h3:j<x.cells.length) (h4:j<y.cells.length),Frz g h x.cells[j] y.cells[j]:=by
   intro x y hf ha hp j h3 h4;cases hf with
   |keep x hx=>exact .pure (ny hp _ (acF h4))
   |agg xs ys hn hr=>exact hr j h3 h4
   |_=>cases ha
  have e:(cs.map ct)[i]'h2=ct cs[i]:=acS;simp only[e]at h4⊢;exact key _ _ hf rfl (by simp only[ct,mZ,cM,gW,gz,so,Bool.and_true,Bool.true_and,Bool.and_eq_true];exact⟨bw (fun _=>rfl) _,bw (fun _=>rfl) _⟩) j h3 h4
theorem l9.frz(ho:l9 h0 h ys y cs i0)(hg:Ab.Sub g h0):Frz g h y (gh cs):=by
 obtain⟨xs,a,b,c,d⟩:=ho;refine IF a hg b fun j h1 h2=>?_
 by_cases e:j=i0
 ·subst e;exact(d h1 h2).frz hg
 grind [C1]
theorem LR(p:bV):∀x∈fZ p,Frz g h x x:=fun x hx=>by refine .pure (ny (x:=aN p) (DS p) x ?_);rw[Oj];exact hx
theorem C2(hx:∀x∈xs,Frz g h x x):∀i (h1:i<xs.length) (h2:i<xs.length),Frz g h xs[i] xs[i]:=fun i h1 _=>hx _ (acF h1)
theorem GF{ps bs cs ds:List AV}(n1:ps.length=bs.length)(n2:cs.length=ds.length)(h1:∀i (a:i<ps.length) (b:i<bs.length),Frz g h ps[i] bs[i])(h2:∀i (a:i<cs.length) (b:i<ds.length),Frz g h cs[i] ds[i]):
  ∀i (a:i<(ps++cs).length) (b:i<(bs++ds).length),Frz g h (ps++cs)[i] (bs++ds)[i]:=fun i a b=>by
 by_cases e:i<ps.length
 ·rw[List.getElem_append_left e,List.getElem_append_left acK];exact h1 i e acK
 ·rw[List.getElem_append_right acK,List.getElem_append_right acK]
  simp only[acE]at a b;have:=h2 (i - ps.length) acK acK;simp only[n1]at this⊢;exact adr
theorem uz{y1 y2 y3 y4:AV}(a:Frz g h y1 (gh s.cases))(b:Frz g h y2 (kj s.reviews))(c:Frz g h y3 (lC s.notices))(d:Frz g h y4 (dY s.roles)):
  Frz g h (.agg ([.i s.tick,y1,y2,y3,y4]++fZ s.policy++ [.i s.version])) (cN s):=by
 refine .agg _ _ acS (GF acS rfl (GF rfl rfl (fun i h1 h2=>?_) (C2 (LR _))) (C2 fun x hx=>by rw[List.mem_singleton.1 hx];exact .pure rfl))
 rcases i with _|_|_|_|_|i
 ·exact ac5
 ·exact a
 ·exact b
 ·exact c
 ·exact d
 ·simp at h1;omega
theorem l9.rd(ho:l9 h0 h ys y cs i0):zB h y cs:=by
 obtain⟨xs,a,b,c,d⟩:=ho;refine⟨xs,a.rd,b,fun j h1 h2=>?_⟩
 by_cases e:j=i0
 ·subst e
  obtain⟨f,l,e,a,b,_⟩:=d h1 h2;exact⟨f,l,e,a.rd,b.rd⟩
 grind [rdC]
theorem sJ.rd(ho:sJ h0 h x s i0):RdS h x s:=by obtain⟨y1,y2,y3,y4,rfl,a,b,c,d,r⟩:=ho;exact⟨y1,y2,y3,y4,rfl,a.rd,b.rd,c.rd,d.rd⟩
end Go.Proofs.YteaaeelhjnhaaaaGreatDoor
namespace Go.Ab
open Go
theorem OwE.bL{tb:TypeId}{h0 h1 h:Heap}{sz:Nat}{y:AV}{xs:List AV}(hw:OwE tb h1 h sz y xs)(hs:∀i,h1 i=Option.none→h0 i=Option.none):OwE tb h0 h sz y xs:=by
 rcases hw with hw|⟨id,e,hw⟩
 ·exact agE
 ·exact .inr ⟨id,hs _ e,hw⟩
end Go.Ab
namespace Go.Proofs.YteaaeelhjnhaaaaGreatDoor
open Go Go.Ab Go.Bf Tryz
variable {g h0 h K:Heap}{ys ys' xs:List AV}{x y z r X:AV}{c C:aU}{cs A B:List aU}{i0 j:Nat}{s S:aq}
theorem fu.bL(hm:fu h0 h ys x c)(hg:∀i,h0 i=none→g i=none):fu g h ys x c:=by obtain⟨f,l,e,a,b,c⟩:=hm;exact⟨f,l,e,a.bL hg,b.bL hg,c⟩
theorem l9.bL(ho:l9 h0 h ys y cs i0)(hg:∀i,h0 i=none→g i=none):l9 g h ys y cs i0:=by obtain⟨xs,a,b,c,d⟩:=ho;exact⟨xs,a.bL hg,b,c,fun h1 h2=>(d h1 h2).bL hg⟩
theorem sJ.bL(ho:sJ h0 h x s i0)(hg:∀i,h0 i=none→g i=none):sJ g h x s i0:=by obtain⟨y1,y2,y3,y4,e,a,b,c,d,r⟩:=ho;exact⟨y1,y2,y3,y4,e,a.bL hg,b.bL hg,c.bL hg,d.bL hg,r⟩
theorem pg{y1 y2 y3 y4:AV}{tk ver palg:Int}{pid:Txt}{pset:Bool}{ptgt:kr}{prules:List fy}{pkids:List bV}{pobls:List dN}(h1:S.tick=tk)(h2:S.policy= .mk pid pset palg ptgt prules pkids pobls)(h3:S.version=ver)
  (a:l9 g K [y1,y2,y3,y4] y1 S.cases j) (b:OwE 170 g K 7 y2 (S.reviews.map iM)) (c:OwE 173 g K 3 y3 (S.notices.map mT)) (d:OwE 161 g K 2 y4 (S.roles.map eL)) (ap:apart y1 y2∧apart y1 y3∧apart y1 y4∧apart y2 y3∧apart y2 y4∧apart y3 y4):
  sJ g K (.agg [.i tk,y1,y2,y3,y4,.s pid,.b pset,.i palg,aV ptgt,.sl (prules.map aC) .no,.sl (pkids.map aN) .no,aA pobls,.i ver]) S j:=by
 refine⟨y1,y2,y3,y4,?_,a,b,c,d,ap⟩;rw[h1,h2,h3,show fZ (.mk pid pset palg ptgt prules pkids pobls)= [.s pid,.b pset,.i palg,aV ptgt,.sl (prules.map aC) .no,.sl (pkids.map aN) .no,aA pobls] by simp[fZ,bf]]
 rfl
theorem l9.move{h':Heap}(ho:l9 h0 h ys y cs i0)(hz:z∈ys)(hy:apart y z)(hk:∀id,h0 id=none→h id≠none→nid z≠some id→h' id=h id)
  (hr:∀y'∈ys',∀k,nid y' =some k→h k=none∨∃w∈ys,nid w=some k):l9 h0 h' ys' y cs i0:=by
 obtain⟨xs,a,b,c,d⟩:=ho;refine⟨xs,a.keep fun id e=>hk id (a.nid e).1 (a.nid e).2.1 (hy id e),b,c,fun h1 h2=>?_⟩
 obtain⟨f,l,e,of,ol,hap,hys⟩:=d h1 h2;refine⟨f,l,e,of.keep fun id e=>hk id (of.nid e).1 (of.nid e).2.1 ((hys z hz).1 id e),ol.keep fun id e=>hk id (ol.nid e).1 (ol.nid e).2.1 ((hys z hz).2 id e),hap,fun w hw=>⟨fun k e1 e2=>?_,fun k e1 e2=>?_⟩⟩
 ·rcases hr w hw k e2 with hn|⟨v,hv,e3⟩
  ·exact(of.nid e1).2.1 hn
  ·exact(hys v hv).1 k e1 e3
 ·rcases hr w hw k e2 with hn|⟨v,hv,e3⟩
  ·exact(ol.nid e1).2.1 hn
  ·exact(hys v hv).2 k e1 e3
theorem Oi(hj:A.length=j)(hw:OwE 135 g K 5 r (A.map ct++([X]++B.map ct)))(hX:fu g K ys X C):l9 g K ys r (A++ [C]++B) j:=by
 refine⟨_,hw,acS,fun k h1 h2 hk=>?_,fun h1 h2=>?_⟩
 ·grind
 grind
theorem B3{F:aU→aU}(hw:OwE 135 g K 5 z (xs.set j X))(hn:xs.length=cs.length)(hlo:∀k (h1:k<xs.length) (h2:k<cs.length),k≠j→xs[k]=ct cs[k])(hX:∀h:j<cs.length,fu g K ys X (F cs[j])):l9 g K ys z (cs.modify j F) j:=by
 refine⟨_,hw,acL,fun k h1 h2 e=>?_,fun h1 h2=>?_⟩
 ·grind
 grind
theorem td(hj:j<xs.length)(x:AV):au (xs.set j x)=au (xs.take j)++(x.cells++au (xs.drop (j+1))):=by simp_all [List.set_eq_take_append_cons_drop,if_pos,mo,au]
theorem BL(hj:j<xs.length):au xs=au (xs.take j)++(xs[j].cells++au (xs.drop (j+1))):=by grind [td,List.set_getElem_self]
theorem yV{o:OpD}(h:bM s o=0)(hk:o.kind=3∨o.kind=4):bY s.cases o.case=true:=by grind [bY,bM,bX]
theorem KD(hb:RdS g x s)(o:OpD)(hf:Few s)(hp:mN 1 s.policy)(hr:i64 o.review)(ht:i64 s.tick)(hver:0≤s.version∧s.version≤1000000)(he:l8 g):
  ai prog 79 [x,opA o] g fun r h' =>Ab.Sub g h'∧∃j,sJ g h' r (dU aQ s o) j∧(bM s o=0→j=findD s.cases o.case):=by
 obtain⟨i0,ei0⟩:∃i0,(if o.kind=1 then s.cases.length else findD s.cases o.case)=i0:=⟨_,rfl⟩
 have hown:=fun(G:Heap) (hG:Ab.Sub g G)=>Rw (hb.sub hG) i0 hf hp
 have hrdy:=fun(G:Heap) (hG:Ab.Sub g G)=>D5 (hb.sub hG) o hf hr ht
 obtain⟨y1,y2,y3,y4,rfl,hb'⟩:=hb;cases hpp:s.policy with
 |mk pid pset palg ptgt prules pkids pobls=>
 have hcC:fZ (.mk pid pset palg ptgt prules pkids pobls)= [.s pid,.v (.bool pset),.v (.int .i64 palg),aV ptgt,.sl (prules.map aC) .no,.sl (pkids.map aN) .no,aA pobls]:=afM;rw[hpp,hcC]at hown hrdy;simp only[opA,opC,List.cons_append,List.nil_append]at hown hrdy;refine acJ func79 138 [.cell 4 98] fun hwf=>?_
 simp only[go_sem,hcC,opA,opC,List.cons_append,List.nil_append];intro i2 h2;simp only[go_sem];intro i3 h3;have n32:=aH h3;have h3' :=aB h3;simp only[go_sem];intro i4 h4;have n43:=aH h4;have h4a:=aB h4;have n42:=aH h4a;have h4' :=aB h4a;simp only[go_sem,ak,n32.symm,n42.symm];obtain⟨H,eH⟩:∃H,upd (upd (upd g i2 (some (.obj [.v (.int .i64 s.tick),y1,y2,y3,y4,.s pid,.v (.bool pset),.v (.int .i64 palg),aV ptgt,.sl (prules.map aC) .no,.sl (pkids.map aN) .no,aA pobls,.v (.int .i64 s.version)] 98))) i3 (some (.obj (opC o) 25))) i4 (some (.obj [.v (.int .i64 0),.sl [] .full,.sl [] .full,.sl [] .full,.sl [] .full,.s [],.v (.bool false),.v (.int .i64 0),.sl [] .full,.sl [] .full,.sl [] .full,.sl [] .full,.v (.int .i64 0)] 98))=H:=⟨_,rfl⟩;have hH:Ab.Sub g H:=by rw[←eH];exact(((Sub.refl g).put h2 _).put h3' _).put h4' _
 have g2:H i2=some (.obj [.v (.int .i64 s.tick),y1,y2,y3,y4,.s pid,.v (.bool pset),.v (.int .i64 palg),aV ptgt,.sl (prules.map aC) .no,.sl (pkids.map aN) .no,aA pobls,.v (.int .i64 s.version)] 98):=by rw[←eH,ag _ _ n42.symm,ag _ _ n32.symm,ah]
 have g3:H i3=some (.obj (opC o) 25):=by rw[←eH,ag _ _ n43.symm,ah]
 have g4:H i4=some (.obj [.v (.int .i64 0),.sl [] .full,.sl [] .full,.sl [] .full,.sl [] .full,.s [],.v (.bool false),.v (.int .i64 0),.sl [] .full,.sl [] .full,.sl [] .full,.sl [] .full,.v (.int .i64 0)] 98):=aed;simp only[opC]at eH g3;rw[eH];clear eH;refine(hown H hH).mono fun r H1 ⟨hS,s1⟩=>?_
 obtain⟨z1,z2,z3,z4,er,hS1⟩:=id hS;subst er;rw[hpp,hcC]at hS⊢;obtain⟨hC,w2,w3,w4,a12,a13,a14,a23,a24,a34⟩:=hS1;obtain⟨xs,w1,hnx,hlo,hmy⟩:=id hC;simp only[go_sem,List.cons_append,List.nil_append];intro i5 h5;simp only[go_sem];have q2:=s1 _ _ g2;have q3:=s1 _ _ g3;have q4:=s1 _ _ g4;have n52:i2≠i5:=fun e=>by rw[←e,q2]at h5;cases h5
 have n53:i3≠i5:=fun e=>by rw[←e,q3]at h5;cases h5
 have n54:i4≠i5:=fun e=>by rw[←e,q4]at h5;cases h5
 obtain⟨K,eK⟩:∃K,upd H1 i5 (some (.obj [.v (.int .i64 s.tick),z1,z2,z3,z4,.s pid,.v (.bool pset),.v (.int .i64 palg),aV ptgt,.sl (prules.map aC) .no,.sl (pkids.map aN) .no,aA pobls,.v (.int .i64 s.version)] 98))=K:=⟨_,rfl⟩;have sK:Ab.Sub H1 K:=by rw[←eK];exact .aj h5
 have k5:K i5=some (.obj [.v (.int .i64 s.tick),z1,z2,z3,z4,.s pid,.v (.bool pset),.v (.int .i64 palg),aV ptgt,.sl (prules.map aC) .no,.sl (pkids.map aN) .no,aA pobls,.v (.int .i64 s.version)] 98):=by rw[←eK,ah]
 rw[eK];have hz5:∀k,H k=none→H1 k≠none→k≠i5:=fun k _ hk e=>hk (by rw[e];exact h5)
 have k2:=sK _ _ q2;have k3:=sK _ _ q3;have k4:=sK _ _ q4;clear eK;have sg:Ab.Sub g K:=hH.trans (s1.trans sK);simp only[go_sem,k2,k3];refine(hrdy K sg).pthen ?_;have g5:g i5=none:=(hH.trans s1).none h5;have kK:∀k,H1 k≠none→K k=H1 k:=fun k hk=>by
  cases e:H1 k with
  |none=>exact(hk e).elim
  |some b=>exact sK _ _ e
 have hz4:∀k,H k=none→k≠i4:=fun k hk e=>by rw[e,g4]at hk;cases hk
 by_cases p0:bM s o=0
 ·have d0:(bM s o !=0)=false:=by simp[p0]
  simp only[go_sem,d0];simp only[go_sem,k5,k3];have hSK:sJ H K (.agg ([.v (.int .i64 s.tick),z1,z2,z3,z4]++fZ s.policy++ [.v (.int .i64 s.version)])) s i0:=by rw[hpp,hcC];exact hS.keepb fun k _ hk=>kK k hk
  have hfi:=BK hSK.rd o.case hf.cases;rw[hpp,hcC]at hfi;simp only[List.cons_append,List.nil_append]at hfi;refine hfi.pthen ?_;simp only[go_sem,k3];have hform:dD o=true:=by
   cases e:dD o
   ·simp[bM,e]at p0
   ·rfl
  have hdone:dU aQ s o=doD aQ s o:=by simp[dU,p0]
  rw[hdone]
  by_cases p1:o.kind=1
  ·have k1:(o.kind==1)=true:=by simp[p1]
   simp only[go_sem,k1];simp only[go_sem,k3];intro i8 h8;have n82:i2≠i8:=fun e=>by rw[←e,k2]at h8;cases h8
   have n83:i3≠i8:=fun e=>by rw[←e,k3]at h8;cases h8
   have n84:i4≠i8:=fun e=>by rw[←e,k4]at h8;cases h8
   have n85:i5≠i8:=fun e=>by rw[←e,k5]at h8;cases h8
   simp only[go_sem];obtain⟨K2,eK2⟩:∃K2,upd K i8 (some (.obj [.s o.case,.s o.subj,.s [111,112,101,110],.sl [] .full,.sl [] .full] 135))=K2:=⟨_,rfl⟩;have sK2:Ab.Sub K K2:=by rw[←eK2];exact .aj h8
   have e8:K2 i8=some (.obj [.s o.case,.s o.subj,.s [111,112,101,110],.sl [] .full,.sl [] .full] 135):=by rw[←eK2,ah]
   rw[eK2];clear eK2;have m3:=sK2 _ _ k3;have m4:=sK2 _ _ k4;have m5:=sK2 _ _ k5;simp only[go_sem,m3,m5];have hha:=sd (h0:=H) (s:=s) z1 z2 z3 z4 (k:=i8) (o:=0) (A:=[]) (B:=[]) (t:=135) (c:=⟨o.case,o.subj,jB,[],[]⟩) (f:=.sl [] .full) (l:=.sl [] .full) rfl e8 acN (.inl ⟨rfl,rfl⟩) (s1.trans (sK.trans sK2)) (Nat.zero_le _) o.subj [110,101,119];rw[hpp,hcC]at hha;simp only[List.cons_append,List.nil_append]at hha;refine hha.mono fun r K3 ⟨l',ol,e8',fr3,ap3⟩=>?_
   have kK3:∀k,K2 k≠none→k≠i8→K3 k=K2 k:=fun k hk hk8=>fr3 k hk hk8 (by simp[nid])
   have m3' :K3 i3=_:=(kK3 i3 (by rw[m3];simp) n83).trans m3
   have m4' :K3 i4=_:=(kK3 i4 (by rw[m4];simp) n84).trans m4
   have m5' :K3 i5=_:=(kK3 i5 (by rw[m5];simp) n85).trans m5
   simp only[cc,List.append_nil]at e8';simp only[go_sem];simp only[go_sem,m5',e8'];have kk2:∀k,H1 k≠none→K2 k=H1 k:=fun k hk=>by
    have:=kK k hk;cases e:K k with
    |none=>rw[e]at this;exact(hk this.symm).elim
    |some b=>rw[sK2 _ _ e,←e,this]
   have k8:∀k,H1 k≠none→k≠i8:=fun k hk e=>hk (by have:=kK k hk;rw[e,h8]at this;rw[e];exact this.symm)
   have kk3:∀k,H1 k≠none→K3 k=H1 k:=fun k hk=>(kK3 k (by rw[kk2 k hk];exact hk) (k8 k hk)).trans (kk2 k hk)
   have sH3:Ab.Sub H1 K3:=fun k b hk=>by rw[kk3 k (by rw[hk];simp)];exact hk
   have hfl:findD s.cases o.case≤s.cases.length:=List.findIdx_le_length;have hfc:=hf.cases;refine(Fp z1 xs (.agg [.s o.case,.s o.subj,.s jB,.sl [] .full,l']) (findD s.cases o.case) H K3 (w1.keepb fun k _ hk=>kk3 k hk) (s1.trans sH3) acK acK rfl (by simp[Ab.fit])).mono fun r K4 ⟨ow5,fr4,ap4⟩=>?_
   have m4'' :K4 i4=_:=(fr4 i4 (by rw[m4'];simp) (fun e=>by have:=(w1.nid e).1;rw[g4]at this;cases this)).trans m4'
   have m5'' :K4 i5=_:=(fr4 i5 (by rw[m5'];simp) (fun e=>(w1.nid e).2.1 h5)).trans m5'
   simp only[go_sem,m5'',ow5.rd.fit,ow5.rd.cells];simp only[go_sem,ak,n54,m4''];have hi0:i0=s.cases.length:=by rw[←ei0,if_pos p1]
   have hxs:xs=s.cases.map ct:=List.ext_getElem (by simpa using hnx) fun j a b=>by rw[hlo j a acK acK,acB]
   have kk4:∀k,H1 k≠none→nid z1≠some k→K4 k=H1 k:=fun k hk hz=>(fr4 k (by rw[kk3 k hk];exact hk) hz).trans (kk3 k hk)
   obtain⟨K5,eK5⟩:∃K5,upd (upd K4 i5 (some (.obj [.v (.int .i64 s.tick),r,z2,z3,z4,.s pid,.v (.bool pset),.v (.int .i64 palg),aV ptgt,.sl (prules.map aC) .no,.sl (pkids.map aN) .no,aA pobls,.v (.int .i64 s.version)] 98))) i4 (some (.obj [.v (.int .i64 s.tick),r,z2,z3,z4,.s pid,.v (.bool pset),.v (.int .i64 palg),aV ptgt,.sl (prules.map aC) .no,.sl (pkids.map aN) .no,aA pobls,.v (.int .i64 s.version)] 98))=K5:=⟨_,rfl⟩;rw[eK5];have o5:∀k,k≠i4→k≠i5→K5 k=K4 k:=fun k a b=>by rw[←eK5,ag _ _ a,ag _ _ b]
   have kk5:∀k,H k=none→H1 k≠none→nid z1≠some k→K5 k=H1 k:=fun k a b c=>(o5 k (hz4 k a) (hz5 k a b)).trans (kk4 k b c)
   have ow:OwE 135 H K5 5 r (List.take (findD s.cases o.case) xs++([.agg [.s o.case,.s o.subj,.s jB,.sl [] .full,l']]++List.drop (findD s.cases o.case) xs)):=ow5.keep fun id e=>o5 id (hz4 id (ow5.nid e).1) fun e5=>by
    subst e5;rcases ap4 _ e with h|h
    ·rw[m5']at h;cases h
    ·exact(w1.nid h).2.1 h5
   have ol5:OwE 177 H K5 3 l' _:=ol.keep fun id e=>by
    have h2n:K2 id=none:=(ap3 id e).resolve_right (by simp[nid])
    have hz:nid z1≠some id:=fun e1=>by have:=kk2 id (w1.nid e1).2.1;rw[h2n]at this;exact(w1.nid e1).2.1 this.symm
    rw[o5 id (hz4 id (ol.nid e).1) (fun e5=>by rw[e5,m5]at h2n;cases h2n),fr4 id (ol.nid e).2.1 hz]
   have hmc:fu H K5 [] (.agg [.s o.case,.s o.subj,.s jB,.sl [] .full,l']) (jo s ⟨o.case,o.subj,jB,[],[]⟩ o.subj [110,101,119]):=⟨.sl [] .full,l',rfl,.inl ⟨rfl,rfl⟩,ol5,(fun i e=>adb),fun y hy=>by cases hy⟩
   have sg4:Ab.Sub g K4:=fun k b hk=>by
    have h1:=hH _ _ hk;have h2:=s1 _ _ h1;rw[kk4 k (by rw[h2];simp) (fun e=>by have:=(w1.nid e).1;rw[h1]at this;cases this)]
    exact agH
   have sg5:Ab.Sub g K5:=by rw[←eK5];exact(sg4.put g5 _).put h4' _
   have hdo:doD aQ s o= {s with cases:=s.cases.take (findD s.cases o.case)++ [jo s ⟨o.case,o.subj,jB,[],[]⟩ o.subj [110,101,119]]++s.cases.drop (findD s.cases o.case)}:=by simp[doD,p1]
   refine .mk _ (.refl _) (.refl _) ⟨sg5,_,?_,fun _=>rfl⟩
   rw[hdo];have apr:∀k,nid r=some k→H1 k=none∨nid z1=some k:=fun k e=>(ap4 k e).imp (fun h=>sH3.none h) id
   have hro:∀ {w:AV},apart z1 w→(∀k,nid w=some k→H1 k≠none)→apart r w:=fun ha hw k e1 e2=>(apr k e1).elim (fun h=>hw k e2 h) (fun h=>ha k h e2)
   have hl0:∀k,nid l' =some k→H1 k=none:=fun k e=>(sK.trans sK2).none ((ap3 k e).resolve_right (by simp[nid]))
   have hlr:apart l' r:=fun k e1 e2=>(ap4 k e2).elim (fun h=>(ol.nid e1).2.1 h) (fun h=>(w1.nid h).2.1 (hl0 k e1))
   rw[hxs,←List.map_take,←List.map_drop]at ow;refine pg rfl hpp rfl (Oi aeK (ow.bL (fun _ e=>hH.none e)) ⟨.sl [] .full,l',rfl,.inl ⟨rfl,rfl⟩,ol5.bL (fun _ e=>hH.none e),(fun i e=>adb),fun y hy=>⟨(fun i e=>adb),?_⟩⟩) ((w2.keep fun id e=>kk5 id (w2.nid e).1 (w2.nid e).2.1 fun e1=>a12 id e1 e).bL fun _ e=>hH.none e) ((w3.keep fun id e=>kk5 id (w3.nid e).1 (w3.nid e).2.1 fun e1=>a13 id e1 e).bL fun _ e=>hH.none e) ((w4.keep fun id e=>kk5 id (w4.nid e).1 (w4.nid e).2.1 fun e1=>a14 id e1 e).bL fun _ e=>hH.none e) ⟨hro a12 fun k e=>(w2.nid e).2.1,hro a13 fun k e=>(w3.nid e).2.1,hro a14 fun k e=>(w4.nid e).2.1,a23,a24,a34⟩
   simp only[List.mem_cons,List.not_mem_nil,or_false]at hy;rcases hy with rfl|rfl|rfl|rfl
   ·exact hlr
   ·exact fun k e1 e2=>(w2.nid e2).2.1 (hl0 k e1)
   ·exact fun k e1 e2=>(w3.nid e2).2.1 (hl0 k e1)
   ·exact fun k e1 e2=>(w4.nid e2).2.1 (hl0 k e1)
  have k1:(o.kind==1)=false:=by simp[p1]
  have hi0:i0=findD s.cases o.case:=by rw[←ei0,if_neg p1]
  simp only[go_sem,k1]
  by_cases p3:o.kind=3
  ·have k3' :(o.kind==3)=true:=by simp[p3]
   simp only[go_sem,k3'];have hth:=yV p0 (.inl p3);have hlt:=jD hth;obtain⟨j,ej⟩:∃j,findD s.cases o.case=j:=⟨_,rfl⟩;have hj:j<s.cases.length:=by rw[←ej];exact hlt
   have hjx:j<xs.length:=acK;rw[ej]at hi0;subst hi0;obtain⟨f,l,ex,of,ol,hap,hys⟩:=hmy hjx hj;obtain⟨id1,hg1,o1⟩:=w1.ow afC;have o1' :=o1;obtain⟨cap,rest,ey,hid,hrl,hcap,hsz⟩:=o1';have lA:i0*5=(au (xs.take i0)).length:=adM;have hidK:K id1=some (.obj (au (xs.take i0)++(cc s.cases[i0] f l++(au (xs.drop (i0+1))++rest))) 135):=by rw[sK _ _ hid,BL hjx,ex];simp[cc,AV.cells]
   have n14:id1≠i4:=hz4 id1 hg1;have n13:id1≠i3:=fun e=>by rw[e,g3]at hg1;cases hg1
   have n15:id1≠i5:=fun e=>o1.none (by rw[e];exact h5)
   have nf4:∀k,nid f=some k→k≠i3∧k≠i4∧k≠i5∧k≠id1:=fun k e=>⟨(fun e' =>afw),hz4 k (of.nid e).1,hz5 k (of.nid e).1 (of.nid e).2.1,fun e' =>(hys z1 acS).1 k e agb⟩
   have nl4:∀k,nid l=some k→k≠i3∧k≠i4∧k≠i5∧k≠id1:=fun k e=>⟨(fun e' =>afx),hz4 k (ol.nid e).1,hz5 k (ol.nid e).1 (ol.nid e).2.1,fun e' =>(hys z1 acS).2 k e agb⟩
   have hff:=hf.fields _ (acF hj);have hfl:=hf.log _ (acF hj);rw[ej];refine .calls (pick K [i3,i5]) [0,1,2,3,4,5,6,7,8] bB acO rfl ?_;simp only[go_sem,bD (show i5∈ [i3,i5] by simp),k3,k5]
   refine(o1.sub sK).idx (U:=U) (e:=135) i0 rfl hjx nJ acN ?_;simp only[go_sem,bD (show i3∈ [i3,i5] by simp),k3,k5]
   refine(show ai prog 113 [.ptr id1 (i0*5),.s o.field,.agg [.v (.int .i64 o.val.kind),.v (.int .i64 o.val.n),.s o.val.s]] K _ from MM lA hidK acN (of.sub sK) (s1.trans sK) hff o.field o.val).mono fun r K3 ⟨f',of',e1',fr3,ap3⟩=>?_
   have kk3:∀k,H1 k≠none→k≠id1→nid f≠some k→K3 k=H1 k:=fun k a b c=>(fr3 k (by rw[kK k a];exact a) b c).trans (kK k a)
   have m3:K3 i3=_:=(fr3 i3 (by rw[k3];simp) n13.symm fun e=>(nf4 _ e).1 rfl).trans k3
   have m4:K3 i4=_:=(fr3 i4 (by rw[k4];simp) n14.symm fun e=>(nf4 _ e).2.1 rfl).trans k4
   have m5:K3 i5=_:=(fr3 i5 (by rw[k5];simp) n15.symm fun e=>(nf4 _ e).2.2.1 rfl).trans k5
   refine⟨iK fun k hk=>?_,?_⟩
   ·simp only[List.mem_cons,List.not_mem_nil,or_false]at hk
    rcases hk with rfl|rfl
    ·rw[m3,k3]
    ·rw[m5,k5]
   simp only[go_sem];have sH3:Ab.Sub H K3:=fun k b hk=>adq
   have ol3:OwE 177 H K3 3 l (s.cases[i0].log.map iI):=ol.keep fun k e=>kk3 k (ol.nid e).2.1 (nl4 k e).2.2.2 (fun e1=>hap k e1 e)
   have hX5:∀y1 y2:AV,Sized 5 (xs.set i0 (.agg (cc s.cases[i0] y1 y2))):=fun y1 y2 z hz=>by exact ahy
   have mkO:∀ {G:Heap} {y1 y2:AV},G id1=some (.obj (au (xs.take i0)++(cc s.cases[i0] y1 y2++(au (xs.drop (i0+1))++rest))) 135)→Ow 135 G 5 id1 z1 (xs.set i0 (.agg (cc s.cases[i0] y1 y2))):=fun {G y1 y2} hG=>⟨cap,rest,ae4,by rw[hG,td hjx];simp[AV.cells],afR,aeW,hX5 _ _⟩
   have hjs:∀x:AV,i0<(xs.set i0 x).length:=fun x=>by rw[List.length_set];exact hjx
   refine .calls (pick K3 [i3,i5]) [0,1,2,3,4,5,6,7] bB acO rfl ?_;simp only[go_sem,bD (show i5∈ [i3,i5] by simp),m3,m5]
   refine(mkO e1').idx (U:=U) (e:=135) i0 rfl (hjs _) nJ acN ?_;simp only[go_sem,bD (show i3∈ [i3,i5] by simp),m3,m5]
   have hha:=sd (h0:=H) (h:=K3) (s:=s) z1 z2 z3 z4 (k:=id1) (c:=s.cases[i0]) (f:=f') (l:=l) lA e1' acN ol3 sH3 hfl o.subj [119,114,105,116,101];rw[hpp,hcC]at hha;simp only[List.cons_append,List.nil_append]at hha;refine hha.mono fun r K4 ⟨l',ol',e1'',fr4,ap4⟩=>?_
   have m3' :K4 i3=_:=(fr4 i3 (by rw[m3];simp) n13.symm fun e=>(nl4 _ e).1 rfl).trans m3
   have m4' :K4 i4=_:=(fr4 i4 (by rw[m4];simp) n14.symm fun e=>(nl4 _ e).2.1 rfl).trans m4
   have m5' :K4 i5=_:=(fr4 i5 (by rw[m5];simp) n15.symm fun e=>(nl4 _ e).2.2.1 rfl).trans m5
   refine⟨iK fun k hk=>?_,?_⟩
   ·simp only[List.mem_cons,List.not_mem_nil,or_false]at hk
    rcases hk with rfl|rfl
    ·rw[m3',m3]
    ·rw[m5',m5]
   simp only[go_sem];simp only[go_sem,m5',m4'];obtain⟨K5,eK5⟩:∃K5,upd K4 i4 (some (.obj [.v (.int .i64 s.tick),z1,z2,z3,z4,.s pid,.v (.bool pset),.v (.int .i64 palg),aV ptgt,.sl (prules.map aC) .no,.sl (pkids.map aN) .no,aA pobls,.v (.int .i64 s.version)] 98))=K5:=⟨_,rfl⟩;rw[eK5];have o5:∀k,k≠i4→K5 k=K4 k:=fun k a=>by rw[←eK5,ag _ _ a]
   have kk5:∀k,H k=none→H1 k≠none→k≠id1→nid f≠some k→nid l≠some k→K5 k=H1 k:=fun k a b c d e=>by exact aiI
   have of5:OwE 189 H K5 4 f' _:=of'.keep fun id e=>by exact ag9
   have ol5:OwE 177 H K5 3 l' _:=ol'.keep fun id e=>o5 id (hz4 id (ol'.nid e).1)
   have sg4:Ab.Sub g K4:=fun k b hk=>by exact ahJ
   have sg5:Ab.Sub g K5:=by rw[←eK5];exact sg4.put h4' _
   have n1' :nid z1=some id1:=o1.nid;have hdo:doD aQ s o= {s with cases:=s.cases.modify i0 fun c=>jo s {c with fields:=fc c.fields o.field o.val} o.subj [119,114,105,116,101]}:=by simp[doD,p3,ej]
   refine .mk _ (.refl _) (.refl _) ⟨sg5,_,?_,fun _=>rfl⟩
   rw[hdo];have thr:∀w∈ [z1,z2,z3,z4],∀k,nid w=some k→H1 k≠none:=fun w hw k e=>by exact ahG
   refine pg rfl hpp rfl ?_ ((w2.keep fun id e=>kk5 id (w2.nid e).1 (w2.nid e).2.1 (fun e1=>a12 id1 n1' afu) (fun e1=>(hys z2 acS).1 id e1 e) (fun e1=>(hys z2 acS).2 id e1 e)).bL fun _ e=>hH.none e) ((w3.keep fun id e=>kk5 id (w3.nid e).1 (w3.nid e).2.1 (fun e1=>a13 id1 n1' afu) (fun e1=>(hys z3 acS).1 id e1 e) (fun e1=>(hys z3 acS).2 id e1 e)).bL fun _ e=>hH.none e) ((w4.keep fun id e=>kk5 id (w4.nid e).1 (w4.nid e).2.1 (fun e1=>a14 id1 n1' afu) (fun e1=>(hys z4 acS).1 id e1 e) (fun e1=>(hys z4 acS).2 id e1 e)).bL fun _ e=>hH.none e) ⟨a12,a13,a14,a23,a24,a34⟩
   refine B3 (X:=.agg (cc s.cases[i0] f' l')) ((show OwE 135 H K5 5 z1 _ from .inr ⟨id1,hg1,mkO ((o5 id1 n14).trans e1'')⟩).bL (fun _ e=>hH.none e)) hnx (fun k h1 h2 hk=>hlo k h1 h2 hk) fun hh=>⟨f',l',rfl,of5.bL (fun _ e=>hH.none e),ol5.bL (fun _ e=>hH.none e),fun k e1 e2=>?_,fun w hw=>⟨fun k e1 e2=>?_,fun k e1 e2=>?_⟩⟩
   ·rcases ap4 k e2 with h|h
    ·exact(of'.nid e1).2.1 h
    ·rcases ap3 k e1 with h' |h'
     ·exact(ol.nid h).2.1 (sK.none h')
     ·exact hap k h' h
   ·rcases ap3 k e1 with h|h
    ·exact thr w hw k e2 (sK.none h)
    ·exact(hys w hw).1 k h e2
   ·rcases ap4 k e1 with h|h
    ·by_cases h1:k=id1
     ·subst h1;rw[e1']at h;cases h
     ·have:=kk3 k (thr w hw k e2) h1 (fun e=>(hys w hw).1 k e e2)
      rw[h]at this;exact thr w hw k e2 this.symm
    ·exact(hys w hw).2 k h e2
  have k3' :(o.kind==3)=false:=by simp[p3]
  simp only[go_sem,k3']
  by_cases p4:o.kind=4
  ·have k4' :(o.kind==4)=true:=by simp[p4]
   simp only[go_sem,k4'];have hth:=yV p0 (.inr p4);have hlt:=jD hth;obtain⟨j,ej⟩:∃j,findD s.cases o.case=j:=⟨_,rfl⟩;have hj:j<s.cases.length:=by rw[←ej];exact hlt
   have hjx:j<xs.length:=acK;rw[ej]at hi0;subst hi0;obtain⟨f,l,ex,of,ol,hap,hys⟩:=hmy hjx hj;obtain⟨id1,hg1,o1⟩:=w1.ow afC;have o1' :=o1;obtain⟨cap,rest,ey,hid,hrl,hcap,hsz⟩:=o1';have lA:i0*5=(au (xs.take i0)).length:=adM;have hidK:K id1=some (.obj (au (xs.take i0)++(cc s.cases[i0] f l++(au (xs.drop (i0+1))++rest))) 135):=by rw[sK _ _ hid,BL hjx,ex];simp[cc,AV.cells]
   have n14:id1≠i4:=hz4 id1 hg1;have n13:id1≠i3:=fun e=>by rw[e,g3]at hg1;cases hg1
   have n15:id1≠i5:=fun e=>o1.none (by rw[e];exact h5)
   have nf4:∀k,nid f=some k→k≠i3∧k≠i4∧k≠i5∧k≠id1:=fun k e=>⟨(fun e' =>afw),hz4 k (of.nid e).1,hz5 k (of.nid e).1 (of.nid e).2.1,fun e' =>(hys z1 acS).1 k e agb⟩
   have nl4:∀k,nid l=some k→k≠i3∧k≠i4∧k≠i5∧k≠id1:=fun k e=>⟨(fun e' =>afx),hz4 k (ol.nid e).1,hz5 k (ol.nid e).1 (ol.nid e).2.1,fun e' =>(hys z1 acS).2 k e agb⟩
   have hff:=hf.fields _ (acF hj);have hfl:=hf.log _ (acF hj);rw[ej];simp only[go_sem,k5,k3];refine(o1.sub sK).idx (U:=U) (e:=135) i0 rfl hjx nJ acN ?_;simp only[go_sem,hidK];have e2:List.take (i0*5+2) (au (xs.take i0)++(cc s.cases[i0] f l++(au (xs.drop (i0+1))++rest)))++ [.s o.to]++List.drop (i0*5+2+1) (au (xs.take i0)++(cc s.cases[i0] f l++(au (xs.drop (i0+1))++rest)))=au (xs.take i0)++(cc {s.cases[i0]with state:=o.to} f l++(au (xs.drop (i0+1))++rest)):=by
    have:=oZ (A:=au (xs.take i0)++ [.s s.cases[i0].id,.s s.cases[i0].owner]) (B:=[.s s.cases[i0].state]) (C:=f::l::(au (xs.drop (i0+1))++rest)) (X:=[.s o.to]) (k:=i0*5+2) (m:=1) (by rw[lA];simp) rfl rfl
    exact aiD
   rw[e2];obtain⟨K3,eK3⟩:∃K3,upd K id1 (some (.obj (au (xs.take i0)++(cc {s.cases[i0]with state:=o.to} f l++(au (xs.drop (i0+1))++rest))) 135))=K3:=⟨_,rfl⟩
   rw[eK3];refine⟨by simp only[acE,←lA,cc,List.length_cons,List.length_nil];omega,?_⟩
   have e1' :K3 id1=some (.obj (au (xs.take i0)++(cc {s.cases[i0]with state:=o.to} f l++(au (xs.drop (i0+1))++rest))) 135):=by rw[←eK3,ah]
   have fr3:∀k,K k≠none→k≠id1→nid f≠some k→K3 k=K k:=fun k _ hk _=>by rw[←eK3,ag _ _ hk]
   have ap3:∀k,nid f=some k→K k=none∨nid f=some k:=fun k hk=> .inr hk
   have kk3:∀k,H1 k≠none→k≠id1→nid f≠some k→K3 k=H1 k:=fun k a b c=>(fr3 k (by rw[kK k a];exact a) b c).trans (kK k a)
   have m3:K3 i3=_:=(fr3 i3 (by rw[k3];simp) n13.symm fun e=>(nf4 _ e).1 rfl).trans k3
   have m4:K3 i4=_:=(fr3 i4 (by rw[k4];simp) n14.symm fun e=>(nf4 _ e).2.1 rfl).trans k4
   have m5:K3 i5=_:=(fr3 i5 (by rw[k5];simp) n15.symm fun e=>(nf4 _ e).2.2.1 rfl).trans k5
   obtain⟨f',of',ef'⟩:∃f',OwE 189 H K3 4 f' (s.cases[i0].fields.map bO)∧f=f' :=⟨f,of.keep fun k e=>by rw[←eK3,ag _ _ (nf4 k e).2.2.2,kK k (of.nid e).2.1],rfl⟩
   rw[ef']at e1';replace ap3:∀k,nid f' =some k→K k=none∨nid f=some k:=by rw[←ef'];exact ap3
   have sH3:Ab.Sub H K3:=fun k b hk=>adq
   have ol3:OwE 177 H K3 3 l (s.cases[i0].log.map iI):=ol.keep fun k e=>kk3 k (ol.nid e).2.1 (nl4 k e).2.2.2 (fun e1=>hap k e1 e)
   have hX5:∀y1 y2:AV,Sized 5 (xs.set i0 (.agg (cc ({s.cases[i0]with state:=o.to}:aU) y1 y2))):=fun y1 y2 z hz=>by exact ahy
   have mkO:∀ {G:Heap} {y1 y2:AV},G id1=some (.obj (au (xs.take i0)++(cc ({s.cases[i0]with state:=o.to}:aU) y1 y2++(au (xs.drop (i0+1))++rest))) 135)→Ow 135 G 5 id1 z1 (xs.set i0 (.agg (cc ({s.cases[i0]with state:=o.to}:aU) y1 y2))):=fun {G y1 y2} hG=>⟨cap,rest,ae4,by rw[hG,td hjx];simp[AV.cells],afR,aeW,hX5 _ _⟩
   have hjs:∀x:AV,i0<(xs.set i0 x).length:=fun x=>by rw[List.length_set];exact hjx
   refine .calls (pick K3 [i3,i5]) [0,1,2,3,4,5,6,7,8,9] bB acO rfl ?_;simp only[go_sem,bD (show i5∈ [i3,i5] by simp),m3,m5]
   refine(mkO e1').idx (U:=U) (e:=135) i0 rfl (hjs _) nJ acN ?_;simp only[go_sem,bD (show i3∈ [i3,i5] by simp),m3,m5]
   have hha:=sd (h0:=H) (h:=K3) (s:=s) z1 z2 z3 z4 (k:=id1) (c:=({s.cases[i0]with state:=o.to}:aU)) (f:=f') (l:=l) lA e1' acN ol3 sH3 hfl o.subj o.to
   rw[hpp,hcC]at hha;simp only[List.cons_append,List.nil_append]at hha;refine hha.mono fun r K4 ⟨l',ol',e1'',fr4,ap4⟩=>?_
   have m3' :K4 i3=_:=(fr4 i3 (by rw[m3];simp) n13.symm fun e=>(nl4 _ e).1 rfl).trans m3
   have m4' :K4 i4=_:=(fr4 i4 (by rw[m4];simp) n14.symm fun e=>(nl4 _ e).2.1 rfl).trans m4
   have m5' :K4 i5=_:=(fr4 i5 (by rw[m5];simp) n15.symm fun e=>(nl4 _ e).2.2.1 rfl).trans m5
   refine⟨iK fun k hk=>?_,?_⟩
   ·simp only[List.mem_cons,List.not_mem_nil,or_false]at hk
    rcases hk with rfl|rfl
    ·rw[m3',m3]
    ·rw[m5',m5]
   simp only[go_sem];simp only[go_sem,m5',m4'];obtain⟨K5,eK5⟩:∃K5,upd K4 i4 (some (.obj [.v (.int .i64 s.tick),z1,z2,z3,z4,.s pid,.v (.bool pset),.v (.int .i64 palg),aV ptgt,.sl (prules.map aC) .no,.sl (pkids.map aN) .no,aA pobls,.v (.int .i64 s.version)] 98))=K5:=⟨_,rfl⟩;rw[eK5];have o5:∀k,k≠i4→K5 k=K4 k:=fun k a=>by rw[←eK5,ag _ _ a]
   have kk5:∀k,H k=none→H1 k≠none→k≠id1→nid f≠some k→nid l≠some k→K5 k=H1 k:=fun k a b c d e=>by exact aiI
   have of5:OwE 189 H K5 4 f' _:=of'.keep fun id e=>by exact ag9
   have ol5:OwE 177 H K5 3 l' _:=ol'.keep fun id e=>o5 id (hz4 id (ol'.nid e).1)
   have sg4:Ab.Sub g K4:=fun k b hk=>by exact ahJ
   have sg5:Ab.Sub g K5:=by rw[←eK5];exact sg4.put h4' _
   have n1' :nid z1=some id1:=o1.nid;have hdo:doD aQ s o= {s with cases:=s.cases.modify i0 fun c=>jo s {c with state:=o.to} o.subj o.to}:=by simp[doD,p4,ej]
   refine .mk _ (.refl _) (.refl _) ⟨sg5,_,?_,fun _=>rfl⟩
   rw[hdo];have thr:∀w∈ [z1,z2,z3,z4],∀k,nid w=some k→H1 k≠none:=fun w hw k e=>by exact ahG
   refine pg rfl hpp rfl ?_ ((w2.keep fun id e=>kk5 id (w2.nid e).1 (w2.nid e).2.1 (fun e1=>a12 id1 n1' afu) (fun e1=>(hys z2 acS).1 id e1 e) (fun e1=>(hys z2 acS).2 id e1 e)).bL fun _ e=>hH.none e) ((w3.keep fun id e=>kk5 id (w3.nid e).1 (w3.nid e).2.1 (fun e1=>a13 id1 n1' afu) (fun e1=>(hys z3 acS).1 id e1 e) (fun e1=>(hys z3 acS).2 id e1 e)).bL fun _ e=>hH.none e) ((w4.keep fun id e=>kk5 id (w4.nid e).1 (w4.nid e).2.1 (fun e1=>a14 id1 n1' afu) (fun e1=>(hys z4 acS).1 id e1 e) (fun e1=>(hys z4 acS).2 id e1 e)).bL fun _ e=>hH.none e) ⟨a12,a13,a14,a23,a24,a34⟩
   refine B3 (X:=.agg (cc ({s.cases[i0]with state:=o.to}:aU) f' l')) ((show OwE 135 H K5 5 z1 _ from .inr ⟨id1,hg1,mkO ((o5 id1 n14).trans e1'')⟩).bL (fun _ e=>hH.none e)) hnx (fun k h1 h2 hk=>hlo k h1 h2 hk) fun hh=>⟨f',l',rfl,of5.bL (fun _ e=>hH.none e),ol5.bL (fun _ e=>hH.none e),fun k e1 e2=>?_,fun w hw=>⟨fun k e1 e2=>?_,fun k e1 e2=>?_⟩⟩
   ·rcases ap4 k e2 with h|h
    ·exact(of'.nid e1).2.1 h
    ·rcases ap3 k e1 with h' |h'
     ·exact(ol.nid h).2.1 (sK.none h')
     ·exact hap k h' h
   ·rcases ap3 k e1 with h|h
    ·exact thr w hw k e2 (sK.none h)
    ·exact(hys w hw).1 k h e2
   ·rcases ap4 k e1 with h|h
    ·by_cases h1:k=id1
     ·subst h1;rw[e1']at h;cases h
     ·have:=kk3 k (thr w hw k e2) h1 (fun e=>(hys w hw).1 k e e2)
      rw[h]at this;exact thr w hw k e2 this.symm
    ·exact(hys w hw).2 k h e2
  have k4' :(o.kind==4)=false:=by simp[p4]
  simp only[go_sem,k4'];have kkK:∀k,H k=none→H1 k≠none→K k=H1 k:=fun k _ b=>kK k b
  by_cases p5:o.kind=5
  ·have k5' :(o.kind==5)=true:=by simp[p5]
   simp only[go_sem,k5'];have hrv:0<o.review:=by simp only[dD,dI,Bool.and_eq_true]at hform;simpa[okD,p5]using hform.2.1.2
   obtain⟨n,en⟩:∃n:Nat,o.review=((n:Nat):Int)+1:=⟨(o.review - 1).toNat,acK⟩;have w5:IntKind.i64.wrap (o.review - 1)=((n:Nat):Int):=by rw[aY _ (by have:=hr.2;omega)];omega
   have hn5:n<s.reviews.length:=by
    have:fU s o=0:=by simpa[bM,hform,p5]using p0
    unfold fU at this;have e1:vQ s.reviews o.review=s.reviews[n]? :=by unfold vQ;rw[if_pos acK,show(o.review - 1).toNat=n by omega]
    rw[e1]at this
    by_cases hlt:n<s.reviews.length
    ·exact hlt
    ·rw[List.getElem?_eq_none acK]at this;cases this
   have hnm:n<(s.reviews.map iM).length:=by simpa using hn5
   obtain⟨id2,hg2,o2⟩:=w2.ow (by intro e;rw[e]at hnm;cases hnm)
   have o2' :=o2;obtain⟨cap,rest,ey,hid,hrl,hcap,hsz⟩:=o2';have n24:id2≠i4:=hz4 id2 hg2;have n25:id2≠i5:=hz5 id2 hg2 o2.none;have hidK:=sK _ _ hid;simp only[go_sem,k5,k3,w5];refine(o2.sub sK).idx (U:=U) (e:=170) n rfl hnm acT acN ?_;simp only[go_sem,hidK];have e2:List.take (n*7+6) (au (s.reviews.map iM)++rest)++ [.v (.bool false)]++List.drop (n*7+6+1) (au (s.reviews.map iM)++rest)=au ((s.reviews.modify n fun r=> {r with isOpen:=false}).map iM)++rest:=by
    refine(lE hsz n hnm 6 [.v (.bool false)] (acz rfl)).trans ?_
    congr 2
    refine List.ext_getElem acS fun j h1 h2=>?_
    by_cases e:j=n
    ·subst e;simp[iM,AV.cells,Ab.over]
    ·rw[List.getElem_set_ne (Ne.symm e)];simp[Ne.symm e]
   rw[e2];refine⟨by rw[acE,bg hsz];omega,?_⟩
   have k5b:∀b,upd K id2 b i5=_:=fun b=>(ag _ _ n25.symm).trans k5
   have k4b:∀b,upd K id2 b i4=_:=fun b=>(ag _ _ n24.symm).trans k4
   simp only[go_sem,k5b,k4b];have hdo:doD aQ s o= {s with reviews:=s.reviews.modify n fun r=> {r with isOpen:=false}}:=by simp[doD,p5,en]
   have kz:∀a b k,H k=none→H1 k≠none→nid z2≠some k→upd (upd K id2 a) i4 b k=H1 k:=fun a b k c d e=>by rw[ag _ _ (hz4 k c),ag _ _ (fun e' =>e (by rw[e'];exact o2.nid)),kK k d]
   refine .mk _ (.refl _) (.refl _) ⟨(Sub.put (i:=id2) sg (hH.none hg2) _).put h4' _,_,?_,fun _=>hi0⟩
   rw[hdo];exact pg rfl hpp rfl ((hC.keepx (z:=z2) acS a12 (kz _ _)).bL (fun _ e=>hH.none e)) (.inr ⟨id2,hH.none hg2,cap,rest,by rw[ey];simp,by rw[ag _ _ n24,ah],by rw[hrl];simp,by simpa using hcap,bx (f:=iM) (n:=7) (fun _=>rfl) _⟩) ((w3.keep fun id e=>kz _ _ id (w3.nid e).1 (w3.nid e).2.1 fun e1=>a23 id e1 e).bL fun _ e=>hH.none e) ((w4.keep fun id e=>kz _ _ id (w4.nid e).1 (w4.nid e).2.1 fun e1=>a24 id e1 e).bL fun _ e=>hH.none e) ⟨a12,a13,a14,a23,a24,a34⟩
  have k5' :(o.kind==5)=false:=by simp[p5]
  simp only[go_sem,k5']
  by_cases p6:o.kind=6
  ·have k6' :(o.kind==6)=true:=by simp[p6]
   simp only[go_sem,k6'];simp only[go_sem,k5,k3];have hha6:=Fl hSK.rd o.case o.field (Nat.le_trans hf.roles acN);rw[hpp,hcC]at hha6;simp only[List.cons_append,List.nil_append]at hha6;refine hha6.pthen ?_;cases dha:xY s.roles ⟨o.case,o.field⟩
   ·simp only[go_sem]
    simp only[go_sem,k5,k3];have hap1:Rd K 2 (.sl [eL ⟨o.case,o.field⟩] .full) [eL ⟨o.case,o.field⟩]:=.sl adv .full;have hfr:=hf.roles;refine OwE.app (U:=U) (tb:=161) (w4.sub sK) (s1.trans sK) hap1 acT acN acP acT acS adi fun id4 y' K3 g4' hor hw ho2=>?_
    have hor' :K id4=none∨nid z4=some id4:=by exact ahp
    have n44:i4≠id4:=fun e=>by rw[←e,g4]at g4';cases g4'
    have n45:i5≠id4:=fun e=>by
     rcases hor' with hor|hor
     ·rw[←e,k5]at hor;cases hor
     ·exact(w4.nid hor).2.1 (by rw[←e];exact h5)
    have m4:K3 i4=_:=(ho2 i4 n44).trans k4;have m5:K3 i5=_:=(ho2 i5 n45).trans k5;simp only[go_sem,m5,hw.rd.fit,hw.rd.cells];simp only[go_sem,ak,n54,m4];have hdo:doD aQ s o= {s with roles:=s.roles++ [⟨o.case,o.field⟩]}:=by simp[doD,p6,dha]
    have gid4:g id4=none:=hH.none g4';have kz:∀a b k,H k=none→H1 k≠none→nid z4≠some k→upd (upd K3 i5 a) i4 b k=H1 k:=fun a b k c d e=>by
     have:k≠id4:=fun e' =>by
      rcases hor' with hor|hor
      ·have:=kK k d;rw[e',hor]at this;exact d (by rw[e'];exact this.symm)
      ·exact e (by rw[e'];exact hor)
     rw[ag _ _ (hz4 k c),ag _ _ (hz5 k c d),ho2 k this,kK k d]
    have sg3:Ab.Sub g K3:=fun k b hk=>by rw[ho2 k (fun e=>by rw[e,gid4]at hk;cases hk)];exact sg _ _ hk
    refine .mk _ (.refl _) (.refl _) ⟨(sg3.put g5 _).put h4' _,_,?_,fun _=>hi0⟩
    rw[hdo];have hw' :OwE 161 g K3 2 y' ((s.roles++ [(⟨o.case,o.field⟩:jL)]).map eL):=by rw[List.map_append];exact .inr ⟨id4,gid4,hw⟩
    have hry:∀k,nid y' =some k→H1 k=none∨nid z4=some k:=fun k e=>by
     have:id4=k:=by have:=hw.nid;rw[e]at this;exact(Option.some.inj this).symm
     subst this;exact hor'.imp (fun h=>sK.none h) id
    have har:∀ {w:AV},apart w z4→(∀k,nid w=some k→H1 k≠none)→apart w y' :=fun ha hh k e1 e2=>(hry k e2).elim (fun h=>hh k e1 h) (fun h=>ha k e1 h)
    refine pg rfl hpp rfl ((hC.move (z:=z4) acS a14 (kz _ _) fun w hw k e=>?_).bL (fun _ e=>hH.none e)) ((w2.keep fun id e=>kz _ _ id (w2.nid e).1 (w2.nid e).2.1 fun e1=>a24 id e e1).bL fun _ e=>hH.none e) ((w3.keep fun id e=>kz _ _ id (w3.nid e).1 (w3.nid e).2.1 fun e1=>a34 id e e1).bL fun _ e=>hH.none e) (hw'.keep fun id e=>?_) ⟨a12,a13,har a14 fun k e=>(w1.nid e).2.1,a23,har a24 fun k e=>(w2.nid e).2.1,har a34 fun k e=>(w3.nid e).2.1⟩
    ·simp only[List.mem_cons,List.not_mem_nil,or_false]at hw
     rcases hw with rfl|rfl|rfl|rfl
     ·exact .inr ⟨w,acS,e⟩
     ·exact .inr ⟨w,acS,e⟩
     ·exact .inr ⟨w,acS,e⟩
     ·exact(hry k e).imp id fun h=>⟨z4,acS,h⟩
    ·have:id=id4:=by have:=hw.nid;rw[e]at this;exact Option.some.inj this
     rw[this,ag _ _ n44.symm,ag _ _ n45.symm]
   ·simp only[go_sem]
    simp only[go_sem,k5,k4];have hdo:doD aQ s o=s:=by simp[doD,p6,dha]
    rw[hdo];refine .mk _ (.refl _) (.refl _) ⟨sg.put h4' _,_,(hS.keepb fun k hk hk1=>?_).bL fun _ e=>hH.none e,fun _=>hi0⟩
    rw[ag _ _ (hz4 k hk),kK k hk1]
  have k6' :(o.kind==6)=false:=by simp[p6]
  simp only[go_sem,k6']
  by_cases p7:o.kind=7
  ·have k7' :(o.kind==7)=true:=by simp[p7]
   simp only[go_sem,k7'];simp only[go_sem,k3];refine(yJ o.text _ (he.sub sg)).pthen ?_;obtain⟨⟨pp,e,a⟩,epp⟩:∃x,aQ o.text=x:=⟨_,rfl⟩;obtain⟨qid,qset,qalg,qtgt,qrules,qkids,qobls⟩:=pp;rw[epp];simp only[go_sem,jY,aN,bf];intro i9 h9;have n95:i5≠i9:=fun e=>by rw[←e,k5]at h9;cases h9
   have n94:i4≠i9:=fun e=>by rw[←e,k4]at h9;cases h9
   simp only[go_sem];have g9:g i9=none:=sg.none h9;have sg9:∀b,Ab.Sub g (upd K i9 b):=fun b=>sg.put g9 b
   have hz9:∀k,H1 k≠none→k≠i9:=fun k hk e=>hk (by have:=kK k hk;rw[e,h9]at this;rw[e];exact this.symm)
   by_cases pe:e=0
   ·have de:(e==0)=true:=by simp[pe]
    have wv:IntKind.i64.wrap (s.version+1)=s.version+1:=aY _ acK;simp only[go_sem,de];simp only[go_sem,ak,n95,n94,n54,k5,k4,wv];have hdo:doD aQ s o= {s with policy:=.mk qid qset qalg qtgt qrules qkids qobls,version:=s.version+1}:=by simp[doD,p7,epp,pe]
    have kz:∀a b c k,H k=none→H1 k≠none→upd (upd (upd K i9 a) i5 b) i4 c k=H1 k:=fun a b c k d e=>by rw[ag _ _ (hz4 k d),ag _ _ (hz5 k d e),ag _ _ (hz9 k e),kK k e]
    refine .mk _ (.refl _) (.refl _) ⟨((sg9 _).put g5 _).put h4' _,_,?_,fun _=>hi0⟩
    rw[hdo];exact pg rfl rfl rfl ((hC.keepb (kz _ _ _)).bL (fun _ e=>hH.none e)) ((w2.keepb (kz _ _ _)).bL (fun _ e=>hH.none e)) ((w3.keepb (kz _ _ _)).bL (fun _ e=>hH.none e)) ((w4.keepb (kz _ _ _)).bL (fun _ e=>hH.none e)) ⟨a12,a13,a14,a23,a24,a34⟩
   ·have de:(e==0)=false:=by simp[pe]
    simp only[go_sem,de];simp only[go_sem,ak,n95,n94,k5,k4];have hdo:doD aQ s o=s:=by simp[doD,p7,epp,pe]
    rw[hdo];refine .mk _ (.refl _) (.refl _) ⟨(sg9 _).put h4' _,_,(hS.keepb fun k hk hk1=>?_).bL fun _ e=>hH.none e,fun _=>hi0⟩
    rw[ag _ _ (hz4 k hk),ag _ _ (hz9 k hk1),kK k hk1]
  have k7' :(o.kind==7)=false:=by simp[p7]
  simp only[go_sem,k7']
  by_cases p8:o.kind=8
  ·have k8' :(o.kind==8)=true:=by simp[p8]
   simp only[go_sem,k8'];have hrv:0<o.review∧o.review≤1099511627776:=by simp only[dD,dI,Bool.and_eq_true]at hform;simpa[okD,p8]using hform.2.1.2
   have htk:¬s.tick>1099511627776 - o.review:=by intro hgt;simp[bM,hform,p8,hgt]at p0
   have w8:IntKind.i64.wrap (s.tick+o.review)=s.tick+o.review:=aY _ (by have:=ht.1;omega)
   simp only[go_sem,k5,k3,w8];simp only[go_sem,ak,n54,k4];have hdo:doD aQ s o= {s with tick:=s.tick+o.review}:=by simp[doD,p8]
   have kz:∀a b k,H k=none→H1 k≠none→upd (upd K i5 a) i4 b k=H1 k:=fun a b k c d=>by rw[ag _ _ (hz4 k c),ag _ _ (hz5 k c d),kK k d]
   refine .mk _ (.refl _) (.refl _) ⟨(sg.put g5 _).put h4' _,_,?_,fun _=>hi0⟩
   rw[hdo];exact pg rfl hpp rfl ((hC.keepb (kz _ _)).bL (fun _ e=>hH.none e)) ((w2.keepb (kz _ _)).bL (fun _ e=>hH.none e)) ((w3.keepb (kz _ _)).bL (fun _ e=>hH.none e)) ((w4.keepb (kz _ _)).bL (fun _ e=>hH.none e)) ⟨a12,a13,a14,a23,a24,a34⟩
  have k8' :(o.kind==8)=false:=by simp[p8]
  simp only[go_sem,k8'];simp only[go_sem,k5,k4];have hdo:doD aQ s o=s:=by simp[doD,p1,p3,p4,p5,p6,p7,p8]
  rw[hdo];refine .mk _ (.refl _) (.refl _) ⟨sg.put h4' _,_,(hS.keepb fun k hk hk1=>?_).bL fun _ e=>hH.none e,fun _=>hi0⟩
  rw[ag _ _ (hz4 k hk),kK k hk1]
 ·have d0:(bM s o !=0)=true:=by simp[p0]
  simp only[go_sem,d0];simp only[go_sem,k5,k4];have hdone:dU aQ s o=s:=by simp[dU,p0]
  rw[hdone];refine .mk _ (.refl _) (.refl _) ⟨sg.put h4' _,_,(hS.keepb fun k hk hk1=>?_).bL fun _ e=>hH.none e,fun h=>(p0 h).elim⟩
  rw[ag _ _ (hz4 k hk),kK k hk1]
end Go.Proofs.YteaaeelhjnhaaaaGreatDoor
namespace Go.Bf
def Li:Txt:=[112,111,108,105,99,121,32,111,112,101,110,32,112,101,114,109,105,116,117,110,108,101,115,115,32,123,32,125]
def lS:bV:=.mk jB false 6 [] [] [] []
def wB:aq:=⟨0,[],[],[],[],lS,0⟩
end Go.Bf
namespace Go.Proofs.YteaaeelhjnhaaaaGreatDoor
open Go Go.Ab Go.Bf Tryz
variable {g K H h G:Heap}{S s:aq}{pid subj:Txt}{x:AV}{ys:List AV}{gs:List br}{l:List jL}
theorem NH{y1 y2 y3 y4:AV}{tk ver palg:Int}{pset:Bool}{ptgt:kr}{prules:List fy}{pkids:List bV}{pobls:List dN}(h1:S.tick=tk)(h2:S.policy= .mk pid pset palg ptgt prules pkids pobls)(h3:S.version=ver)
  (a:Frz g K y1 (gh S.cases)) (b:Frz g K y2 (kj S.reviews)) (c:Frz g K y3 (lC S.notices)) (d:Frz g K y4 (dY S.roles)):
  Frz g K (.agg [.i tk,y1,y2,y3,y4,.s pid,.b pset,.i palg,aV ptgt,.sl (prules.map aC) .no,.sl (pkids.map aN) .no,aA pobls,.i ver]) (cN S):=by
 have:=uz a b c d;rw[h1,h2,h3,show fZ (.mk pid pset palg ptgt prules pkids pobls)= [.s pid,.b pset,.i palg,aV ptgt,.sl (prules.map aC) .no,.sl (pkids.map aN) .no,aA pobls] by simp[fZ,bf]]at this
 exact adr
theorem JN{i j:Nat}{a b:Option Blk}(c:Option Blk)(h:i≠j):upd (upd (upd H i a) j b) i c=upd (upd H i c) j b:=by grind [ah,ag]
theorem Lj:aQ Li=(lS,0,0):=acY
theorem Rl(h:Heap)(he:l8 h):ai prog 57 [] h fun r h' =>r=cN wB∧h' =h:=
 ai.freeze fun g hg _=>by
 replace he:=he.sub hg;refine acJ func57 11 [.cell 0 98] fun hwf=>?_
 simp only[go_sem];intro i1 h1;simp only[go_sem];refine(yJ Li _ (he.sub (.aj h1))).pthen ?_;rw[Lj];simp only[go_sem,jY,lS,aN,aV,aA,fH,jB,List.map_nil];intro i2 h2;have n21:=aH h2;have n2:=aB h2;simp only[go_sem,ak,n21.symm];refine .mk _ (.refl _) (.refl _) ⟨?_,cN wB,NH (S:=wB) rfl rfl rfl mq mq mq mq,rfl⟩;rw[JN _ n21.symm];exact((Sub.refl g).put h1 _).put n2 _
theorem rP(s:Txt)(h:Heap):ai prog 101 [.s s] h fun r h' =>r=aP (idV s)∧h' =h:=by
 refine acJ func101 5 [.cell 2 23] fun hwf=>?_
 exact ahe
theorem dQ(cat:Int)(name:Txt)(xs:List AV)(q:Perm)(h:Heap):ai prog 102 [.i cat,.s name,.sl xs q] h fun r h' =>r= .agg [.i cat,.s name,.sl xs q]∧h' =h:=by
 refine acJ func102 11 [.cell 6 164] fun hwf=>?_
 exact ahe
theorem K6{α:Type}(y:AV)(xs:List AV)(ds:List α)(q:α→Bool)(g:FuncId)(cap:List AV)(h:Heap)(hb:Rd h 3 y xs)(hn:xs.length=ds.length)(hl:xs.length≤1000000000)(hx:∀x∈xs,bC x=true)
  (hp:∀i (h1:i<xs.length) (h2:i<ds.length),ai prog g (xs[i]::cap) h fun r h' =>r= .b (q ds[i])∧h' =h):
  ai prog 205 [y,.fn g cap] h fun r h' =>r= .i (ixD q ds)∧h' =h:=by
 refine acJ func205 19 [.tmp 4] fun hwf=>?_
 simp only[go_sem,hb.len];refine .intro (fun m ρ h' =>h' =h∧∃i:Nat,i≤xs.length∧m=xs.length - i∧(∀j (hj:j<i) (h2:j<ds.length),q ds[j]=false)∧lk ρ 0=some y∧lk ρ 1=some (.fn g cap)∧lk ρ 7=some (.i xs.length)∧lk ρ 8=some (.i i)) xs.length ?_ ?_
 ·refine⟨rfl,0,acK,rfl,fun j hj=>acK,?_,?_,?_,?_⟩<;>simp only[go_sem]
 ·rintro m ρ h' ⟨rfl,i,hi,rfl,hc,r0,r1,r7,r8⟩
  simp only[go_sem,r7,r8];refine .intro (fun e=>?_) (fun e=>?_)
  ·have hlt:i<xs.length:=acH e
   have hlt2:i<ds.length:=acK;have w1:IntKind.i64.wrap ((i:Int)+1)=((i+1:Nat):Int):=acX;simp only[go_sem,r0,r1,r8];refine hb.idx (e:=177) i rfl hlt acY acN fun p hp1=>?_
   have hld:=hp1.all (U:=U) (ty:=177) acN adD aez;simp only[go_sem,hld];refine(show ai prog g (xs[i]::cap) _ _ from hp i hlt hlt2).pthen ?_
   cases d1:q ds[i]
   ·simp only[go_sem,r8,w1]
    refine⟨_,?_,rfl,i+1,acK,rfl,fun j hj h2=>?_,?_,?_,?_,?_⟩
    ·omega
    ·grind
    all_goals simp only[go_sem,r0,r1,r7]
   ·simp only[go_sem]
    exact .same (.refl _) ⟨ads,rfl⟩
  ·have hge:i=xs.length:=by grind
   simp only[go_sem];exact .same (.refl _) ⟨adg,rfl⟩
theorem Mv(x:xd){k:Nat}(hk:h k=some (.obj [.s subj] 9)):ai prog 175 [iI x,.ptr k 0] h fun r h' =>r= .b (x.actor==subj)∧h' =h:=by
 refine acJ func175 8 [.tmp 3] fun hwf=>?_
 simp only[go_sem,iI];exact ag6
theorem um{α:Type}(q:α→Bool)(l:List α):decide ((0:Int)≤ixD q l)=l.any q:=by
 unfold ixD
 grind
theorem IQ(y:AV)(ds:List xd)(q:xd→Bool)(g:FuncId)(cap:List AV)(h:Heap)(hb:Rd h 3 y (ds.map iI))(hl:ds.length≤1000000000)
  (hp:∀i (h2:i<ds.length),ai prog g (iI ds[i]::cap) h fun r h' =>r= .b (q ds[i])∧h' =h):
  ai prog 174 [y,.fn g cap] h fun r h' =>r= .b (ds.any q)∧h' =h:=by
 refine acJ func174 9 [.tmp 4] fun hwf=>?_
 simp only[go_sem];refine(K6 y _ ds q g cap h hb acS acL (oL (fun _=>rfl) _) fun i a b=>by rw[acB];exact hp i b).pthen ?_
 simp only[go_sem,um];exact acW
theorem OG{c:aU}(hb:RdC h x c)(subj:Txt)(hl:c.log.length≤1000000000):ai prog 142 [x,.s subj] h fun r h' =>r=aP (ud c.log subj)∧h' =h:=by
 obtain⟨f,l,rfl,hf,hlg⟩:=hb;refine acJ func142 13 [.cell 4 23] fun hwf=>?_
 simp only[go_sem];intro i1 h1;simp only[go_sem];intro i2 h2;have n21:=aH h2;have n2:=aB h2;simp only[go_sem];intro i3 h3;have h3' :=aB h3;have n31:=aH h3';have n3:=aB h3';simp only[go_sem];intro i4 h4;have n43:=aH h4;have h4' :=aB h4;have h4'' :=aB h4';have n41:=aH h4'';have n4:=aB h4'';have hs:∀a b d e,Ab.Sub h (upd (upd (upd (upd h i1 a) i2 b) i3 d) i4 e):=fun a b d e=>((((Sub.refl h).put h1 a).put n2 b).put n3 d).put n4 e
 simp only[go_sem,ak,n21.symm,n31.symm,n41.symm];refine(IQ l c.log (fun x=>x.actor==subj) _ [.ptr i2 0] _ (hlg.sub (hs _ _ _ _)) hl fun i b=>Mv _ (by grind [ak,gp,not_false_eq_true])).pthen ?_
 cases d1:c.log.any fun x=>x.actor==subj
 ·exact ahY
 ·exact ahY
def zF(g:br)(q:Perm):AV:=.agg [.i g.cat,.s g.name,.sl (g.bag.map aP) q]
def GRow(ys:List AV)(gs:List br):Prop:=ys.length=gs.length∧∀j (h1:j<ys.length) (h2:j<gs.length),∃q,ys[j]=zF gs[j] q
theorem GRow.sized(h:GRow ys gs):Sized 3 ys:=fun z hz=>by
 obtain⟨i,hi,rfl⟩:=List.mem_iff_getElem.1 hz;obtain⟨q,e⟩:=h.2 i hi (by rw[←h.1];omega)
 rw[e];rfl
theorem GRow.one(g:br)(q:Perm):GRow [zF g q] [g]:=⟨rfl,fun j h1 h2=>by grind⟩
theorem GRow.app{zs:List AV}{ks:List br}(h:GRow ys gs)(k:GRow zs ks):GRow (ys++zs) (gs++ks):=⟨by simp[h.1,k.1],fun j h1 h2=>by
 have hl:=h.1
 by_cases e:j<ys.length
 ·rw[List.getElem_append_left e,List.getElem_append_left acK];exact h.2 j e acK
 ·rw[List.getElem_append_right acK,List.getElem_append_right acK]
  simp only[acE]at h1 h2;obtain⟨q,e'⟩:=k.2 (j - ys.length) acK acK;exact⟨q,acL⟩⟩
theorem GRow.weak(h:GRow ys gs)(q:Perm):Weak (.sl ys q) (bJ gs):=by
 refine .deep _ _ q (by simp[h.1]) (fun k h1 h2=>?_) fun k h1 h2 j h3 h4=>?_
 ·obtain⟨q',e'⟩:=h.2 k h1 acL
  rw[e',acB];rfl
 ·obtain⟨q',e'⟩:=h.2 k h1 acL
  simp only[e',acB];simp only[e',zF,AV.cells]at h3;rcases j with _|_|_|j
  ·exact ad4
  ·exact ad4
  ·exact afp
  ·simp at h3;omega
theorem GRow.givs(gs:List br):GRow (gs.map lf) gs:=⟨acS,fun j h1 h2=>⟨.no,acZ⟩⟩
theorem cu:(U 164).sz=3:=acY
theorem fO(g:br)(q:Perm):Sized 3 [zF g q]:=fun z hz=>afD
def se(c:aU)(subj:Txt):List br:=[⟨3,idT,[idV c.id]⟩,⟨3,[111,119,110,101,114],[idV c.owner]⟩,⟨3,[115,116,97,116,101],[idV c.state]⟩,⟨3,[101,118,101,110,116,115],[⟨2,c.log.length,[]⟩]⟩,⟨3,[116,111,111,107],[ud c.log subj]⟩]
def sj(c:aU):List br:=match c.log.getLast? with
 |some x=>[⟨3,[108,97,115,116],[idV x.actor]⟩]
 |none=>[]
def fQ(l:List fq):List br:=(l.filter fun f=>decide (f.name.length≤14)).map fun f=>⟨3,[102,95]++f.name,[f.val]⟩
theorem mc(l:List fq)(i:Nat)(h:i<l.length):fQ (l.take (i+1))=fQ (l.take i)++(if l[i].name.length≤14 then [⟨3,[102,95]++l[i].name,[l[i].val]⟩]else []):=by grind [fQ,List.take_succ_eq_append_getElem]
theorem qi(c:aU)(subj:Txt):cD c subj=se c subj++sj c++fQ c.fields:=rfl
theorem EG(c:aU)(subj:Txt)(hl:c.log.length≤1000000)(hlf:c.fields.length≤1000000):ai prog 104 [ct c,.s subj] h fun r h' =>r=bJ (cD c subj)∧h' =h:=by
 refine acJ func104 77 [.tmp 4] fun hwf=>?_
 simp only[go_sem,ct,mZ,gz,so];intro i1 h1;simp only[go_sem];refine .quiet acO ?_;simp only[go_sem];refine⟨_,rP _ _,?_⟩;simp only[go_sem,aP,idV];refine⟨_,dQ _ _ _ _ _,?_⟩;simp only[go_sem];refine⟨_,rP _ _,?_⟩;simp only[go_sem,aP,idV];refine⟨_,dQ _ _ _ _ _,?_⟩;simp only[go_sem];refine⟨_,rP _ _,?_⟩;simp only[go_sem,aP,idV];refine⟨_,dQ _ _ _ _ _,?_⟩;simp only[go_sem];refine⟨_,dQ _ _ _ _ _,?_⟩;simp only[go_sem];refine⟨_,OG (show RdC _ (.agg [.s c.id,.s c.owner,.s c.state,.sl (c.fields.map bO) .no,.sl (c.log.map iI) .no]) c from rdC _ c) subj acK,?_⟩
 simp only[go_sem,aP];refine⟨_,dQ _ _ _ _ _,?_⟩;simp only[go_sem,acA];have hs1:∀b,Ab.Sub h (upd h i1 b):=fun b=>(Sub.refl h).put h1 b
 have hrow5:GRow [.agg [.i 3,.s [105,100],.sl [.agg [.i 5,.i 0,.s c.id]] .full],.agg [.i 3,.s [111,119,110,101,114],.sl [.agg [.i 5,.i 0,.s c.owner]] .full],.agg [.i 3,.s [115,116,97,116,101],.sl [.agg [.i 5,.i 0,.s c.state]] .full],.agg [.i 3,.s [101,118,101,110,116,115],.sl [.agg [.i 2,.i c.log.length,.s []]] .full],.agg [.i 3,.s [116,111,111,107],.sl [aP (ud c.log subj)] .full]] (se c subj):=(GRow.one ⟨3,idT,[idV c.id]⟩ .full).app ((GRow.one ⟨3,[111,119,110,101,114],[idV c.owner]⟩ .full).app ((GRow.one ⟨3,[115,116,97,116,101],[idV c.state]⟩ .full).app ((GRow.one ⟨3,[101,118,101,110,116,115],[⟨2,c.log.length,[]⟩]⟩ .full).app (GRow.one ⟨3,[116,111,111,107],[ud c.log subj]⟩ .full))));simp only[aP]at hrow5;cases d1:decide ((0:Int)<(c.log.length:Int))
 ·have hl0:c.log= []:=List.length_eq_zero_iff.1 acL
  simp only[go_sem];simp only[go_sem,acA];refine .intro (fun m ρ H=>∃(i:Nat) (y:AV) (ys:List AV),Acc U 164 h H y ys∧H i1=some (.obj [.s c.id,.s c.owner,.s c.state,.sl (c.fields.map bO) .no,.sl (c.log.map iI) .no] 135)∧GRow ys (se c subj++fQ (c.fields.take i))∧i≤c.fields.length∧m=c.fields.length - i∧lk ρ 5=some y∧lk ρ 2=some (.ptr i1 0)∧lk ρ 55=some (.sl (c.fields.map bO) .no)∧lk ρ 56=some (.i c.fields.length)∧lk ρ 57=some (.i i)) c.fields.length ?_ ?_
  ·refine⟨0,_,_,.full (hs1 _),ah ..,(by have:=hrow5;simpa[fQ]using this),acK,rfl,?_,?_,?_,?_,?_⟩<;>simp only[go_sem]
  ·rintro m ρ H ⟨i,y,ys,hy,g1,hrow,hi,rfl,r5,r2,r55,r56,r57⟩
   simp only[go_sem,r56,r57];refine .intro (fun e=>?_) (fun e=>?_)
   ·have hlt:i<c.fields.length:=acH e
    have w1:IntKind.i64.wrap ((i:Int)+1)=((i+1:Nat):Int):=acX;simp only[go_sem,r55,r57];refine .at i acL acZ ?_;simp only[go_sem,acB,bO];intro i8 h8;have n81:i1≠i8:=fun e=>acL
    simp only[go_sem];cases d2:decide ((c.fields[i].name.length:Int)≤14)
    ·exact ag8
    ·simp only[go_sem,r5]
     have h14:c.fields[i].name.length≤14:=acL;refine⟨by grind [Nat,lim],?_⟩
     refine(dQ _ _ _ _ _).pthen ?_;simp only[go_sem];refine(hy.sub (.aj h8)).app (zs:=[zF ⟨3,[102,95]++c.fields[i].name,[c.fields[i].val]⟩ .full]) acN acN (fun k hk=>(Rd.sl (fO _ _) .full:Rd _ 3 _ _).src cu hk) (by rw[cu];exact hrow.sized) (by grind [cu,fO]) (by have hln:(fQ (c.fields.take i)).length≤i:=aeS;simp only[go_sem,hrow.1,List.length_cons,List.length_nil,se];omega) fun y' H' hy' kp=>?_
     exact ahx
   ·have hge:i=c.fields.length:=by grind
    subst hge;rw[List.take_length]at hrow;obtain⟨q,rfl⟩:=hy.row;simp only[go_sem,r5];exact .mk (bJ (cD c subj)) (show Weak (.sl ys q) _ by rw[qi,sj,hl0];simpa using hrow.weak q) hy.1 ⟨rfl,rfl⟩
 ·have hl1:0<c.log.length:=by grind
  simp only[go_sem];have w0:IntKind.i64.wrap ((c.log.length:Int) - 1)=((c.log.length - 1:Nat):Int):=acX;simp only[go_sem,w0];refine .at (c.log.length - 1) acL acZ ?_;simp only[go_sem,acB,iI];rw[if_neg (fun hh=>hh.1)]
  refine(rP _ _).pthen ?_;simp only[go_sem,aP,idV];refine(dQ _ _ _ _ _).pthen ?_;simp only[go_sem];have hgl:c.log.getLast? =some c.log[c.log.length - 1]:=acL;have hlast:GRow [.agg [.i 3,.s [108,97,115,116],.sl [.agg [.i 5,.i 0,.s c.log[c.log.length - 1].actor]] .full]] (sj c):=by unfold sj;rw[hgl];exact GRow.one ⟨3,[108,97,115,116],[idV c.log[c.log.length - 1].actor]⟩ .full
  refine .accs (hs1 _) fun y0 H0 hy0 kp0=>?_
  simp only[go_sem,kp0 _ _ _ (ah ..),acA];refine .intro (fun m ρ H=>∃(i:Nat) (y:AV) (ys:List AV),Acc U 164 h H y ys∧H i1=some (.obj [.s c.id,.s c.owner,.s c.state,.sl (c.fields.map bO) .no,.sl (c.log.map iI) .no] 135)∧GRow ys ((se c subj++sj c)++fQ (c.fields.take i))∧i≤c.fields.length∧m=c.fields.length - i∧lk ρ 5=some y∧lk ρ 2=some (.ptr i1 0)∧lk ρ 55=some (.sl (c.fields.map bO) .no)∧lk ρ 56=some (.i c.fields.length)∧lk ρ 57=some (.i i)) c.fields.length ?_ ?_
  ·refine⟨0,_,_,hy0,kp0 _ _ _ (ah ..),(by have:=hrow5.app hlast;simpa[fQ]using this),acK,rfl,?_,?_,?_,?_,?_⟩<;>simp only[go_sem]
  ·rintro m ρ H ⟨i,y,ys,hy,g1,hrow,hi,rfl,r5,r2,r55,r56,r57⟩
   simp only[go_sem,r56,r57];refine .intro (fun e=>?_) (fun e=>?_)
   ·have hlt:i<c.fields.length:=acH e
    have w1:IntKind.i64.wrap ((i:Int)+1)=((i+1:Nat):Int):=acX;simp only[go_sem,r55,r57];refine .at i acL acZ ?_;simp only[go_sem,acB,bO];intro i8 h8;have n81:i1≠i8:=fun e=>acL
    simp only[go_sem];cases d2:decide ((c.fields[i].name.length:Int)≤14)
    ·exact ag8
    ·simp only[go_sem,r5]
     have h14:c.fields[i].name.length≤14:=acL;refine⟨by grind [Nat,lim],?_⟩
     refine(dQ _ _ _ _ _).pthen ?_;simp only[go_sem];refine(hy.sub (.aj h8)).app (zs:=[zF ⟨3,[102,95]++c.fields[i].name,[c.fields[i].val]⟩ .full]) acN acN (fun k hk=>(Rd.sl (fO _ _) .full:Rd _ 3 _ _).src cu hk) (by rw[cu];exact hrow.sized) (by grind [cu,fO]) (by have hln:(fQ (c.fields.take i)).length≤i:=aeS;simp only[go_sem,hrow.1,List.length_cons,List.length_nil,se,sj,hgl];omega) fun y' H' hy' kp=>?_
     exact ahx
   ·have hge:i=c.fields.length:=by grind
    subst hge;rw[List.take_length]at hrow;obtain⟨q,rfl⟩:=hy.row;simp only[go_sem,r5];exact .mk (bJ (cD c subj)) (show Weak (.sl ys q) _ by rw[qi];exact hrow.weak q) hy.1 ⟨rfl,rfl⟩
theorem D6{i:Nat}(h:i<l.length)(h1:l[i].subj=subj)(h2:(cX (l.take i) subj).length<16):cX (l.take (i+1)) subj=cX (l.take i) subj++ [idV l[i].role]:=by
 unfold cX at h2⊢;rw[List.take_succ_eq_append_getElem h,List.filter_append,List.map_append]
 grind [List.length_take,idV,List.take_append,List.take_of_length_le]
theorem za{i:Nat}(h:i<l.length)(h1:l[i].subj≠subj∨¬(cX (l.take i) subj).length<16):cX (l.take (i+1)) subj=cX (l.take i) subj:=by grind [cX,List.take_succ_eq_append_getElem,List.take_append,List.length_take]
theorem FQ(l:List jL)(subj:Txt):(cX l subj).length≤16:=by grind [cX,List.length_take]
def cP(s:aq)(o:OpD):List br:=[⟨1,idT,[idV o.subj]⟩,⟨1,[114,111,108,101],cX s.roles o.subj⟩,⟨2,[110,97,109,101],[idV (jM o.kind)]⟩]
theorem xO(hf:Few s)(id:Txt):(bz s.cases id).log.length≤1000000∧(bz s.cases id).fields.length≤1000000:=by
 cases e:bY s.cases id
 ·rw[CA e];decide
 ·rw[Cz e];exact⟨hf.log _ acS,hf.fields _ acS⟩
theorem Cu(c:aU)(subj:Txt):(cD c subj).length≤6+c.fields.length:=by grind [qi,acE,sj,fQ,acA,List.length_filter_le,se]
theorem jz{i:Nat}(hs:Ab.Sub h G)(hi:G i=none):h i=none:=hs.none hi
theorem Cd:(U 23).sz=3:=acY
theorem Qn(hb:RdS h x s)(o:OpD)(hf:Few s)(hk:i64 o.kind):ai prog 75 [x,opA o] h fun r h' =>r=bJ (fJ s o)∧h' =h:=by
 have hca:=fun(G:Heap) (hG:Ab.Sub h G)=>BE (hb.sub hG) o.case hf
 obtain⟨y1,y2,y3,y4,rfl,⟨xs,hc,hn,hcs⟩,h2,h3,h4⟩:=hb;cases hpp:s.policy with
 |mk pid pset palg ptgt prules pkids pobls=>
 have hcC:fZ (.mk pid pset palg ptgt prules pkids pobls)= [.s pid,.b pset,.i palg,aV ptgt,.sl (prules.map aC) .no,.sl (pkids.map aN) .no,aA pobls]:=afM;rw[hpp,hcC]at hca;simp only[List.cons_append,List.nil_append]at hca;have hfr:=hf.roles;refine acJ func75 99 [.tmp 4] fun hwf=>?_
 simp only[go_sem,hcC,opA,opC,List.cons_append,List.nil_append];intro i1 h1;simp only[go_sem];intro i2 h2';have n21:=aH h2';have n2:=aB h2';simp only[go_sem,ak,n21.symm,h4.len,acA];obtain⟨H,eH⟩:∃H,upd (upd h i1 (some (.obj [.i s.tick,y1,y2,y3,y4,.s pid,.b pset,.i palg,aV ptgt,.sl (prules.map aC) .no,.sl (pkids.map aN) .no,aA pobls,.i s.version] 98))) i2 (some (.obj (opC o) 25))=H:=⟨_,rfl⟩;have hH:Ab.Sub h H:=adH;have g1:H i1=some (.obj [.i s.tick,y1,y2,y3,y4,.s pid,.b pset,.i palg,aV ptgt,.sl (prules.map aC) .no,.sl (pkids.map aN) .no,aA pobls,.i s.version] 98):=aek;have g2:H i2=some (.obj (opC o) 25):=aed;simp only[opC]at eH g2;rw[eH];clear eH;refine .intro (fun m ρ G=>∃(i:Nat) (y:AV),Acc U 23 H G y ((cX (s.roles.take i) o.subj).map aP)∧i≤s.roles.length∧m=s.roles.length - i∧lk ρ 5=some y∧lk ρ 2=some (.ptr i1 0)∧lk ρ 3=some (.ptr i2 0)∧lk ρ 12=some y4∧lk ρ 13=some (.i s.roles.length)∧lk ρ 14=some (.i i)) s.roles.length ?_ ?_
 ·refine⟨0,_,.full (.refl _),acK,rfl,?_,?_,?_,?_,?_,?_⟩<;>simp only[go_sem,cX,List.take_zero,List.filter_nil,List.map_nil]
 ·rintro m ρ G ⟨i,y,hy,hi,rfl,r5,r2,r3,r12,r13,r14⟩
  have k1:=hy.1 _ _ g1;have k2:=hy.1 _ _ g2;simp only[go_sem,r13,r14];refine .intro (fun e=>?_) (fun e=>?_)
  ·have hlt:i<s.roles.length:=acH e
   have w1:=acG i acK;simp only[go_sem,r12,r14];refine(h4.sub (hH.trans hy.1)).idx (e:=161) i rfl ada HG acN fun p hp1=>?_
   have hld:=hp1.all (U:=U) (ty:=161) acT (by rw[HG,acB];rfl) adp
   simp only[go_sem,hld,acB,eL];intro i7 h7;have n71:i1≠i7:=fun e=>by rw[←e,k1]at h7;cases h7
   have n72:i2≠i7:=fun e=>by rw[←e,k2]at h7;cases h7
   simp only[go_sem,ak,n72,k2,r3];have hy7:=hy.sub (.aj h7 (k:=some (.obj [.s s.roles[i].subj,.s s.roles[i].role] 161)));have lr:=FQ (s.roles.take i) o.subj;cases d1:(s.roles[i].subj==o.subj)
   ·have p1:s.roles[i].subj≠o.subj:=by simpa using d1
    simp only[go_sem,r14,w1];refine⟨_,?_,i+1,y,by rw[za hlt (.inl p1)];exact hy7,acK,rfl,?_,?_,?_,?_,?_,?_⟩
    ·omega
    all_goals simp only[go_sem,r5,r2,r3,r12,r13]
   ·have p1:s.roles[i].subj=o.subj:=by simpa using d1
    simp only[go_sem,r5,hy.len,acA];cases d2:decide (((cX (s.roles.take i) o.subj).length:Int)<16)
    ·have p2:¬(cX (s.roles.take i) o.subj).length<16:=by have:=acD d2;omega
     simp only[go_sem,r14,w1];refine⟨_,?_,i+1,y,by rw[za hlt (.inr p2)];exact hy7,acK,rfl,?_,?_,?_,?_,?_,?_⟩
     ·omega
     all_goals simp only[go_sem,r5,r2,r3,r12,r13]
    ·have p2:(cX (s.roles.take i) o.subj).length<16:=by have:=acC d2;omega
     simp only[go_sem,r5];refine(rP _ _).pthen ?_;simp only[go_sem,aP,idV];refine hy7.app (zs:=[aP (idV s.roles[i].role)]) (by rw[Cd];decide) acP (fun k hk=>(Rd.sl (fun z hz=>afD) .full:Rd _ 3 _ _).src Cd hk) (by rw[Cd];exact bx (f:=aP) (fun _=>rfl) _) (by rw[Cd];exact bx (f:=aP) (fun _=>rfl) [idV s.roles[i].role]) adY fun y' H' hy' kp=>?_
     simp only[go_sem,r14,w1];refine⟨_,?_,i+1,y',by rw[D6 hlt p1 p2,List.map_append];exact hy',acK,rfl,?_,?_,?_,?_,?_,?_⟩
     ·omega
     all_goals simp only[go_sem,r2,r3,r12,r13]
  ·have hge:i=s.roles.length:=by have:=acD e;omega
   subst hge;rw[List.take_length]at hy;simp only[go_sem];obtain⟨q5,rfl⟩:=hy.row;refine .quiet acO ?_;simp only[go_sem,k2,r3];refine⟨_,rP _ _,?_⟩;simp only[go_sem,aP,idV];refine⟨_,dQ _ _ _ _ _,?_⟩;simp only[go_sem,r5];refine⟨_,dQ _ _ _ _ _,?_⟩;simp only[go_sem,k2,r3];refine⟨_,Ae _ hk _,?_⟩;simp only[go_sem];refine⟨_,rP _ _,?_⟩;simp only[go_sem,aP,idV];refine⟨_,dQ _ _ _ _ _,?_⟩;simp only[go_sem,k2,r3];have hak:=fun(G:Heap)=>EG (h:=G) (bz s.cases o.case) o.subj (xO hf o.case).1 (xO hf o.case).2
   simp only[ct,mZ,gz,so]at hak;have hakl:=Cu (bz s.cases o.case) o.subj;have hakf:=(xO hf o.case).2;have hr0:GRow [.agg [.i 1,.s [105,100],.sl [.agg [.i 5,.i 0,.s o.subj]] .full],.agg [.i 1,.s [114,111,108,101],.sl ((cX s.roles o.subj).map aP) q5],.agg [.i 2,.s [110,97,109,101],.sl [.agg [.i 5,.i 0,.s (jM o.kind)]] .full]] (cP s o):=(GRow.one ⟨1,idT,[idV o.subj]⟩ .full).app ((GRow.one ⟨1,[114,111,108,101],cX s.roles o.subj⟩ q5).app (GRow.one ⟨2,[110,97,109,101],[idV (jM o.kind)]⟩ .full))
   by_cases pf:o.field= []
   ·have df:(o.field==([]:Txt))=true:=by simp[pf]
    simp only[go_sem,k2,r3,df]
    by_cases pt:o.to= []
    ·have dt:(o.to==([]:Txt))=true:=by simp[pt]
     simp only[go_sem,k1,r2,dt];refine(dQ _ _ _ _ _).pthen ?_;simp only[go_sem];refine .accs hy.1 fun y1 G1 hy1 kp1=>?_
     have k1_1:=kp1 _ _ _ k1;have k2_1:=kp1 _ _ _ k2;have hr1:=hr0.app (GRow.one (⟨4,[110,111,119],[⟨4,s.tick,[]⟩]⟩:br) .full);simp only[go_sem,k1_1,k2_1,r2,r3];refine(hca _ (hH.trans hy1.1)).pthen ?_;simp only[go_sem,ct,mZ,gz,so];intro i20 h20;have n21:i1≠i20:=fun e=>by rw[←e,k1_1]at h20;cases h20
     have n22:i2≠i20:=fun e=>by rw[←e,k2_1]at h20;cases h20
     simp only[go_sem];obtain⟨q2,eq2⟩:=hy1.row;cases dth:bY s.cases o.case
     ·simp only[go_sem]
      exact .mk (bJ (fJ s o)) (show Weak y1 _ by rw[eq2,show fJ s o=(cP s o++ [(⟨4,[110,111,119],[⟨4,s.tick,[]⟩]⟩:br)]) by simp[fJ,cP,dth,pf,pt]];exact hr1.weak q2) ((hH.trans hy1.1).put (jz (hH.trans hy1.1) h20) _) ⟨rfl,rfl⟩
     ·simp only[go_sem,ak,n22,k2_1,r3]
      by_cases p6:o.kind=6
      ·have d6:(o.kind !=6)=false:=by simp[p6]
       simp only[go_sem,d6];exact .mk (bJ (fJ s o)) (show Weak y1 _ by rw[eq2,show fJ s o=(cP s o++ [(⟨4,[110,111,119],[⟨4,s.tick,[]⟩]⟩:br)]) by simp[fJ,cP,dth,p6,pf,pt]];exact hr1.weak q2) ((hH.trans hy1.1).put (jz (hH.trans hy1.1) h20) _) ⟨rfl,rfl⟩
      ·have d6:(o.kind !=6)=true:=by simp[p6]
       simp only[go_sem,ak,n22,k2_1,r3,d6];refine(hak _).pthen ?_;simp only[go_sem,bJ];refine(hy1.sub (.aj h20)).app (zs:=(cD (bz s.cases o.case) o.subj).map lf) ae5 acP (fun k hk=>(eR lf 3 (fun _=>rfl) _ _).src cu hk) (by rw[cu];exact hr1.sized) aen adC fun yz Gz hyz kpz=>?_
       simp only[go_sem];obtain⟨qz,eqz⟩:=hyz.row;exact .mk (bJ (fJ s o)) (show Weak yz _ by rw[eqz,show fJ s o=(cP s o++ [(⟨4,[110,111,119],[⟨4,s.tick,[]⟩]⟩:br)])++cD (bz s.cases o.case) o.subj by simp[fJ,cP,dth,p6,pf,pt]];exact(hr1.app (GRow.givs _)).weak qz) (hH.trans hyz.1) ⟨rfl,rfl⟩
    ·have dt:(o.to==([]:Txt))=false:=by simp[pt]
     simp only[go_sem,k2,r3,dt];refine(rP _ _).pthen ?_;simp only[go_sem,aP,idV];refine(dQ _ _ _ _ _).pthen ?_;simp only[go_sem];refine .accs hy.1 fun y3 G3 hy3 kp3=>?_
     have k1_3:=kp3 _ _ _ k1;have k2_3:=kp3 _ _ _ k2;have hr3:=hr0.app (GRow.one (⟨2,[116,111],[idV o.to]⟩:br) .full);simp only[go_sem,k1_3,r2];refine(dQ _ _ _ _ _).pthen ?_;simp only[go_sem];refine hy3.app (zs:=[zF (⟨4,[110,111,119],[⟨4,s.tick,[]⟩]⟩) .full]) ae5 acP (fun k hk=>(Rd.sl (fO _ _) .full:Rd _ 3 _ _).src cu hk) (by rw[cu];exact hr3.sized) aga adJ fun y4 G4 hy4 kp4=>?_
     have k1_4:=kp4 _ _ _ k1_3;have k2_4:=kp4 _ _ _ k2_3;have hr4:=hr3.app (GRow.one (⟨4,[110,111,119],[⟨4,s.tick,[]⟩]⟩:br) .full);simp only[go_sem,k1_4,k2_4,r2,r3];refine(hca _ (hH.trans hy4.1)).pthen ?_;simp only[go_sem,ct,mZ,gz,so];intro i50 h50;have n51:i1≠i50:=fun e=>by rw[←e,k1_4]at h50;cases h50
     have n52:i2≠i50:=fun e=>by rw[←e,k2_4]at h50;cases h50
     simp only[go_sem];obtain⟨q5,eq5⟩:=hy4.row;cases dth:bY s.cases o.case
     ·simp only[go_sem]
      exact .mk (bJ (fJ s o)) (show Weak y4 _ by rw[eq5,show fJ s o=((cP s o++ [(⟨2,[116,111],[idV o.to]⟩:br)])++ [(⟨4,[110,111,119],[⟨4,s.tick,[]⟩]⟩:br)]) by simp[fJ,cP,dth,pf,pt]];exact hr4.weak q5) ((hH.trans hy4.1).put (jz (hH.trans hy4.1) h50) _) ⟨rfl,rfl⟩
     ·simp only[go_sem,ak,n52,k2_4,r3]
      by_cases p6:o.kind=6
      ·have d6:(o.kind !=6)=false:=by simp[p6]
       simp only[go_sem,d6];exact .mk (bJ (fJ s o)) (show Weak y4 _ by rw[eq5,show fJ s o=((cP s o++ [(⟨2,[116,111],[idV o.to]⟩:br)])++ [(⟨4,[110,111,119],[⟨4,s.tick,[]⟩]⟩:br)]) by simp[fJ,cP,dth,p6,pf,pt]];exact hr4.weak q5) ((hH.trans hy4.1).put (jz (hH.trans hy4.1) h50) _) ⟨rfl,rfl⟩
      ·have d6:(o.kind !=6)=true:=by simp[p6]
       simp only[go_sem,ak,n52,k2_4,r3,d6];refine(hak _).pthen ?_;simp only[go_sem,bJ];refine(hy4.sub (.aj h50)).app (zs:=(cD (bz s.cases o.case) o.subj).map lf) ae5 acP (fun k hk=>(eR lf 3 (fun _=>rfl) _ _).src cu hk) (by rw[cu];exact hr4.sized) aen adC fun yz Gz hyz kpz=>?_
       simp only[go_sem];obtain⟨qz,eqz⟩:=hyz.row;exact .mk (bJ (fJ s o)) (show Weak yz _ by rw[eqz,show fJ s o=((cP s o++ [(⟨2,[116,111],[idV o.to]⟩:br)])++ [(⟨4,[110,111,119],[⟨4,s.tick,[]⟩]⟩:br)])++cD (bz s.cases o.case) o.subj by simp[fJ,cP,dth,p6,pf,pt]];exact(hr4.app (GRow.givs _)).weak qz) (hH.trans hyz.1) ⟨rfl,rfl⟩
   ·have df:(o.field==([]:Txt))=false:=by simp[pf]
    simp only[go_sem,k2,r3,df];refine(rP _ _).pthen ?_;simp only[go_sem,aP,idV];refine(dQ _ _ _ _ _).pthen ?_;simp only[go_sem];refine .accs hy.1 fun y6 G6 hy6 kp6=>?_
    have k1_6:=kp6 _ _ _ k1;have k2_6:=kp6 _ _ _ k2;have hr6:=hr0.app (GRow.one (⟨2,[102,105,101,108,100],[idV o.field]⟩:br) .full);simp only[go_sem,k2_6,r3]
    by_cases pt:o.to= []
    ·have dt:(o.to==([]:Txt))=true:=by simp[pt]
     simp only[go_sem,k1_6,r2,dt];refine(dQ _ _ _ _ _).pthen ?_;simp only[go_sem];refine hy6.app (zs:=[zF (⟨4,[110,111,119],[⟨4,s.tick,[]⟩]⟩) .full]) ae5 acP (fun k hk=>(Rd.sl (fO _ _) .full:Rd _ 3 _ _).src cu hk) (by rw[cu];exact hr6.sized) aga adJ fun y7 G7 hy7 kp7=>?_
     have k1_7:=kp7 _ _ _ k1_6;have k2_7:=kp7 _ _ _ k2_6;have hr7:=hr6.app (GRow.one (⟨4,[110,111,119],[⟨4,s.tick,[]⟩]⟩:br) .full);simp only[go_sem,k1_7,k2_7,r2,r3];refine(hca _ (hH.trans hy7.1)).pthen ?_;simp only[go_sem,ct,mZ,gz,so];intro i80 h80;have n81:i1≠i80:=fun e=>by rw[←e,k1_7]at h80;cases h80
     have n82:i2≠i80:=fun e=>by rw[←e,k2_7]at h80;cases h80
     simp only[go_sem];obtain⟨q8,eq8⟩:=hy7.row;cases dth:bY s.cases o.case
     ·simp only[go_sem]
      exact .mk (bJ (fJ s o)) (show Weak y7 _ by rw[eq8,show fJ s o=((cP s o++ [(⟨2,[102,105,101,108,100],[idV o.field]⟩:br)])++ [(⟨4,[110,111,119],[⟨4,s.tick,[]⟩]⟩:br)]) by simp[fJ,cP,dth,pf,pt]];exact hr7.weak q8) ((hH.trans hy7.1).put (jz (hH.trans hy7.1) h80) _) ⟨rfl,rfl⟩
     ·simp only[go_sem,ak,n82,k2_7,r3]
      by_cases p6:o.kind=6
      ·have d6:(o.kind !=6)=false:=by simp[p6]
       simp only[go_sem,d6];exact .mk (bJ (fJ s o)) (show Weak y7 _ by rw[eq8,show fJ s o=((cP s o++ [(⟨2,[102,105,101,108,100],[idV o.field]⟩:br)])++ [(⟨4,[110,111,119],[⟨4,s.tick,[]⟩]⟩:br)]) by simp[fJ,cP,dth,p6,pf,pt]];exact hr7.weak q8) ((hH.trans hy7.1).put (jz (hH.trans hy7.1) h80) _) ⟨rfl,rfl⟩
      ·have d6:(o.kind !=6)=true:=by simp[p6]
       simp only[go_sem,ak,n82,k2_7,r3,d6];refine(hak _).pthen ?_;simp only[go_sem,bJ];refine(hy7.sub (.aj h80)).app (zs:=(cD (bz s.cases o.case) o.subj).map lf) ae5 acP (fun k hk=>(eR lf 3 (fun _=>rfl) _ _).src cu hk) (by rw[cu];exact hr7.sized) aen adC fun yz Gz hyz kpz=>?_
       simp only[go_sem];obtain⟨qz,eqz⟩:=hyz.row;exact .mk (bJ (fJ s o)) (show Weak yz _ by rw[eqz,show fJ s o=((cP s o++ [(⟨2,[102,105,101,108,100],[idV o.field]⟩:br)])++ [(⟨4,[110,111,119],[⟨4,s.tick,[]⟩]⟩:br)])++cD (bz s.cases o.case) o.subj by simp[fJ,cP,dth,p6,pf,pt]];exact(hr7.app (GRow.givs _)).weak qz) (hH.trans hyz.1) ⟨rfl,rfl⟩
    ·have dt:(o.to==([]:Txt))=false:=by simp[pt]
     simp only[go_sem,k2_6,r3,dt];refine(rP _ _).pthen ?_;simp only[go_sem,aP,idV];refine(dQ _ _ _ _ _).pthen ?_;simp only[go_sem];refine hy6.app (zs:=[zF (⟨2,[116,111],[idV o.to]⟩) .full]) ae5 acP (fun k hk=>(Rd.sl (fO _ _) .full:Rd _ 3 _ _).src cu hk) (by rw[cu];exact hr6.sized) aga adJ fun y9 G9 hy9 kp9=>?_
     have k1_9:=kp9 _ _ _ k1_6;have k2_9:=kp9 _ _ _ k2_6;have hr9:=hr6.app (GRow.one (⟨2,[116,111],[idV o.to]⟩:br) .full);simp only[go_sem,k1_9,r2];refine(dQ _ _ _ _ _).pthen ?_;simp only[go_sem];refine hy9.app (zs:=[zF (⟨4,[110,111,119],[⟨4,s.tick,[]⟩]⟩) .full]) ae5 acP (fun k hk=>(Rd.sl (fO _ _) .full:Rd _ 3 _ _).src cu hk) (by rw[cu];exact hr9.sized) aga adJ fun y10 G10 hy10 kp10=>?_
     have k1_10:=kp10 _ _ _ k1_9;have k2_10:=kp10 _ _ _ k2_9;have hr10:=hr9.app (GRow.one (⟨4,[110,111,119],[⟨4,s.tick,[]⟩]⟩:br) .full);simp only[go_sem,k1_10,k2_10,r2,r3];refine(hca _ (hH.trans hy10.1)).pthen ?_;simp only[go_sem,ct,mZ,gz,so];intro i110 h110;have n111:i1≠i110:=fun e=>by rw[←e,k1_10]at h110;cases h110
     have n112:i2≠i110:=fun e=>by rw[←e,k2_10]at h110;cases h110
     simp only[go_sem];obtain⟨q11,eq11⟩:=hy10.row;cases dth:bY s.cases o.case
     ·simp only[go_sem]
      exact .mk (bJ (fJ s o)) (show Weak y10 _ by rw[eq11,show fJ s o=(((cP s o++ [(⟨2,[102,105,101,108,100],[idV o.field]⟩:br)])++ [(⟨2,[116,111],[idV o.to]⟩:br)])++ [(⟨4,[110,111,119],[⟨4,s.tick,[]⟩]⟩:br)]) by simp[fJ,cP,dth,pf,pt]];exact hr10.weak q11) ((hH.trans hy10.1).put (jz (hH.trans hy10.1) h110) _) ⟨rfl,rfl⟩
     ·simp only[go_sem,ak,n112,k2_10,r3]
      by_cases p6:o.kind=6
      ·have d6:(o.kind !=6)=false:=by simp[p6]
       simp only[go_sem,d6];exact .mk (bJ (fJ s o)) (show Weak y10 _ by rw[eq11,show fJ s o=(((cP s o++ [(⟨2,[102,105,101,108,100],[idV o.field]⟩:br)])++ [(⟨2,[116,111],[idV o.to]⟩:br)])++ [(⟨4,[110,111,119],[⟨4,s.tick,[]⟩]⟩:br)]) by simp[fJ,cP,dth,p6,pf,pt]];exact hr10.weak q11) ((hH.trans hy10.1).put (jz (hH.trans hy10.1) h110) _) ⟨rfl,rfl⟩
      ·have d6:(o.kind !=6)=true:=by simp[p6]
       simp only[go_sem,ak,n112,k2_10,r3,d6];refine(hak _).pthen ?_;simp only[go_sem,bJ];refine(hy10.sub (.aj h110)).app (zs:=(cD (bz s.cases o.case) o.subj).map lf) ae5 acP (fun k hk=>(eR lf 3 (fun _=>rfl) _ _).src cu hk) (by rw[cu];exact hr10.sized) aen adC fun yz Gz hyz kpz=>?_
       simp only[go_sem];obtain⟨qz,eqz⟩:=hyz.row;exact .mk (bJ (fJ s o)) (show Weak yz _ by rw[eqz,show fJ s o=(((cP s o++ [(⟨2,[102,105,101,108,100],[idV o.field]⟩:br)])++ [(⟨2,[116,111],[idV o.to]⟩:br)])++ [(⟨4,[110,111,119],[⟨4,s.tick,[]⟩]⟩:br)])++cD (bz s.cases o.case) o.subj by simp[fJ,cP,dth,p6,pf,pt]];exact(hr10.app (GRow.givs _)).weak qz) (hH.trans hyz.1) ⟨rfl,rfl⟩
end Go.Proofs.YteaaeelhjnhaaaaGreatDoor
namespace Go.Bf
open Go Go.Ab
def eqL{α:Type}(f:α→α→Bool):List α→List α→Bool
 | [],[]=>true
 |x::a,y::b=>f x y && eqL f a b
 |_,_=>false
theorem any_succ{α:Type}{q:α→Bool}{l:List α}{i:Nat}(h:i<l.length):(l.take (i+1)).any q=((l.take i).any q||q l[i]):=by grind [List.take_succ_eq_append_getElem]
end Go.Bf
namespace Go.Proofs.YteaaeelhjnhaaaaGreatDoor
open Go
def B4:List Value:=Lib.pow10Tab.map fun z=>Value.int .u64 z
end Go.Proofs.YteaaeelhjnhaaaaGreatDoor
namespace Go.Bf
def Ty:Txt:=[97,110,110]
end Go.Bf
namespace Go.Proofs.YteaaeelhjnhaaaaGreatDoor
open Go Go.Ab Go.Bf Tryz
def RN(ev:Value):Heap:=wG [(3,B4),(2,[ev])]
theorem JA{ev:Value}(hev:ev= .nilIface∨∃te pe,ev= .iface te pe):l8 (RN ev):=⟨ev,hev,1,rfl⟩
end Go.Proofs.YteaaeelhjnhaaaaGreatDoor
namespace Go.Bf
open Go Go.Ab
def LG(o:OpD):OpD:={o with subj:=o.subj.take 20,case:=o.case.take 20,field:=o.field.take 20,to:=o.to.take 20,val:={o.val with s:=o.val.s.take 70},reason:=o.reason.take 70,text:=if o.text.length≤4096 then o.text.take 1000 else o.text}
end Go.Bf
namespace Go.Proofs.YteaaeelhjnhaaaaGreatDoor
open Go Go.Ab Go.Bf Tryz
theorem mP(s:Txt)(n:Nat)(hn:n≤1000000)(h:Heap):ai prog 14 [.s s,.i n] h fun r h' =>r= .s (s.take n)∧h' =h:=by
 refine acJ func14 11 [.tmp 4] fun hwf=>?_
 have e:(if(n:Int)<(s.length:Int)then(n:Int)else(s.length:Int))=((min n s.length:Nat):Int):=acK
 simp only[go_sem,e];refine⟨acK,acK,acK,?_⟩;simp only[go_sem,Option.isSome_none,Option.isSome_some,sR,Int.toNat_natCast];exact .same (.refl _) ⟨by rw[List.take_eq_take_min (i:=n) (l:=s)];rfl,rfl⟩
theorem Rv(o:OpD)(h:Heap):ai prog 4 [opA o] h fun r h' =>r=opA (LG o)∧h' =h:=by
 refine acJ func4 38 [.cell 2 25] fun hwf=>?_
 simp only[go_sem,opA,opC];intro i1 h1;simp only[go_sem];intro i2 h2;have n21:=aH h2;have n2:=aB h2;simp only[go_sem];have hns:∀G,Ab.Sub cL G:=fun G _ _ e=>adb
 have hs:∀a b,Ab.Sub h (upd (upd h i1 a) i2 b):=fun a b=>((Sub.refl h).put h1 a).put n2 b
 refine .stage (pick (upd (upd h i1 (some (.obj [.i o.kind,.s o.subj,.s o.case,.s o.field,.s o.to,.i o.val.kind,.i o.val.n,.s o.val.s,.i o.review,.s o.text,.s o.reason,.b o.glass] 25))) i2 _) [i1]) [0,1,3,4,6,7,9,10,2,12,5,8,11] [13,14,15,16,17,18,19] bB acO ?_;simp only[go_sem,bD (show i1∈ [i1] by simp),ak,n21.symm]
 refine(show ai prog 14 [_,.i ((20:Nat):Int)] _ _ from(mP _ 20 acN _).mono fun r h' ⟨e1,e2⟩=>?_)
 subst e1;subst e2
 refine⟨bB,?_⟩;simp only[go_sem];refine(show ai prog 14 [_,.i ((20:Nat):Int)] _ _ from(mP _ 20 acN _).mono fun r h' ⟨e1,e2⟩=>?_)
 subst e1;subst e2
 refine⟨bB,?_⟩;simp only[go_sem];refine(show ai prog 14 [_,.i ((20:Nat):Int)] _ _ from(mP _ 20 acN _).mono fun r h' ⟨e1,e2⟩=>?_)
 subst e1;subst e2
 refine⟨bB,?_⟩;simp only[go_sem];refine(show ai prog 14 [_,.i ((20:Nat):Int)] _ _ from(mP _ 20 acN _).mono fun r h' ⟨e1,e2⟩=>?_)
 subst e1;subst e2
 refine⟨bB,?_⟩;simp only[go_sem];refine⟨cL,hns _,?_⟩;simp only[go_sem,ak,n21.symm];refine⟨hns _,hns _,hns _,hns _,?_⟩;refine .stage (pick _ [i1]) [0,1,2,4,5,3,7,8,6] [9,10,11] bB acO ?_;simp only[go_sem,bD (show i1∈ [i1] by simp)]
 refine(show ai prog 14 [_,.i ((70:Nat):Int)] _ _ from(mP _ 70 acN _).mono fun r h' ⟨e1,e2⟩=>?_)
 subst e1;subst e2
 refine⟨bB,?_⟩;simp only[go_sem];refine(show ai prog 14 [_,.i ((70:Nat):Int)] _ _ from(mP _ 70 acN _).mono fun r h' ⟨e1,e2⟩=>?_)
 subst e1;subst e2
 refine⟨bB,?_⟩;simp only[go_sem];refine⟨cL,hns _,?_⟩;simp only[go_sem];refine⟨hns _,hns _,?_⟩;cases d1:decide ((o.text.length:Int)≤4096)
 ·have p1:¬o.text.length≤4096:=by grind
  exact ah9
 ·have p1:o.text.length≤4096:=by grind
  simp only[go_sem];refine(show ai prog 14 [_,.i ((1000:Nat):Int)] _ _ from(mP _ 1000 acN _).mono fun r h' ⟨e1,e2⟩=>?_)
  subst e1;subst e2
  exact ah9
end Go.Proofs.YteaaeelhjnhaaaaGreatDoor
namespace Go.Bf
open Go Go.Ab
def iO(cat:Int)(name:Txt)(g:br):Bool:=g.cat==cat && g.name==name
def getD(l:List br)(cat:Int)(name:Txt):List bt:=match l.find? (iO cat name)with
 |some g=>g.bag
 |none=>[]
end Go.Bf
namespace Go.Proofs.YteaaeelhjnhaaaaGreatDoor
open Go Go.Ab Go.Bf Tryz
variable {cat:Int}{name:Txt}{gs:List br}
theorem K1{α:Type}(y:AV)(xs:List AV)(ds:List α)(q:α→Bool)(g:FuncId)(cap:List AV)(h:Heap)(hb:Rd h 3 y xs)(hn:xs.length=ds.length)(hl:xs.length≤1000000000)(hx:∀x∈xs,bC x=true)
  (hp:∀i (h1:i<xs.length) (h2:i<ds.length),ai prog g (xs[i]::cap) h fun r h' =>r= .b (q ds[i])∧h' =h):
  ai prog 252 [y,.fn g cap] h fun r h' =>r= .i (ixD q ds)∧h' =h:=by
 refine acJ func252 19 [.tmp 4] fun hwf=>?_
 simp only[go_sem,hb.len];refine .intro (fun m ρ h' =>h' =h∧∃i:Nat,i≤xs.length∧m=xs.length - i∧(∀j (hj:j<i) (h2:j<ds.length),q ds[j]=false)∧lk ρ 0=some y∧lk ρ 1=some (.fn g cap)∧lk ρ 7=some (.i xs.length)∧lk ρ 8=some (.i i)) xs.length ?_ ?_
 ·refine⟨rfl,0,acK,rfl,fun j hj=>acK,?_,?_,?_,?_⟩<;>simp only[go_sem]
 ·rintro m ρ h' ⟨rfl,i,hi,rfl,hc,r0,r1,r7,r8⟩
  simp only[go_sem,r7,r8];refine .intro (fun e=>?_) (fun e=>?_)
  ·have hlt:i<xs.length:=acH e
   have hlt2:i<ds.length:=acK;have w1:IntKind.i64.wrap ((i:Int)+1)=((i+1:Nat):Int):=acX;simp only[go_sem,r0,r1,r8];refine hb.idx (e:=164) i rfl hlt acY acN fun p hp1=>?_
   have hld:=hp1.all (U:=U) (ty:=164) acN adD aez;simp only[go_sem,hld];refine(show ai prog g (xs[i]::cap) _ _ from hp i hlt hlt2).pthen ?_
   cases d1:q ds[i]
   ·simp only[go_sem,r8,w1]
    refine⟨_,?_,rfl,i+1,acK,rfl,fun j hj h2=>?_,?_,?_,?_,?_⟩
    ·omega
    ·grind
    all_goals simp only[go_sem,r0,r1,r7]
   ·simp only[go_sem]
    exact .same (.refl _) ⟨ads,rfl⟩
  ·have hge:i=xs.length:=by grind
   simp only[go_sem];exact .same (.refl _) ⟨adg,rfl⟩
theorem Jj{h:Heap}(g:br){k1 k2:Nat}(h1:h k1=some (.obj [.i cat] 3))(h2:h k2=some (.obj [.s name] 9)):ai prog 253 [lf g,.ptr k1 0,.ptr k2 0] h fun r h' =>r= .b (iO cat name g)∧h' =h:=by
 refine acJ func253 15 [.tmp 4] fun hwf=>?_
 simp only[go_sem,lf];intro i1 hi1;have n1:k1≠i1:=fun e=>acL
 have n2:k2≠i1:=fun e=>acL
 simp only[go_sem,ak,n1,h1];cases d1:(g.cat==cat)
 ·simp only[go_sem]
  exact .mk _ (.refl _) (.aj hi1) ⟨by simp only[iO,d1];rfl,rfl⟩
 ·simp only[go_sem,ak,n2,h2]
  exact .mk _ (.refl _) (.aj hi1) ⟨by simp only[iO,d1];rfl,rfl⟩
theorem LP(gs:List br)(cat:Int)(name:Txt)(hl:gs.length≤1000000000)(h:Heap):ai prog 226 [bJ gs,.i cat,.s name] h fun r h' =>r= .i (ixD (iO cat name) gs)∧h' =h:=by
 refine acJ func226 10 [.tmp 6] fun hwf=>?_
 simp only[go_sem,bJ];intro i1 h1;simp only[go_sem];intro i2 h2;have n2:=aB h2;have hs:∀a b,Ab.Sub h (upd (upd h i1 a) i2 b):=fun a b=>((Sub.refl h).put h1 a).put n2 b
 simp only[go_sem];refine(K1 _ _ gs (iO cat name) _ [.ptr i1 0,.ptr i2 0] _ (eR lf 3 (fun _=>rfl) _ gs) acS acL (oL (fun _=>rfl) _) fun i a b=>by rw[acB];exact Jj _ (by grind [ag,ah]) (ah ..)).pthen ?_
 simp only[go_sem];exact ael
theorem get_at(h:gs.findIdx (iO cat name)<gs.length):getD gs cat name=gs[gs.findIdx (iO cat name)].bag:=by unfold getD;rw[show gs.find? (iO cat name)=some gs[gs.findIdx (iO cat name)]from List.find?_eq_some_iff_getElem.2 ⟨List.findIdx_getElem (w:=h),_,h,rfl,fun j hj=>acL⟩]
theorem QZ(h:¬gs.findIdx (iO cat name)<gs.length):getD gs cat name= []:=by grind [getD,iO,List.findIdx_le_length,List.find?_eq_none,List.findIdx_eq_length]
end Go.Proofs.YteaaeelhjnhaaaaGreatDoor
namespace Go.Bf
open Go Go.Ab
variable {c:aU}{cs:List aU}{f:fq}{fs:List fq}{name:Txt}{v:bt}
def cT:Txt:=[99]
def stC(st:Txt)(log:List xd):aU:=⟨cT,Ty,st,[],log⟩
def pI:List Txt:=[jB,we,Aq,gU]
abbrev lt(a b:Txt):Prop:=Op.bytesLess a b=true
theorem lt_irrefl:∀a:Txt,¬lt a a
 | []=>acN
 |a::x=>by have:=lt_irrefl x;simp only[lt,Op.bytesLess,Bool.or_eq_true,Bool.and_eq_true,decide_eq_true_eq,beq_self_eq_true,true_and,not_or];exact⟨UInt8.lt_irrefl a,this⟩
theorem lt_trans:∀ {a b c:Txt},lt a b→lt b c→lt a c
 |_,[],_,h,_=>by simp_all [Txt,lt,Op.bytesLess]
 | [],b::y,c,_,h=>by cases c<;>simp[lt,Op.bytesLess]at h⊢
 |a::x,b::y,[],_,h=>by simp[lt,Op.bytesLess]at h
 |a::x,b::y,c::z,h1,h2=>by
  simp only[lt,Op.bytesLess,Bool.or_eq_true,Bool.and_eq_true,decide_eq_true_eq,beq_iff_eq]at h1 h2⊢;rcases h1 with h1|⟨rfl,h1⟩
  ·grind
  ·rcases h2 with h2|⟨rfl,h2⟩
   ·grind
   ·exact .inr ⟨rfl,lt_trans h1 h2⟩
theorem AO:∀a b:Txt,lt a b∨a=b∨lt b a
 | [],[]=>acS
 | [],b::y=> .inl rfl
 |a::x,[]=> .inr (.inr rfl)
 |a::x,b::y=>by
  simp only[lt,Op.bytesLess,Bool.or_eq_true,Bool.and_eq_true,decide_eq_true_eq,beq_iff_eq];rcases UInt8.lt_or_lt_of_ne (a:=a) (b:=b)with h
  by_cases e:a=b
  ·subst e
   rcases AO x y with h|rfl|h
   ·grind
   ·simp
   grind
  grind
def Asc(cs:List aU):Prop:=cs.Pairwise fun a b=>lt a.id b.id
theorem Gw{id:Txt}(h:¬lt c.id id):findD (c::cs) id=0:=by simp_all [Op.bytesLess,false,findD,List.findIdx_cons,geB]
theorem Gx{id:Txt}(h:lt c.id id):findD (c::cs) id=findD cs id+1:=by simp_all [Op.bytesLess,true,findD,List.findIdx_cons,geB]
theorem ve:∀ {cs:List aU},Asc cs→∀id,bY cs id=cs.any fun c=>c.id==id
 | [],_,id=>rfl
 |c::cs,h,id=>by
  obtain⟨h1,h2⟩:=List.pairwise_cons.1 h
  by_cases hl:lt c.id id
  ·have hne:(c.id==id)=false:=by grind [beq_eq_false_iff_ne,lt_irrefl]
   have e:bY (c::cs) id=bY cs id:=by grind [bY,Gx]
   rw[e,ve h2 id,List.any_cons,hne,Bool.false_or]
  ·have e:bY (c::cs) id=(c.id==id):=by grind [bY,Gw]
   rw[e,List.any_cons];cases hc:(c.id==id)
   ·have hlt:lt id c.id:=by
     rcases AO c.id id with h|h|h
     ·grind
     ·grind
     omega
    grind
   ·simp
theorem Gk:∀ {cs:List aU},Asc cs→∀c:aU,(cs.any fun d=>d.id==c.id)=false→Asc (cs.take (findD cs c.id)++ [c]++cs.drop (findD cs c.id))
 | [],_,c,_=>by simp[Asc,findD]
 |d::cs,h,c,hn=>by
  obtain⟨h1,h2⟩:=List.pairwise_cons.1 h;simp only[List.any_cons,Bool.or_eq_false_iff]at hn
  by_cases hl:lt d.id c.id
  ·rw[Gx hl]
   simp only[List.take_succ_cons,List.drop_succ_cons,List.cons_append];refine List.pairwise_cons.2 ⟨fun e he=>?_,Gk h2 c hn.2⟩
   grind
  ·rw[Gw hl]
   have hlt:lt c.id d.id:=by
    rcases AO d.id c.id with h|h|h
    ·grind
    ·grind
    omega
   refine List.pairwise_cons.2 ⟨fun e he=>?_,h⟩
   rcases List.mem_cons.1 he with rfl|he
   ·omega
   grind [lt_trans]
def Ex(fs:List fq):Prop:=fs.Pairwise fun a b=>lt a.name b.name
theorem Bn(name:Txt)(v:bt):fc [] name v= [⟨name,v⟩]:=rfl
theorem zw(h:lt f.name name):fc (f::fs) name v=f::fc fs name v:=by
 have hb:Op.bytesLess f.name name=true:=h;unfold fc;simp only[List.findIdx_cons,geB,hb,Bool.not_true,cond_false,List.getElem?_cons_succ];generalize hi:fs.findIdx (fun f=> !Op.bytesLess f.name name)=i
 cases e:fs[i]? with
 |none=>simp
 |some g=>
  by_cases hg:g.name=name
  ·simp[hg]
  ·simp[hg]
theorem zu(h:f.name=name):fc (f::fs) name v=⟨f.name,v⟩::fs:=by
 subst h;have hb:Op.bytesLess f.name f.name=false:=by grind [Op.bytesLess,lt_irrefl]
 unfold fc;simp[List.findIdx_cons,geB,hb]
theorem zv(h:lt name f.name):fc (f::fs) name v=⟨name,v⟩::f::fs:=by
 have hb:Op.bytesLess f.name name=false:=by grind [Op.bytesLess,lt_irrefl,lt_trans]
 have hne:f.name≠name:=fun e=>by rw[e]at h;exact lt_irrefl _ h
 unfold fc;simp[List.findIdx_cons,geB,hb,hne]
theorem vj:∀ {fs:List fq} {name:Txt} {v:bt} {g:fq},g∈fc fs name v→g=⟨name,v⟩∨g∈fs
 | [],name,v,g,h=>by grind [Bn,List.mem_singleton]
 |f::fs,name,v,g,h=>by
  rcases AO f.name name with hl|hl|hl
  ·rw[zw hl]at h
   rcases List.mem_cons.1 h with rfl|h
   ·simp
   ·rcases vj h with h|h
    ·grind
    grind
  ·rw[zu hl]at h
   grind
  ·rw[zv hl]at h
   grind
theorem Bl:∀ {fs:List fq} {name:Txt} {v:bt},Ex fs→Ex (fc fs name v)
 | [],name,v,_=>by grind [Bn,Ex]
 |f::fs,name,v,h=>by
  obtain⟨h1,h2⟩:=List.pairwise_cons.1 h;rcases AO f.name name with hl|hl|hl
  ·rw[zw hl]
   refine List.pairwise_cons.2 ⟨fun g hg=>?_,Bl h2⟩
   rcases vj hg with rfl|hg
   ·omega
   grind
  ·rw[zu hl]
   exact List.pairwise_cons.2 ⟨h1,h2⟩
  ·rw[zv hl]
   refine List.pairwise_cons.2 ⟨fun g hg=>?_,h⟩
   rcases List.mem_cons.1 hg with rfl|hg
   ·omega
   grind [lt_trans]
theorem Bm:∀ {fs:List fq} {name:Txt} {v:bt},Ex fs→(fc fs name v).length=if fs.any (fun f=>f.name==name)then fs.length else fs.length+1
 | [],name,v,_=>rfl
 |f::fs,name,v,h=>by
  obtain⟨h1,h2⟩:=List.pairwise_cons.1 h;rcases AO f.name name with hl|hl|hl
  ·have hne:(f.name==name)=false:=by grind [beq_eq_false_iff_ne,lt_irrefl]
   rw[zw hl,List.length_cons,Bm h2,List.any_cons,hne,Bool.false_or];split<;>simp
  ·grind [zu]
  ·have hne:(f.name==name)=false:=by grind [beq_eq_false_iff_ne,lt_irrefl]
   have hno:(fs.any fun f=>f.name==name)=false:=List.any_eq_false.2 fun g hg he=>by have:=lt_trans hl (h1 g hg);rw[beq_iff_eq.1 he]at this;exact lt_irrefl _ this
   rw[zv hl,List.any_cons,hne,hno];simp
theorem E4(f:fq)(fs:List fq)(n:Txt):eO (f::fs) n=if f.name=n then f.val else eO fs n:=by grind [eO]
def mkC(who id:Txt):aU:=⟨id,who,jB,[],[⟨0,who,[110,101,119]⟩]⟩
def Xa(cs:List aU)(id:Txt):Bool:=cs.any fun c=>c.id==id
end Go.Bf
namespace Go.Ab
open Go
section
variable {α : Type}
def dget(l:List (List UInt8×α))(k:List UInt8):Option α:=(l.find? fun p=>p.1==k).map (·.2)
def dset(l:List (List UInt8×α))(k:List UInt8)(v:α):List (List UInt8×α):=if(dget l k).isSome then l.map (fun p=>if p.1==k then(p.1,v)else p)else l++ [(k,v)]
end
end Go.Ab
namespace Go.Bf
open Go Go.Ab Go.Proofs.YteaaeelhjnhaaaaGreatDoor
structure Own (cs:List aU) (own:List (Txt×Txt)):Prop where
 asc:Asc cs
 len:cs.length=own.length
 small:cs.length≤64
 mem:∀c∈cs,c=mkC c.owner c.id∧dget own c.id=some c.owner
 has:∀id,Xa cs id=(dget own id).isSome
 who:∀id w,dget own id=some w→w≠ []
 keys:∀p∈own,p.1.length≤3
theorem qo:∀ {cs:List aU},Asc cs→∀ {id:Txt},bY cs id=true→bz cs id∈cs∧(bz cs id).id=id:=by
 unfold bz
 grind [bY,List.getElem?_eq_getElem]
end Go.Bf
namespace Go.Proofs.YteaaeelhjnhaaaaGreatDoor
open Go Go.Ab Go.Bf Tryz
def nO(o:OpD):Prop:=i64 o.kind∧i64 o.val.kind∧i64 o.val.n∧i64 o.review
theorem Ky{x:AV}(h:Dat U 23 x):∃v,x=aP v∧i64 v.kind∧i64 v.n:=by
 obtain⟨ys,rfl,hys⟩:=h.A9 (show(U 23).k= .strct [(0,3),(1,3),(2,9)] by rfl)
 obtain⟨y0,_,rfl,d0,y1,_,rfl,d1,y2,_,rfl,d2,rfl⟩:=hys;obtain⟨n,rfl,hn⟩:=d0.i64 acY;obtain⟨m,rfl,hm⟩:=d1.i64 acY;obtain⟨s,rfl,_⟩:=d2.pK acY;exact⟨⟨n,m,s⟩,acY,hn,hm⟩
theorem QB{x:AV}(h:Dat U 25 x):∃o,x=opA o∧nO o:=by
 obtain⟨ys,rfl,hys⟩:=h.A9 (show(U 25).k= .strct [(0,3),(1,9),(2,9),(3,9),(4,9),(5,23),(8,3),(9,9),(10,9),(11,4)] by rfl)
 obtain⟨y0,_,rfl,d0,y1,_,rfl,d1,y2,_,rfl,d2,y3,_,rfl,d3,y4,_,rfl,d4,y5,_,rfl,d5,y6,_,rfl,d6,y7,_,rfl,d7,y8,_,rfl,d8,y9,_,rfl,d9,rfl⟩:=hys;obtain⟨a,rfl,ha⟩:=d0.i64 acY;obtain⟨b,rfl,_⟩:=d1.pK acY;obtain⟨c,rfl,_⟩:=d2.pK acY;obtain⟨d,rfl,_⟩:=d3.pK acY;obtain⟨e,rfl,_⟩:=d4.pK acY;obtain⟨v,rfl,hv1,hv2⟩:=Ky d5;obtain⟨r,rfl,hr⟩:=d6.i64 acY;obtain⟨t,rfl,_⟩:=d7.pK acY;obtain⟨s,rfl,_⟩:=d8.pK acY;obtain⟨g,rfl⟩:=d9.Kn acY;exact⟨⟨a,b,c,d,e,v,r,t,s,g⟩,acY,ha,hv1,hv2,hr⟩
theorem Ru{o:OpD}(h:nO o):nO (LG o):=h
theorem inH{P:Program}{f:FuncId}{args:List AV}{h:Heap}{Q:AV→Heap→Prop}(hh:∀H2,H2=h→ai P f args H2 Q):ai P f args h Q:=hh h rfl
end Go.Proofs.YteaaeelhjnhaaaaGreatDoor
namespace Go.Bf
open Go Go.Ab Go.Proofs.YteaaeelhjnhaaaaGreatDoor
def Xb(v:Int):bt:=⟨2,v,[]⟩
structure Last (fs:List fq) (last:List (Txt×Int)):Prop where
 asc:Ex fs
 len:fs.length=last.length
 small:fs.length≤16
 kind:∀f∈fs,f.val.kind=2
 get:∀n,eO fs n=((dget last n).map Xb).getD an
 keys:∀p∈last,p.1.length=2
end Go.Bf
namespace Go.Bf
open Go Go.Ab
def Fine(n:Nat)(st:PS):Prop:=(st.bad=0∨st.bad=5∨st.bad=6)∧0≤st.place∧st.place≤n
def Bo(n:Nat)(ts:List wh):Prop:=∀i,0≤(ts.getD i ⟨7,0,0,[]⟩).pos∧(ts.getD i ⟨7,0,0,[]⟩).pos≤n
theorem xQ{n:Nat}{st}{e p:Int}(h:Fine n st)(he:e=5∨e=6)(h0:0≤p)(h1:p≤n):Fine n (bI st e p):=by
 unfold bI;split
 ·exact⟨.inr he,h0,h1⟩
 omega
theorem CY{n:Nat}{a b}(h:Rch a b)(ht:Bo n a.ts)(hf:Fine n a):Fine n b:=by
 induction h with
 |refl=>omega
 |wrong e p h1 he hp ih=>obtain⟨i,_,rfl⟩:=hp;rw[(rC h1).1];exact xQ ih he (ht i).1 (ht i).2
 |next _ _ _ ih=>exact ih
theorem Hs{a b}(h:nP a b):b.ts=a.ts:=by
 induction h with
 |refl=>rfl
 |small _ h1 ih=>grind [rC,trans]
 |rule _ _ _ _ ih=>exact ih
theorem Iv{n:Nat}{a b}(h:nP a b)(ht:Bo n a.ts)(hf:Fine n a):Fine n b:=by
 induction h with
 |refl=>omega
 |small h1 h2 ih=>grind [CY,Hs]
 |rule _ _ _ _ ih=>exact ih
theorem yb{s}{ts}(h:sk s= .ok ts):Bo s.length ts:=by
 obtain⟨pre,rfl,_,h3,_⟩:=AM h;intro i
 grind
theorem KO{s}{ts}(h:sk s= .ok ts):Fine s.length (pZ s (gH 4 ⟨ts,0,0,0,0⟩)):=by
 have h0:Fine s.length ⟨ts,0,0,0,0⟩:=⟨.inl rfl,Int.le_refl _,acS⟩;have hr:=B7 4 ⟨ts,0,0,0,0⟩;have h1:=Iv hr (yb h) h0;have ht:Bo s.length (gH 4 ⟨ts,0,0,0,0⟩).2.ts:=by rw[Hs hr];exact yb h
 have h2:Fine s.length (if(aL (gH 4 ⟨ts,0,0,0,0⟩).2).kind=7 then(gH 4 ⟨ts,0,0,0,0⟩).2 else bp (gH 4 ⟨ts,0,0,0,0⟩).2):=by grind [CY,kJ]
 unfold pZ;generalize (if(aL (gH 4 ⟨ts,0,0,0,0⟩).2).kind=7 then(gH 4 ⟨ts,0,0,0,0⟩).2 else bp (gH 4 ⟨ts,0,0,0,0⟩).2)=st1 at h2⊢
 split
 ·exact xQ h2 (.inl rfl) acK (Int.le_refl _)
 ·exact agH
theorem DJ(s):(aQ s).2.1=0∧(aQ s).2.2=0∧gC (aQ s).1=0∨
  ((aQ s).2.1=5∨(aQ s).2.1=6)∧0≤(aQ s).2.2∧(aQ s).2.2≤s.length∧(aQ s).1=oI:=by
 unfold aQ;cases h:sk s with
 |bad e a=>have:=yo h;exact .inr ⟨this.1,this.2.1,this.2.2,rfl⟩
 |ok ts=>
  have hf:=KO h;simp only[yI];split
  ·rename_i hb
   refine .inl ⟨rfl,rfl,?_⟩;simp only;unfold pZ at hb;generalize (if(aL (gH 4 ⟨ts,0,0,0,0⟩).2).kind=7 then(gH 4 ⟨ts,0,0,0,0⟩).2 else bp (gH 4 ⟨ts,0,0,0,0⟩).2)=st1 at hb
   split at hb
   ·simp_all [bI,if_pos,absurd,Int]
   omega
  ·rename_i hb
   exact .inr ⟨hf.1.resolve_left hb,hf.2.1,hf.2.2,rfl⟩
end Go.Bf
namespace Go.Bf
open Go Go.Ab Go.Proofs.YteaaeelhjnhaaaaGreatDoor
variable {k sz:Nat}{s:aq}{o:OpD}{cs:List aU}
theorem qR{p:bV}(h:gC p=0):mN 1 p:=by
 cases hw:kI ⟨[],0⟩ 1 p with
 |bad e=>have:=tP 4 1 _ _ e rfl hw;rw[gC,hw]at h;exact(this h).elim
 |ok m=>grind [Hi]
theorem Ql{fs:List fq}(h:∀f∈fs,eqV f.val an=false)(n:Txt):(fs.any fun f=>f.name==n)= !(eqV (eO fs n) an):=by
 induction fs with
 |nil=>rfl
 |cons f fs ih=>
  rw[E4,List.any_cons]
  grind
structure uj (c:aU):Prop where
 id:aK c.id=true
 owner:aK c.owner=true
 state:c.state∈pI
 asc:Ex c.fields
 nfields:c.fields.length≤16
 field:∀f∈c.fields,aK f.name=true∧aW f.val=true∧eqV f.val an=false
 log1:1≤c.log.length
 log2:c.log.length≤256
 actor:∀x∈c.log,aK x.actor=true∧i64 x.tick
structure di (k:Nat) (s:aq):Prop where
 tick:0≤s.tick∧s.tick≤1099511627776
 asc:Asc s.cases
 ncases:s.cases.length≤64
 case:∀c∈s.cases,uj c
 nrev:s.reviews.length≤1000
 nnot:s.notices.length≤1000
 roles:s.roles.length≤64
 role:∀r∈s.roles,aK r.subj=true∧aK r.role=true
 pol:gC s.policy=0
 ver:0≤s.version∧s.version≤k
theorem di.few(h:di k s):Few s:=by
 have h1:=h.ncases;have h2:=h.nrev;have h3:=h.nnot;have h4:=h.roles;refine⟨acK,fun c hc=>?_,fun c hc=>?_,acK,acK,acK⟩
 ·have:=(h.case c hc).nfields;omega
 ·have:=(h.case c hc).log2;omega
theorem di.mN(h:di k s):mN 1 s.policy:=qR h.pol
theorem di.F6(h:di k s):i64 s.tick:=by have:=h.tick;constructor<;>omega
theorem JD:di 0 wB:=by refine⟨acN,.nil,acN,fun c h=>adB,acN,acN,acN,fun r h=>adB,acY,acN⟩
theorem kC{s:Txt}(h:gM s=true)(hn:s≠ []):aK s=true:=by simp_all [gM,Bool.or_eq_true,beq_iff_eq]
structure PX (o:OpD):Prop where
 subj:aK o.subj=true
 kind:1≤o.kind∧o.kind≤8
 case:gM o.case=true
 field:gM o.field=true
 to:gM o.to=true
 val:eqV o.val an=true∨aW o.val=true
 text:o.text.length≤4096
 ok:okD o=true
theorem tg(h:dD o=true):PX o:=by simp only[dD,Bool.and_eq_true,decide_eq_true_eq,Bool.or_eq_true,dI]at h;obtain⟨⟨⟨⟨⟨⟨⟨h1,h2⟩,h3⟩,h4⟩,h5⟩,h6⟩,h7⟩,⟨⟨h8,h9⟩,h10⟩,h11⟩:=h;exact⟨h1,⟨h8,h9⟩,h4,h5,h6,h7,h3,h10⟩
theorem xS{a b:Txt}(h:mH a b=true):b∈pI:=by
 unfold mH at h;simp only[pI,List.mem_cons,List.not_mem_nil,or_false]
 grind
theorem mem_modify{α:Type}{l:List α}{i:Nat}{f:α→α}{x:α}(h:x∈l.modify i f):x∈l∨∃hi:i<l.length,x=f l[i]:=by
 obtain⟨j,hj,rfl⟩:=List.mem_iff_getElem.1 h
 grind
theorem kE{α β:Type}{l:List α}{i:Nat}{f:α→α}{g:α→β}(h:∀x,g (f x)=g x):(l.modify i f).map g=l.map g:=by
 refine List.ext_getElem acS fun j h1 h2=>?_
 grind
theorem BC{cs':List aU}(h:cs'.map (·.id)=cs.map (·.id))(ha:Asc cs):Asc cs' :=by
 unfold Asc at*;have h1:(cs.map (·.id)).Pairwise lt:=acL
 rw[←h,List.pairwise_map]at h1;exact h1
theorem N5{i:Nat}{c d:aU}(h:d∈cs.take i++ [c]++cs.drop i):d=c∨d∈cs:=by grind
theorem Mo(hs:di k s)(hr:bM s o=0):di (k+1) (doD aQ s o):=by
 have hf:dD o=true:=by
  unfold bM at hr
  grind
 have F:=tg hf;have vk:0≤s.version∧s.version≤((k+1:Nat):Int):=⟨hs.ver.1,by have:=hs.ver.2;omega⟩
 unfold bM at hr;rw[hf]at hr;simp only[Bool.true_eq_false,if_false]at hr;have hok:=F.ok;unfold okD at hok;have t64:=hs.F6;unfold doD
 by_cases k1:o.kind=1
 ·simp only[k1,if_true]at hr hok⊢
  have hno:bY s.cases o.case=false:=by grind
  rw[hno]at hr;simp only[Bool.false_eq_true,if_false]at hr;have hlt:¬64≤s.cases.length:=fun h=>agy
  have hc:aK o.case=true:=kC F.case acL;rw[ve hs.asc]at hno;refine {hs with asc:= ?_,ncases:= ?_,case:= ?_,ver:=vk}
  ·exact Gk hs.asc (jo s ⟨o.case,o.subj,jB,[],[]⟩ o.subj [110,101,119]) hno
  ·grind
  ·intro c h
   rcases N5 h with rfl|h
   ·exact⟨hc,F.subj,by simp[jo,pI],.nil,agQ,fun f h=>adB,agQ,agQ,fun x h=>by simp only[jo,List.nil_append,List.mem_singleton]at h;subst h;exact⟨F.subj,t64⟩⟩
   ·exact hs.case c h
 ·simp only[k1,if_false]at hr hok⊢
  by_cases k3:o.kind=3
  ·have hk:2≤o.kind∧o.kind≤4:=by omega
   simp only[hk,and_self,if_true]at hr;simp only[k3,if_true];have e2:¬(o.kind=2∨o.kind=6):=acK;simp only[k3,if_true,show¬((3:Int)=2∨(3:Int)=6) by decide,if_false,Bool.and_eq_true,Bool.not_eq_true']at hok
   have hth:bY s.cases o.case=true:=by
    unfold bX at hr
    grind
   unfold bX at hr;rw[hth]at hr;simp only[Bool.true_eq_false,if_false,k3,true_and]at hr;obtain⟨hm,hid⟩:=qo hs.asc hth;have hlt:=jD hth;have hce:bz s.cases o.case=s.cases[findD s.cases o.case]:=by simp_all [bz,if_pos]
   rw[hce]at hr hm;generalize hcc:s.cases[findD s.cases o.case]=c at hr hm;have hc:=hs.case c hm;have h16:¬(c.fields.length≥16∧eqV (eO c.fields o.field) an=true):=fun h=>by simp[h.1,h.2]at hr
   rw[if_neg h16]at hr;have hlg:¬c.log.length≥256:=fun h=>agy
   have hnf:aK o.field=true:=kC F.field acL;have hvz:eqV o.val an=false:=hok.2;have hv:aW o.val=true:=F.val.resolve_left acL;refine {hs with asc:= ?_,ncases:= ?_,case:= ?_,ver:=vk}
   ·exact BC (kE fun x=>rfl) hs.asc
   ·simpa using hs.ncases
   ·intro d hd
    rcases mem_modify hd with hd|⟨hi,rfl⟩
    ·exact hs.case d hd
    ·rw[hcc]
     have hany:=Ql (fun f hf=>(hc.field f hf).2.2) o.field
     have hlen:=Bm (v:=o.val) (name:=o.field) hc.asc;refine⟨hc.id,hc.owner,hc.state,Bl hc.asc,?_,?_,agQ,?_,?_⟩
     ·simp only[jo]
      rw[hlen,hany];have:=hc.nfields;cases he:eqV (eO c.fields o.field) an
      ·simp;omega
      ·rw[he]at h16;simp at h16⊢;omega
     ·intro f hf
      rcases vj hf with rfl|hf
      ·grind
      ·exact hc.field f hf
     ·grind [jo,acE,List.length_singleton]
     ·intro x hx
      exact ahZ
  ·simp only[k3,if_false]at hok⊢
   by_cases k4:o.kind=4
   ·have hk:2≤o.kind∧o.kind≤4:=by omega
    simp only[hk,and_self,if_true]at hr;simp only[k4,if_true];have hth:bY s.cases o.case=true:=by
     unfold bX at hr
     grind
    unfold bX at hr;rw[hth]at hr;simp only[Bool.true_eq_false,if_false,k4]at hr;obtain⟨hm,hid⟩:=qo hs.asc hth;have hlt:=jD hth;have hce:bz s.cases o.case=s.cases[findD s.cases o.case]:=by simp_all [bz,if_pos]
    rw[hce]at hr hm;generalize hcc:s.cases[findD s.cases o.case]=c at hr hm;have hc:=hs.case c hm;simp only[show¬((4:Int)=3) by decide,false_and,if_false,show((4:Int)≠2) by decide,ne_eq,not_false_eq_true,true_and,false_or]at hr
    have hlg:¬c.log.length≥256:=fun h=>agy
    rw[if_neg hlg]at hr;have hfo:mH c.state o.to=true:=by grind
    refine {hs with asc:= ?_,ncases:= ?_,case:= ?_,ver:=vk}
    ·exact BC (kE fun x=>rfl) hs.asc
    ·simpa using hs.ncases
    ·intro d hd
     rcases mem_modify hd with hd|⟨hi,rfl⟩
     ·exact hs.case d hd
     ·rw[hcc]
      refine⟨hc.id,hc.owner,xS hfo,hc.asc,hc.nfields,hc.field,agQ,?_,?_⟩
      ·grind [jo,acE,List.length_singleton]
      ·intro x hx
       exact ahZ
   ·simp only[k4,if_false]at hok⊢
    by_cases k5:o.kind=5
    ·simp only[k5,if_true]
     refine {hs with nrev:= ?_,ver:=vk}
     simpa using hs.nrev
    ·simp only[k5,if_false]at hok⊢
     by_cases k6:o.kind=6
     ·have hk:¬(2≤o.kind∧o.kind≤4):=by omega
      simp only[k6,if_true]at hr;simp only[k6,if_true];simp only[k6,or_true,if_true,Bool.and_eq_true]at hok;have hc:aK o.case=true:=kC F.case acL;have hfd:aK o.field=true:=kC F.field acL;cases hh:xY s.roles ⟨o.case,o.field⟩with
      |true=>simp only[if_true];exact {hs with ver:=vk}
      |false=>
       rw[hh]at hr;have hlt:¬s.roles.length≥64:=fun h=>agy
       simp only[Bool.false_eq_true,if_false];refine {hs with roles:= ?_,role:= ?_,ver:=vk}
       ·grind
       ·intro r h
        rcases List.mem_append.1 h with h|h
        ·exact hs.role r h
        grind
     ·simp only[k6,if_false]
      by_cases k7:o.kind=7
      ·simp only[k7,if_true]
       by_cases hp:(aQ o.text).2.1=0
       ·simp only[hp,if_true]
        have hr0:gC (aQ o.text).1=0:=by grind [DJ,absurd]
        refine {hs with pol:=hr0,ver:= ?_}
        have:=hs.ver;constructor
        ·grind
        grind
       ·simp only[hp,if_false]
        exact {hs with ver:=vk}
      ·simp only[k7,if_false]
       by_cases k8:o.kind=8
       ·simp only[k8,if_true]
        have hk:¬(2≤o.kind∧o.kind≤4):=acK;simp only[k8,if_true]at hr;have hlt:¬s.tick>1099511627776 - o.review:=fun h=>agy
        simp only[k8,show¬((8:Int)=2∨(8:Int)=6) by decide,if_false,if_true,Bool.and_eq_true,decide_eq_true_eq]at hok
        refine {hs with tick:= ?_,ver:=vk}
        have:=hs.tick;constructor
        ·grind
        grind
       ·simp only[k8,if_false]
        exact {hs with ver:=vk}
theorem pJ(o:OpD)(hs:di k s):di (k+1) (dU aQ s o):=by
 unfold dU
 by_cases h:bM s o=0
 ·simp_all [if_pos,Mo]
 ·rw[if_neg h]
  exact {hs with ver:=⟨hs.ver.1,by have:=hs.ver.2;omega⟩}
theorem fP.eq{xs:List AV}(j:Nat)(hj:j<xs.length)(hz:xs[j].cells.length=sz)(k:AV→Prop):fP xs (j:Int) sz k=k (.pe xs[j] 0):=propext ⟨fun h=>by
 obtain⟨_,b,hb,_,hk⟩:=h;have:xs[j]? =some xs[j]:=acS;rw[show((j:Int).toNat)=j by simp,this]at hb
 cases hb;exact hk,fun h=>fP.at j hj hz h⟩
def z7(l:List bt):Prop:=l.length≤16∧∀v∈l,aW v=true∧∀w∈l.head?,v.kind=w.kind
structure OV (gs:List br):Prop where
 len:gs.length≤64
 each:∀g∈gs,1≤g.cat∧g.cat≤4∧aK g.name=true∧z7 g.bag
 dist:gs.Pairwise fun a b=>iO b.cat b.name a=false
end Go.Bf
