/- The law GuardRuns: pack 3 of its texts. -/
import Derived.Laws.Externs
import Derived.Lib.Overlaps
import Derived.Test.YtmlhcdeamjkpjaaGreatDoorProg
import Derived.KernelRfl
import Derived.Lib.AtoiAll
import Derived.Test.YtmlhcdeamjkpjaaGreatDoorPk1
import Derived.Test.YtmlhcdeamjkpjaaGreatDoorPk2
set_option linter.unusedSimpArgs false
set_option linter.unusedVariables false
namespace Go.Ab
open Go
section
variable {P : Program} {U : TypeId → TI} {ρ : Env} {h h' : Heap} {sz : Nat} {y : AV} {xs : List AV} {e : TypeId}
def Rd (h:Heap) (sz:Nat) (y:AV) (xs:List AV):Prop:=
 Sized sz xs∧((∃q,y= .sl xs q)∨∃id off cap cs t,y= .ob id off xs.length cap sz∧h id=some (.obj cs t)∧off+xs.length*sz≤cs.length∧(cs.drop off).take (xs.length*sz)=aq xs)
theorem Rd.sl (hs:Sized sz xs) (q:Perm):Rd h sz (.sl xs q) xs:=⟨hs, .inl ⟨q,rfl⟩⟩
theorem Rd.sub (hb:Rd h sz y xs) (hs:Sub h h'):Rd h' sz y xs:=by
 obtain ⟨h1,hb|⟨id,off,cap,cs,t,rfl,h2,h3⟩⟩:=hb
 ·exact ⟨h1, .inl hb⟩
 ·exact ⟨h1, .inr ⟨id,off,cap,cs,t,rfl,hs _ _ h2,h3⟩⟩
theorem Rd.len (hb:Rd h sz y xs) (e:TypeId) (k:AV→Prop):v8 y k (.slice e)=k (.v (.int .i64 xs.length)):=by
 obtain ⟨_,⟨q,rfl⟩|⟨id,off,cap,cs,t,rfl,_⟩⟩:=hb<;>rfl
theorem Rd.cells (hb:Rd h sz y xs):y.cells= [y]:=by
 obtain ⟨_,⟨q,rfl⟩|⟨id,off,cap,cs,t,rfl,_⟩⟩:=hb<;>rfl
theorem Rd.fit (hb:Rd h sz y xs) (m:Nat):fit y m=(m=1):=by
 obtain ⟨_,⟨q,rfl⟩|⟨id,off,cap,cs,t,rfl,_⟩⟩:=hb<;>rfl
theorem Rd.src (hb:Rd h sz y xs) (hz:(U e).sz=sz) {f:List AV→Prop} (hf:f xs):iV U e h y f:=by
 obtain ⟨_,⟨q,rfl⟩|⟨id,off,cap,cs,t,rfl,h2,h3,h4⟩⟩:=hb
 ·exact hf
 ·rw [I6,h2]
  exact ⟨hz.symm,xs,rfl,h3,h4.symm,hf⟩
def At (h:Heap) (p x:AV) (o:Nat):Prop:=p= .pe x o∨∃id a cs t,p= .ptr id (a+o)∧h id=some (.obj cs t)∧a+x.cells.length≤cs.length∧(cs.drop a).take x.cells.length=x.cells
theorem At.sub {p x:AV} {o:Nat} (ha:At h p x o) (hs:Sub h h'):At h' p x o:=by
 rcases ha with rfl|⟨id,a,cs,t,rfl,h2,h3⟩
 ·exact .inl rfl
 ·exact .inr ⟨id,a,cs,t,rfl,hs _ _ h2,h3⟩
theorem Cd {cs:List AV} {x:AV} {a o:Nat} {i:TI} {k:AV→Prop} (h1:a+x.cells.length≤cs.length) (h2:(cs.drop a).take x.cells.length=x.cells) (h3:i.sz≠0) (h4:o+i.sz≤x.cells.length):gz cs (a+o) i k=gz x.cells o i k:=by
 unfold gz;split
 ·have e:(cs.drop (a+o)).take i.sz=(x.cells.drop o).take i.sz:=by
   rw [←h2,List.drop_take,List.take_take,List.drop_drop,Nat.min_eq_left (by omega)]
  rw [e];apply propext;constructor
  ·exact fun hk=>⟨h4,hk.2⟩
  ·exact fun hk=>⟨by omega,hk.2⟩
 ·have e:cs[a+o]? =x.cells[o]? :=by
   have:=congrArg (fun q=>q[o]?) h2
   simp only [List.getElem?_take,List.getElem?_drop,show o<x.cells.length by omega,if_true] at this
   exact this
  rw [e]
theorem At.part {p x:AV} {o:Nat} (ha:At h p x o) {ty:TypeId} (hz:(U ty).sz≠0) (hl:o+(U ty).sz≤x.cells.length) (k:AV→Prop):nR U h ty p k=gz x.cells o (U ty) k:=by
 rcases ha with rfl|⟨id,a,cs,t,rfl,h2,h3,h4⟩
 ·rw [Gq]
  unfold atA;split
  ·rename_i hc
   obtain ⟨rfl,hc2,hc3⟩:=hc;unfold gz;split
   ·rename_i hag
    rw [hag] at hc3;have:x= .agg x.cells:=by cases x<;>first|rfl|cases hc3
    rw [List.drop_zero,←hc2,List.take_length,Nat.zero_add,←this];simp
   ·rename_i hag
    have:bp x=false:=by rw [hc3]; simpa using hag
    rw [lI this];simp
  ·rfl
 ·rw [Es,h2]
  exact Cd h3 h4 hz hl
theorem At.all {p x:AV} (ha:At h p x 0) {ty:TypeId} (hz:(U ty).sz≠0) (hl:x.cells.length=(U ty).sz) (hg:bp x=(U ty).k.agg) (k:AV→Prop):nR U h ty p k=k x:=by
 rw [ha.part hz (by omega)]
 unfold gz;split
 ·rename_i hag
  rw [hag] at hg;have:x= .agg x.cells:=by cases x<;>first|rfl|cases hg
  rw [List.drop_zero,←hl,List.take_length,Nat.zero_add,←this];simp
 ·rename_i hag
  have:bp x=false:=by rw [hg]; simpa using hag
  rw [lI this];simp
theorem At.field {p x:AV} {o:Nat} (ha:At h p x o) {f off:Nat} {t:TypeId} {fs:List (Nat×TypeId)} {K:AV→Prop} (hf:fs[f]? =some (off,t)) (hz:(U t).sz≠0) (hk:∀p',At h p' x (o+off)→K p'):ux U f p K (.strct fs):=by
 rcases ha with rfl|⟨id,a,cs,t',rfl,h2,h3,h4⟩
 ·rw [DV,hf]
  exact ⟨hz,hk _ (.inl rfl)⟩
 ·rw [BF,hf]
  exact ⟨hz,hk _ (.inr ⟨id,a,cs,t',by rw [Nat.add_assoc],h2,h3,h4⟩)⟩
theorem Rd.idx (hb:Rd h sz y xs) {m:Int} {x:IntKind} {K:AV→Prop} (j:Nat) (hm:m=j) (hj:j<xs.length) (hz:(U e).sz=sz) (h0:sz≠0) (hk:∀p,At h p xs[j] 0→K p):nK U y (.v (.int x m)) K (.slice e):=by
 subst hm;have hc:=hb.1 xs[j] (Ul hj);obtain ⟨hs,⟨q,rfl⟩|⟨id,off,cap,cs,t,rfl,h2,h3,h4⟩⟩:=hb
 ·refine (xh ..).mpr ⟨by omega, ?_⟩
  exact fu.at j hj (by omega) (hk _ (.inl rfl))
 ·refine (xg ..).mpr ⟨by omega,hz.symm,by omega,by omega,hk _ (.inr ⟨id,off+j*sz,cs,t,by simp,h2, ?_, ?_⟩)⟩
  ·have:(j+1)*sz≤xs.length*sz:=Nat.mul_le_mul_right _ (by omega)
   rw [Nat.add_mul,Nat.one_mul] at this;rw [hc]; omega
  ·have e1:=l5 hs j hj
   rw [←h4,List.drop_take,List.take_take,List.drop_drop] at e1;rw [hc];have:(j+1)*sz≤xs.length*sz:=Nat.mul_le_mul_right _ (by omega)
   rw [Nat.add_mul,Nat.one_mul] at this;rw [Nat.min_eq_left (by omega)] at e1
   exact e1
def Ow (tb:TypeId) (h:Heap) (sz id:Nat) (y:AV) (xs:List AV):Prop:=
 ∃cap rest,y= .ob id 0 xs.length cap sz∧h id=some (.obj (aq xs++rest) tb)∧rest.length=(cap - xs.length)*sz∧xs.length≤cap∧Sized sz xs
variable {tb : TypeId} {id : Nat}
theorem Ow.rd (hw:Ow tb h sz id y xs):Rd h sz y xs:=by
 obtain ⟨cap,rest,rfl,h1,h2,h3,h4⟩:=hw;have hl:=aU h4;exact ⟨h4, .inr ⟨id,0,cap,_,tb,rfl,h1,by rw [Uk,hl]; omega,by rw [List.drop_zero,←hl,List.take_left]⟩⟩
theorem Ow.sub (hw:Ow tb h sz id y xs) (hs:Sub h h'):Ow tb h' sz id y xs:=by
 obtain ⟨cap,rest,e1,h1,h2⟩:=hw;exact ⟨cap,rest,e1,hs _ _ h1,h2⟩
theorem Ow.same (hw:Ow tb h sz id y xs) (hs:h' id=h id):Ow tb h' sz id y xs:=by
 obtain ⟨cap,rest,e1,h1,h2⟩:=hw;exact ⟨cap,rest,e1,hs.trans h1,h2⟩
theorem Ow.none (hw:Ow tb h sz id y xs):h id≠Option.none:=by
 obtain ⟨cap,rest,e1,h1,h2⟩:=hw;rw [h1]; simp
theorem Ow.make {cs:List AV} {cap:Nat} {rest:List AV} (hs:Sized sz xs) (hcs:cs=aq xs) {n:Nat} (hn:n=xs.length) (hc:n≤cap) (hr:rest.length=(cap - n)*sz):Ow tb (upd h id (some (.obj (cs++rest) tb))) sz id (.ob id 0 n cap sz) xs:=by
 subst hcs; subst hn
 exact ⟨cap,rest,rfl,ah ..,hr,hc,hs⟩
theorem jc.ow {cs:List AV} {n:Nat} {Q:AV→Heap→Prop} (hs:Sized sz xs) (hcs:cs=aq xs) (hn:n=xs.length) (hk:∀id y h',h id=Option.none→Ow tb h' sz id y xs→(∀j,j≠id→h' j=h j)→Q y h'):jc h cs n sz tb Q:=
 fun id cap rest hid hc hr=>hk id _ _ hid (Ow.make hs hcs hn hc hr) fun j hj=>ag _ _ hj
theorem EB {us vs:List AV} {o:Nat} {c:List AV}:over (us++vs) (us.length+o) c=us++over vs o c:=by
 simp only [Ab.over,Nat.add_assoc,List.take_length_add_append,List.drop_length_add_append,List.append_assoc]
theorem D5 {xs:List AV} (hs:Sized sz xs) (j:Nat) (hj:j<xs.length) (x:AV) (hx:x.cells.length=sz):aq (xs.set j x)=over (aq xs) (j*sz) x.cells:=by
 induction xs generalizing j with
 |nil=>cases hj
 |cons a r ih=>
  have h1:=hs a (List.mem_cons_self ..);have h2:Sized sz r:=fun z hz=>hs z (List.mem_cons_of_mem _ hz)
  cases j with
  |zero=>
   simp only [List.set_cons_zero,jg,Ab.over,Nat.zero_mul,List.take_zero,List.nil_append,Nat.zero_add];rw [hx,←h1,List.drop_left]
  |succ j=>
   have hj' :j<r.length:=by simpa using hj
   have e1:(j+1)*sz=a.cells.length+j*sz:=by rw [Nat.add_mul,Nat.one_mul,h1]; omega
   rw [List.set_cons_succ,jg,jg,ih h2 j hj',e1,EB]
theorem D4 {xs:List AV} (hs:Sized sz xs) (j:Nat) (hj:j<xs.length) (o:Nat) (c:List AV) (ho:o+c.length≤sz):over (aq xs) (j*sz+o) c=aq (xs.set j (.agg (over xs[j].cells o c))):=by
 have hc:=hs xs[j] (Ul hj);have hl:(over xs[j].cells o c).length=sz:=by rw [gy (by omega)]; exact hc
 rw [D5 hs j hj (.agg (over xs[j].cells o c)) hl];have hp:=l5 hs j hj;have hfl:=aU hs;have hb:(j+1)*sz≤xs.length*sz:=Nat.mul_le_mul_right _ (by omega)
 rw [Nat.add_mul,Nat.one_mul] at hb;have e1:(aq xs).take (j*sz+o)=(aq xs).take (j*sz)++xs[j].cells.take o:=by
  rw [←hp,List.take_take,Nat.min_eq_left (by omega),List.take_add]
 have e2:(aq xs).drop (j*sz+o+c.length)=xs[j].cells.drop (o+c.length)++(aq xs).drop (j*sz+sz):=by
  have e3:(aq xs).drop (j*sz)=xs[j].cells++(aq xs).drop (j*sz+sz):=by
   rw [←List.drop_drop,←hp,List.take_append_drop]
  rw [Nat.add_assoc,←List.drop_drop,e3,List.drop_append_of_le_length (by omega)]
 show over (aq xs) (j*sz+o) c=over (aq xs) (j*sz) (over xs[j].cells o c)
 have e4:j*sz+(over xs[j].cells o c).length=j*sz+sz:=by rw [hl]
 rw [Ab.over,Ab.over,e4,e1,e2];simp only [Ab.over,List.append_assoc]
theorem GI {us vs:List AV} {o:Nat} {c:List AV} (h1:o+c.length≤us.length):over (us++vs) o c=over us o c++vs:=by
 simp only [Ab.over];rw [List.take_append_of_le_length (by omega),List.drop_append_of_le_length (by omega)]
 simp [List.append_assoc]
theorem Ow.idx (hw:Ow tb h sz id y xs) {m:Int} {x:IntKind} {K:AV→Prop} (j:Nat) (hm:m=j) (hj:j<xs.length) (hz:(U e).sz=sz) (h0:sz≠0) (hk:K (.ptr id (j*sz))):nK U y (.v (.int x m)) K (.slice e):=by
 subst hm;obtain ⟨cap,rest,rfl,h1,h2,h3,h4⟩:=hw;refine (xg ..).mpr ⟨by omega,hz.symm,by omega,by omega, ?_⟩
 rw [Nat.zero_add,Int.toNat_natCast];exact hk
def OwE (tb:TypeId) (h0 h:Heap) (sz:Nat) (y:AV) (xs:List AV):Prop:=(xs= []∧y= .sl [] .full)∨∃id,h0 id=Option.none∧Ow tb h sz id y xs
variable {h0 : Heap}
theorem OwE.rd (hw:OwE tb h0 h sz y xs):Rd h sz y xs:=by
 rcases hw with ⟨rfl,rfl⟩|⟨id,_,hw⟩
 ·exact .sl (fun z hz=>by cases hz) _
 ·exact hw.rd
theorem OwE.sub (hw:OwE tb h0 h sz y xs) (hs:Sub h h'):OwE tb h0 h' sz y xs:=by
 rcases hw with hw|⟨id,h1,hw⟩
 ·exact .inl hw
 ·exact .inr ⟨id,h1,hw.sub hs⟩
theorem OwE.ow (hw:OwE tb h0 h sz y xs) (hn:xs≠ []):∃id,h0 id=Option.none∧Ow tb h sz id y xs:=by
 rcases hw with hw|hw
 ·exact (hn hw.1).elim
 ·exact hw
theorem OwE.app {v:AV} {zs:List AV} {Q:AV→Heap→Prop} (hw:OwE tb h0 h sz y xs) (hs0:Sub h0 h) (hb:Rd h sz v zs) (hz:(U tb).sz=sz) (h1:sz≠0) (hby:(U tb).bytes≠0) (hf:Ab.fit (U tb).zero sz) (hne:zs≠ []) (hlen:(xs.length+zs.length)*(U tb).bytes≤140737488355328)
  (hk:∀id y' h',h0 id=Option.none→(h id=Option.none∨∃l c,y= .ob id 0 l c sz)→Ow tb h' sz id y' (xs++zs)→(∀j,j≠id→h' j=h j)→Q y' h'):apK U h y v Q (.slice tb):=by
 subst hz;rcases hw with ⟨rfl,rfl⟩|⟨id,h2,cap,rest,rfl,h3,h4,h5,h6⟩
 ·refine (ue ..).mpr ⟨h1,hby,hb.src rfl ⟨by simp [Sized],hb.1,by simpa using hlen,fun hn=>(hne hn).elim,fun _=> ?_⟩⟩
  refine .ob hf (jc.ow (by simpa using hb.1) (by simp [aq]) (by simp) fun id y' h' hid hw ho=> ?_)
  exact hk id _ _ (hs0.none hid) (.inl hid) (by simpa using hw) ho
 ·have hl:=aU h6
  refine ⟨h1,hby,rfl,hb.src rfl ⟨hb.1,hlen, ?_⟩⟩;rw [h3];have hsz:Sized (U tb).sz (xs++zs):=fun z hz=>(List.mem_append.1 hz).elim (h6 z) (hb.1 z)
  refine ⟨by rw [Uk,hl]; omega,hf,fun hle=> ?_,fun hgt=> ?_⟩
  ·have hlz:=aU hb.1
   have hmul:(cap - xs.length)*(U tb).sz=zs.length*(U tb).sz+(cap - (xs.length+zs.length))*(U tb).sz:=by rw [←Nat.add_mul]; congr 1; omega
   refine hk id _ _ h2 (.inr ⟨_,_,rfl⟩) ⟨cap,rest.drop (zs.length*(U tb).sz),by rw [Uk], ?_, ?_,by rw [Uk]; omega,hsz⟩ fun j hj=>ag _ _ hj
   ·rw [ah,j3,Nat.zero_add,←hl,Ab.over,List.take_left,List.drop_append,List.drop_of_length_le (by omega),hlz]
    simp
   ·rw [List.length_drop,h4,Uk]; omega
  ·refine jc.ow hsz ?_ (by rw [Uk]) fun id' y' h' hid hw ho=> ?_
   ·rw [j3,List.drop_zero,←hl,List.take_left]
   ·exact hk id' _ _ (hs0.none hid) (.inl hid) hw ho
theorem sQ {f : FuncId} {fn : Func} {tS tR : TypeId} (hU : ∀ t, aP P U t) (hfn : P.funcs[f]? = some fn) (hname : (fn.name == "runtime.NumGoroutine") = false) (hb : fn.body.isNone = true) (hn : Extern.findNext fn = Option.none)
  (he:Extern.find fn=some (Extern.SlicesOverlaps.overlaps #[tS,tS] #[tR])) (hty:(U tS).k= .slice e) (hz:(U e).sz≠0) {q:Perm} (hx:Sized (U e).sz xs) (hne:xs≠ []) {id off len cap sz:Nat} {cs:List AV} {t:TypeId} (hid:h id=some (.obj cs t)) (hcs:cs≠ []):
  ak P f [.sl xs q, .ob id off len cap sz] h fun r h' =>r= .v (.bool false)∧h' =h:=by
 intro c vs hs g h1 h2;obtain ⟨a,cap0,sz0,val,hu,sl⟩:=(h2 0 (by simp)).gR
 obtain ⟨o,hv,_⟩:=(h2 1 (by simp)).ij
 have hd:=(hU tS).desc;rw [hty] at hd;have hpos:0<xs.length:=List.length_pos_iff.2 hne;have hcap:=sl.hc;obtain ⟨qa,rfl⟩:∃qa,a=some qa:=by
  cases a with
  |none=>have:=sl.h0 rfl; omega
  |some qa=>exact ⟨qa,rfl⟩
 have hs0:sz0=(U e).sz:=by rw [←sl.hz 0 hpos]; exact hx _ (Ul hpos)
 have hf:=sl.hf qa rfl 0 0 hpos (by omega)
 have hq:=(sl.hs qa rfl (by omega)).1
 have hcid:=hs _ _ hid;obtain ⟨us,u1,u2,u3⟩:=g.obj id cs t hcid;have hnb:qa.block≠(c.φ id).block:=fun hh=>hf.2 ⟨id,_,hcid,hh.symm,Nat.zero_le _⟩
 obtain ⟨ws,tw,fr,hws,hwlt⟩:∃ws tw fr,c.w.heap[qa.block]? =some (.cells ws tw fr)∧0<ws.size:=by
  have:=hf.1;simp only [World.cell?] at this;split at this
  ·rename_i ws tw fr hh
   refine ⟨ws,tw,fr,hh, ?_⟩;have hlt:=bY this;omega
  all_goals cases this
 have hvs:vs= #[.slice (some qa) xs.length cap0, .slice (some ⟨(c.φ id).block,o,Option.none⟩) len cap]:=by
  apply Array.ext
  ·simpa using h1
  ·intro i hi hi2
   have hi3:i<2:=by simpa using hi2
   rcases i with _|_|i
   ·simpa [Array.getD,hi] using hu
   ·simpa [Array.getD,hi] using hv
   ·omega
 subst hvs;refine .inr ⟨.bool false,c.w, ?_,c,_,h,rfl,g, .refl c, .v _,hs,rfl,rfl⟩;rw [Go.run_callFunc_extern hfn hname hb hn he];have key:(Extern.SlicesOverlaps.overlaps #[tS,tS] #[tR] #[.slice (some qa) xs.length cap0, .slice (some ⟨(c.φ id).block,o,Option.none⟩) len cap]).run P c.w= .ok (.bool false) c.w:=by
  have hnb1:(qa.block !=(c.φ id).block)=true:=by simpa using hnb
  have hnb2:(qa.block==(c.φ id).block)=false:=by simpa using hnb
  have hws2:∃m,ws.size=m+1:=⟨ws.size - 1,by omega⟩
  obtain ⟨m,hm⟩:=hws2
  change Sem.run P (α:=Value) (do
   let some t := (#[tS, tS] : Array TypeId)[0]? | stuck "slices.overlaps: no parameter types"
   let .slice elem ← underlying t | stuck "slices.overlaps: slice type expected"
   let size←sizeOf elem
   match (some qa:Option Addr),(some ⟨(c.φ id).block,o,Option.none⟩:Option Addr) with
   |some a,some b=>
    if xs.length=0∨len=0∨size=0 then pure (Value.bool false)
    else if a.block !=b.block && (←frozen a) && (←frozen b) then unsupported .addressObserved
    else do
     if a.block !=b.block then do
      noView a; noView b
      if ← mayBeOne a b then return Value.bool ((← choose (.extern "sameAddr.stringBytes" 2)) == 1)
     pure (Value.bool (a.block==b.block && a.off<b.off+len*size && b.off<a.off+xs.length*size))
   |_,_=>pure (Value.bool false)) c.w=_
  have hfb:∀x,c.w.frozen? ⟨(c.φ id).block,x,Option.none⟩=false:=fun x=>by simp [World.frozen?,u1]
  have hsb:c.w.shape? (c.φ id).block=some (t,us.size):=by simp [World.shape?,u1]
  have hsa:c.w.shape? qa.block=some (tw,m+1):=by simp [World.shape?,hws,hm]
  by_cases hl:len=0
  ·simp [run_underlying hd,br hU hz,hl]
  ·have hus:us.size≠0:=by rw [u2]; exact fun hh=>hcs (List.length_eq_zero_iff.1 hh)
   obtain ⟨n,hn'⟩:∃n,us.size=n+1:=⟨us.size - 1,by omega⟩
   rw [hn'] at hsb;cases hfa:c.w.frozen? qa<;>cases hfa2:c.w.frozen? {block:=qa.block,off:=m+1}<;>
    simp [run_underlying hd,br hU hz,hl,hne,hz,hnb1,hnb2,frozen,noView,viewAt,mayBeOne,stringish,shape,Sem.run,hsa,hsb,hfb,hfa,hfa2]
 rw [key];rfl
end
end Go.Ab
namespace Go.Bf
open Go Go.Ab
structure OpD where
 kind:Int
 subj:Txt
 case:Txt
 field:Txt
 to:Txt
 val:bR
 review:Int
 text:Txt
 reason:Txt
 glass:Bool
structure tW where
 tick:Int
 actor:Txt
 what:Txt
structure cL where
 name:Txt
 val:bR
structure aK where
 id:Txt
 owner:Txt
 state:Txt
 fields:List cL
 log:List tW
structure lW where
 id:Int
 tick:Int
 subj:Txt
 case:Txt
 action:Txt
 reason:Txt
 isOpen:Bool
structure Dz where
 tick:Int
 case:Txt
 arg:Txt
structure gj where
 subj:Txt
 role:Txt
structure an where
 tick:Int
 cases:List aK
 reviews:List lW
 notices:List Dz
 roles:List gj
 policy:bB
 version:Int
structure bf where
 cat:Int
 name:Txt
 bag:List bR
def opC (o:OpD):List AV:= [.v (.int .i64 o.kind), .s o.subj, .s o.case, .s o.field, .s o.to, .v (.int .i64 o.val.kind), .v (.int .i64 o.val.n), .s o.val.s, .v (.int .i64 o.review), .s o.text, .s o.reason, .v (.bool o.glass)]
def opA (o:OpD):AV:= .agg (opC o)
def gG (x:tW):AV:= .agg [.v (.int .i64 x.tick), .s x.actor, .s x.what]
def bE (f:cL):AV:= .agg [.s f.name, .v (.int .i64 f.val.kind), .v (.int .i64 f.val.n), .s f.val.s]
def fy (l:List cL):AV:= .sl (l.map bE) .no
def oQ (l:List tW):AV:= .sl (l.map gG) .no
def ko (c:aK):List AV:= [.s c.id, .s c.owner, .s c.state,fy c.fields,oQ c.log]
def bM (c:aK):AV:= .agg (ko c)
def je (l:List aK):AV:= .sl (l.map bM) .no
def fP (r:lW):AV:= .agg [.v (.int .i64 r.id), .v (.int .i64 r.tick), .s r.subj, .s r.case, .s r.action, .s r.reason, .v (.bool r.isOpen)]
def qP (l:List lW):AV:= .sl (l.map fP) .no
def kM (n:Dz):AV:= .agg [.v (.int .i64 n.tick), .s n.case, .s n.arg]
def sO (l:List Dz):AV:= .sl (l.map kM) .no
def dD (r:gj):AV:= .agg [.s r.subj, .s r.role]
def di (l:List gj):AV:= .sl (l.map dD) .no
def fl:bB→List AV
 | .mk id set alg tgt rules kids obls=> [.s id, .v (.bool set), .v (.int .i64 alg),aR tgt, .sl (rules.map aA) .no, .sl (eS kids) .no,ax obls]
theorem I1 (p:bB):aJ p= .agg (fl p):=by cases p; simp [aJ,fl]
def dj (s:an):AV:= .agg ([.v (.int .i64 s.tick),je s.cases,qP s.reviews,sO s.notices,di s.roles]++fl s.policy++ [.v (.int .i64 s.version)])
def jh (g:bf):AV:= .agg [.v (.int .i64 g.cat), .s g.name, .sl (g.bag.map aS) .no]
def bw (l:List bf):AV:= .sl (l.map jh) .no
def geB (a b:Txt):Bool:= !(Op.bytesLess a b)
def findD (cs:List aK) (id:Txt):Nat:=cs.findIdx fun c=>geB c.id id
def bG (cs:List aK) (id:Txt):Bool:=match cs[findD cs id]? with
 |some c=>c.id==id
 |none=>false
def az:bR:=⟨0,0,[]⟩
def kI:aK:=⟨[],[],[],[],[]⟩
def bl (cs:List aK) (id:Txt):aK:=if bG cs id then cs.getD (findD cs id) kI else kI
def dQ (fs:List cL) (name:Txt):bR:=match fs.find? fun f=>f.name==name with
 |some f=>f.val
 |none=>az
def nv (a b:gj):Bool:=a.subj==b.subj && a.role==b.role
def uG (l:List gj) (r:gj):Bool:=l.any (nv r)
def gw:Txt:= [111,112,101,110]
def tj:Txt:= [119,111,114,107]
def wW:Txt:= [100,111,110,101]
def ga:Txt:= [99,108,111,115,101,100]
def jE (a b:Txt):Bool:=
 if a==gw then b==tj else if a==tj then b==wW else if a==wW then b==tj||b==ga else false
def MS:List Txt:= [[110,101,119],[114,101,97,100],[119,114,105,116,101],[109,111,118,101],[99,108,111,115,101],[114,111,108,101],[112,111,108,105,99,121]]
def iJ (k:Int):Txt:=if k<1∨k>7 then [116,105,99,107] else MS.getD (k - 1).toNat []
def rJ (k:Int):Bool:=decide (1≤k) && decide (k≤4)
def iL (s:Txt):Bool:=s== []||bn s
def kZ (o:OpD):Bool:=if o.glass then rJ o.kind && (!(o.reason== [])) && decide (o.reason.length≤64) else o.reason== []
def gO (o:OpD):OpD:=
 let z:OpD:=⟨o.kind,[],[],[],[],az,0,[],[],false⟩
 if o.kind=1 then {z with case:=o.case}
 else if o.kind=2∨o.kind=6 then {z with case:=o.case,field:=o.field}
 else if o.kind=3 then {z with case:=o.case,field:=o.field,val:=o.val}
 else if o.kind=4 then {z with case:=o.case,to:=o.to}
 else if o.kind=5∨o.kind=8 then {z with review:=o.review}
 else {z with text:=o.text}
def eqV (a b:bR):Bool:=a.kind==b.kind && (a.n==b.n && a.s==b.s)
def kL (a b:OpD):Bool:=a.kind==b.kind && (a.subj==b.subj && (a.case==b.case && (a.field==b.field && (a.to==b.to && (a.val.kind==b.val.kind && (a.val.n==b.val.n && (a.val.s==b.val.s && (a.review==b.review && (a.text==b.text && (a.reason==b.reason && a.glass==b.glass))))))))))
def okD (o:OpD):Bool:=
 if o.kind=1 then !(o.case== [])
 else if o.kind=2∨o.kind=6 then !(o.case== []) && !(o.field== [])
 else if o.kind=3 then !(o.case== []) && !(o.field== []) && !(eqV o.val az)
 else if o.kind=4 then !(o.case== []) && !(o.to== [])
 else if o.kind=5 then decide (0<o.review)
 else if o.kind=8 then decide (0<o.review) && decide (o.review≤1099511627776)
 else true
def fY (o:OpD):OpD:= {o with subj:= [],reason:= [],glass:=false}
def cX (o:OpD):Bool:=decide (1≤o.kind) && decide (o.kind≤8) && okD o && kL (fY o) (gO o)
def fq (o:OpD):Bool:=bn o.subj && kZ o && decide (o.text.length≤4096) && iL o.case && iL o.field && iL o.to && (eqV o.val az||bX o.val) && cX o
def bP (s:an) (o:OpD):Int:=
 let c:=bl s.cases o.case
 if bG s.cases o.case=false then 10
 else if o.kind=3∧c.fields.length≥16∧eqV (dQ c.fields o.field) az=true then 6
 else if o.kind≠2∧c.log.length≥256 then 6
 else if o.kind=3∧c.state=ga∨o.kind=4∧jE c.state o.to=false then 13
 else 0
def sU (l:List lW) (n:Int):Option lW:=if 1≤n then l[(n - 1).toNat]? else none
def fj (s:an) (o:OpD):Int:=match sU s.reviews o.review with
 |none=>10
 |some r=>if r.isOpen=false then 10 else if r.subj=o.subj then 12 else 0
def bD (s:an) (o:OpD):Int:=
 if fq o=false then 1
 else if o.kind=1 then (if bG s.cases o.case then 11 else if s.cases.length≥64 then 6 else 0)
 else if 2≤o.kind∧o.kind≤4 then bP s o
 else if o.kind=5 then fj s o
 else if o.kind=6 then (if s.roles.length≥64∧uG s.roles ⟨o.case,o.field⟩=false then 6 else 0)
 else if o.kind=8 then (if s.tick>1099511627776 - o.review then 6 else 0)
 else 0
def idV (s:Txt):bR:=⟨5,0,s⟩
def qV (l:List tW) (subj:Txt):bR:=⟨1,if l.any (fun x=>x.actor==subj) then 1 else 0,[]⟩
def idT:Txt:= [105,100]
def cq (c:aK) (subj:Txt):List bf:=
 [⟨3,idT,[idV c.id]⟩,⟨3,[111,119,110,101,114],[idV c.owner]⟩,⟨3,[115,116,97,116,101],[idV c.state]⟩,⟨3,[101,118,101,110,116,115],[⟨2,c.log.length,[]⟩]⟩,⟨3,[116,111,111,107],[qV c.log subj]⟩]++
 (match c.log.getLast? with
  |some x=> [⟨3,[108,97,115,116],[idV x.actor]⟩]
  |none=> [])++
 (c.fields.filter fun f=>decide (f.name.length≤14)).map fun f=>⟨3,[102,95]++f.name,[f.val]⟩
def cK (l:List gj) (subj:Txt):List bR:=((l.filter fun r=>r.subj==subj).map fun r=>idV r.role).take 16
def eT (s:an) (o:OpD):List bf:=
 [⟨1,idT,[idV o.subj]⟩,⟨1,[114,111,108,101],cK s.roles o.subj⟩,⟨2,[110,97,109,101],[idV (iJ o.kind)]⟩]++
 (if o.field= [] then [] else [⟨2,[102,105,101,108,100],[idV o.field]⟩])++
 (if o.to= [] then [] else [⟨2,[116,111],[idV o.to]⟩])++
 [⟨4,[110,111,119],[⟨4,s.tick,[]⟩]⟩]++
 (if bG s.cases o.case=true∧o.kind≠6 then cq (bl s.cases o.case) o.subj else [])
def dW (fs:List cL) (name:Txt) (v:bR):List cL:=
 let i:=fs.findIdx fun f=>geB f.name name
 match fs[i]? with
 |none=>fs++ [⟨name,v⟩]
 |some f=>if f.name=name then fs.set i ⟨f.name,v⟩ else fs.take i++ [⟨name,v⟩]++fs.drop i
def hY (s:an) (c:aK) (actor what:Txt):aK:= {c with log:=c.log++ [⟨s.tick,actor,what⟩]}
def doD (par:Txt→bB×Int×Int) (s:an) (o:OpD):an:=
 let i:=findD s.cases o.case
 if o.kind=1 then {s with cases:=s.cases.take i++ [hY s ⟨o.case,o.subj,gw,[],[]⟩ o.subj [110,101,119]]++s.cases.drop i}
 else if o.kind=3 then {s with cases:=s.cases.modify i fun c=>hY s {c with fields:=dW c.fields o.field o.val} o.subj [119,114,105,116,101]}
 else if o.kind=4 then {s with cases:=s.cases.modify i fun c=>hY s {c with state:=o.to} o.subj o.to}
 else if o.kind=5 then {s with reviews:=s.reviews.modify (o.review - 1).toNat fun r=> {r with isOpen:=false}}
 else if o.kind=6 then (if uG s.roles ⟨o.case,o.field⟩ then s else {s with roles:=s.roles++ [⟨o.case,o.field⟩]})
 else if o.kind=7 then (if (par o.text).2.1=0 then {s with policy:=(par o.text).1,version:=s.version+1} else s)
 else if o.kind=8 then {s with tick:=s.tick+o.review}
 else s
def dw (par:Txt→bB×Int×Int) (s:an) (o:OpD):an:=if bD s o=0 then doD par s o else s
def i64 (n:Int):Prop:= -9223372036854775808≤n∧n≤9223372036854775807
end Go.Bf
namespace Go.Proofs.YtmlhcdeamjkpjaaGreatDoor
open Go Go.Ab
abbrev Uo:TI:=⟨.other,1,8, .v .nilFunc,none⟩
def HB:List TI:= [
 ⟨.other,0,0,default,none⟩,
 Uo,
 ⟨.int .i64,1,8, .v (.int .i64 0),some (0,[.int .i64])⟩,
 ⟨.int .i64,1,8, .v (.int .i64 0),some (0,[.int .i64])⟩,
 ⟨.bool,1,1, .v (.bool false),some (0,[.bool])⟩,
 ⟨.int .u8,1,1, .v (.int .u8 0),some (0,[.int .u8])⟩,
 ⟨.int .u8,1,1, .v (.int .u8 0),some (0,[.int .u8])⟩,
 ⟨.strct [(0,2),(1,3),(2,4),(3,6)],4,24, .agg [.v (.int .i64 0), .v (.int .i64 0), .v (.bool false), .v (.int .u8 0)],none⟩,
 ⟨.strct [(0,2),(1,3),(2,4),(3,6)],4,24, .agg [.v (.int .i64 0), .v (.int .i64 0), .v (.bool false), .v (.int .u8 0)],none⟩,
 ⟨.str,1,16, .s [],some (0,[.str])⟩,
 ⟨.str,1,16, .s [],some (0,[.str])⟩,
 ⟨.str,1,16, .s [],some (0,[.str])⟩,
 ⟨.int .u64,1,8, .v (.int .u64 0),some (0,[.int .u64])⟩,
 ⟨.strct [(0,9),(1,12)],2,24, .agg [.s [], .v (.int .u64 0)],none⟩,
 ⟨.strct [(0,9),(1,12)],2,24, .agg [.s [], .v (.int .u64 0)],none⟩,
 ⟨.ptr 400,1,8, .v (.pointer none),none⟩,
 ⟨.ptr 403,1,8, .v (.pointer none),none⟩,
 ⟨.ptr 411,1,8, .v (.pointer none),none⟩,
 ⟨.strct [(0,17)],1,8, .agg [.v (.pointer none)],none⟩,
 ⟨.strct [(0,17)],1,8, .agg [.v (.pointer none)],none⟩,
 ⟨.iface,1,16, .v .nilIface,none⟩,
 ⟨.int .i32,1,4, .v (.int .i32 0),some (0,[.int .i32])⟩,
 ⟨.slice 44,1,24, .sl [] .full,none⟩,
 Uo,
 ⟨.slice 57,1,24, .sl [] .full,none⟩,
 ⟨.slice 82,1,24, .sl [] .full,none⟩,
 ⟨.slice 98,1,24, .sl [] .full,none⟩,
 ⟨.slice 71,1,24, .sl [] .full,none⟩,
 ⟨.slice 243,1,24, .sl [] .full,none⟩,
 ⟨.slice 243,1,24, .sl [] .full,none⟩,
 ⟨.slice 181,1,24, .sl [] .full,none⟩,
 ⟨.slice 34,1,24, .sl [] .full,none⟩,
 ⟨.slice 90,1,24, .sl [] .full,none⟩,
 ⟨.strct [(0,9),(1,4),(2,3),(3,29),(4,30),(5,31),(6,32)],7,128, .agg [.s [], .v (.bool false), .v (.int .i64 0), .sl [] .full, .sl [] .full, .sl [] .full, .sl [] .full],none⟩,
 ⟨.strct [(0,9),(1,4),(2,3),(3,29),(4,30),(5,31),(6,32)],7,128, .agg [.s [], .v (.bool false), .v (.int .i64 0), .sl [] .full, .sl [] .full, .sl [] .full, .sl [] .full],none⟩,
 ⟨.strct [(0,3),(1,24),(2,25),(3,26),(4,27),(5,34),(12,3)],13,240, .agg [.v (.int .i64 0), .sl [] .full, .sl [] .full, .sl [] .full, .sl [] .full, .s [], .v (.bool false), .v (.int .i64 0), .sl [] .full, .sl [] .full, .sl [] .full, .sl [] .full, .v (.int .i64 0)],none⟩,
 ⟨.strct [(0,3),(1,24),(2,25),(3,26),(4,27),(5,34),(12,3)],13,240, .agg [.v (.int .i64 0), .sl [] .full, .sl [] .full, .sl [] .full, .sl [] .full, .s [], .v (.bool false), .v (.int .i64 0), .sl [] .full, .sl [] .full, .sl [] .full, .sl [] .full, .v (.int .i64 0)],none⟩,
 Uo,
 ⟨.ptr 61,1,8, .v (.pointer none),none⟩,
 Uo,
 Uo,
 ⟨.strct [(0,3),(1,3),(2,9)],3,32, .agg [.v (.int .i64 0), .v (.int .i64 0), .s []],some (1,[.int .i64, .int .i64, .str])⟩,
 ⟨.strct [(0,3),(1,3),(2,9)],3,32, .agg [.v (.int .i64 0), .v (.int .i64 0), .s []],some (1,[.int .i64, .int .i64, .str])⟩,
 ⟨.strct [(0,3),(1,9),(2,9),(3,9),(4,9),(5,42),(8,3),(9,9),(10,9),(11,4)],12,152, .agg [.v (.int .i64 0), .s [], .s [], .s [], .s [], .v (.int .i64 0), .v (.int .i64 0), .s [], .v (.int .i64 0), .s [], .s [], .v (.bool false)],some (2,[.int .i64, .str, .str, .str, .str, .int .i64, .int .i64, .str, .int .i64, .str, .str, .bool])⟩,
 ⟨.strct [(0,3),(1,9),(2,9),(3,9),(4,9),(5,42),(8,3),(9,9),(10,9),(11,4)],12,152, .agg [.v (.int .i64 0), .s [], .s [], .s [], .s [], .v (.int .i64 0), .v (.int .i64 0), .s [], .v (.int .i64 0), .s [], .s [], .v (.bool false)],some (2,[.int .i64, .str, .str, .str, .str, .int .i64, .int .i64, .str, .int .i64, .str, .str, .bool])⟩,
 Uo,
 ⟨.int .i64,1,8, .v (.int .i64 0),some (0,[.int .i64])⟩,
 Uo,
 Uo,
 Uo,
 ⟨.slice 123,1,24, .sl [] .full,none⟩,
 Uo,
 ⟨.other,0,0,default,none⟩,
 Uo,
 ⟨.slice 131,1,24, .sl [] .full,none⟩,
 ⟨.slice 96,1,24, .sl [] .full,none⟩,
 ⟨.strct [(0,9),(1,9),(2,9),(3,54),(4,55)],5,96, .agg [.s [], .s [], .s [], .sl [] .full, .sl [] .full],none⟩,
 ⟨.strct [(0,9),(1,9),(2,9),(3,54),(4,55)],5,96, .agg [.s [], .s [], .s [], .sl [] .full, .sl [] .full],none⟩,
 ⟨.other,0,0,default,none⟩,
 Uo,
 Uo,
 ⟨.strct [(0,3),(1,24),(2,25),(3,26),(4,27),(5,34),(12,3)],13,240, .agg [.v (.int .i64 0), .sl [] .full, .sl [] .full, .sl [] .full, .sl [] .full, .s [], .v (.bool false), .v (.int .i64 0), .sl [] .full, .sl [] .full, .sl [] .full, .sl [] .full, .v (.int .i64 0)],none⟩,
 Uo,
 Uo,
 Uo,
 Uo,
 Uo,
 Uo,
 Uo,
 Uo,
 ⟨.strct [(0,9),(1,9)],2,32, .agg [.s [], .s []],some (1,[.str, .str])⟩,
 ⟨.strct [(0,9),(1,9)],2,32, .agg [.s [], .s []],some (1,[.str, .str])⟩,
 Uo,
 ⟨.cplx .f64,1,16, .v (.complex .f64 0 0),some (0,[.cplx .f64])⟩,
 ⟨.cplx .f64,1,16, .v (.complex .f64 0 0),some (0,[.cplx .f64])⟩,
 ⟨.strct [(0,46),(1,74),(2,4),(3,42),(6,4),(7,3)],8,80, .agg [.v (.int .i64 0), .v (.complex .f64 0 0), .v (.bool false), .v (.int .i64 0), .v (.int .i64 0), .s [], .v (.bool false), .v (.int .i64 0)],some (2,[.int .i64, .cplx .f64, .bool, .int .i64, .int .i64, .str, .bool, .int .i64])⟩,
 ⟨.strct [(0,46),(1,74),(2,4),(3,42),(6,4),(7,3)],8,80, .agg [.v (.int .i64 0), .v (.complex .f64 0 0), .v (.bool false), .v (.int .i64 0), .v (.int .i64 0), .s [], .v (.bool false), .v (.int .i64 0)],some (2,[.int .i64, .cplx .f64, .bool, .int .i64, .int .i64, .str, .bool, .int .i64])⟩,
 ⟨.strct [(0,44),(12,3),(13,74),(14,4),(15,32)],16,208, .agg [.v (.int .i64 0), .s [], .s [], .s [], .s [], .v (.int .i64 0), .v (.int .i64 0), .s [], .v (.int .i64 0), .s [], .s [], .v (.bool false), .v (.int .i64 0), .v (.complex .f64 0 0), .v (.bool false), .sl [] .full],none⟩,
 ⟨.strct [(0,44),(12,3),(13,74),(14,4),(15,32)],16,208, .agg [.v (.int .i64 0), .s [], .s [], .s [], .s [], .v (.int .i64 0), .v (.int .i64 0), .s [], .v (.int .i64 0), .s [], .s [], .v (.bool false), .v (.int .i64 0), .v (.complex .f64 0 0), .v (.bool false), .sl [] .full],none⟩,
 ⟨.other,0,0,default,none⟩,
 Uo,
 ⟨.strct [(0,3),(1,3),(2,9),(3,9),(4,9),(5,9),(6,4)],7,88, .agg [.v (.int .i64 0), .v (.int .i64 0), .s [], .s [], .s [], .s [], .v (.bool false)],some (1,[.int .i64, .int .i64, .str, .str, .str, .str, .bool])⟩,
 ⟨.strct [(0,3),(1,3),(2,9),(3,9),(4,9),(5,9),(6,4)],7,88, .agg [.v (.int .i64 0), .v (.int .i64 0), .s [], .s [], .s [], .s [], .v (.bool false)],some (1,[.int .i64, .int .i64, .str, .str, .str, .str, .bool])⟩,
 Uo,
 ⟨.strct [(0,74),(1,32)],2,40, .agg [.v (.complex .f64 0 0), .sl [] .full],none⟩,
 ⟨.strct [(0,74),(1,32)],2,40, .agg [.v (.complex .f64 0 0), .sl [] .full],none⟩,
 ⟨.other,0,0,default,none⟩,
 Uo,
 Uo,
 ⟨.strct [(0,3),(1,3),(2,9)],3,32, .agg [.v (.int .i64 0), .v (.int .i64 0), .s []],some (1,[.int .i64, .int .i64, .str])⟩,
 ⟨.strct [(0,3),(1,3),(2,9)],3,32, .agg [.v (.int .i64 0), .v (.int .i64 0), .s []],some (1,[.int .i64, .int .i64, .str])⟩,
 Uo,
 Uo,
 Uo,
 Uo,
 ⟨.strct [(0,3),(1,9),(2,9)],3,40, .agg [.v (.int .i64 0), .s [], .s []],some (1,[.int .i64, .str, .str])⟩,
 ⟨.strct [(0,3),(1,9),(2,9)],3,40, .agg [.v (.int .i64 0), .s [], .s []],some (1,[.int .i64, .str, .str])⟩,
 ⟨.strct [(0,3),(1,9),(2,9)],3,40, .agg [.v (.int .i64 0), .s [], .s []],some (1,[.int .i64, .str, .str])⟩,
 ⟨.strct [(0,3),(1,9),(2,9)],3,40, .agg [.v (.int .i64 0), .s [], .s []],some (1,[.int .i64, .str, .str])⟩,
 Uo,
 Uo,
 Uo,
 Uo,
 Uo,
 Uo,
 ⟨.slice 78,1,24, .sl [] .full,none⟩,
 Uo,
 ⟨.other,0,0,default,none⟩,
 Uo,
 Uo,
 ⟨.slice 3,1,24, .sl [] .full,none⟩,
 Uo,
 Uo,
 Uo,
 Uo,
 ⟨.other,0,0,default,none⟩,
 Uo,
 ⟨.other,0,0,default,none⟩,
 Uo,
 Uo,
 Uo,
 ⟨.slice 42,1,24, .sl [] .full,none⟩,
 ⟨.strct [(0,3),(1,9),(2,121)],3,48, .agg [.v (.int .i64 0), .s [], .sl [] .full],none⟩,
 ⟨.strct [(0,3),(1,9),(2,121)],3,48, .agg [.v (.int .i64 0), .s [], .sl [] .full],none⟩,
 Uo,
 Uo,
 Uo,
 Uo,
 Uo,
 Uo,
 ⟨.strct [(0,9),(1,42)],4,48, .agg [.s [], .v (.int .i64 0), .v (.int .i64 0), .s []],some (2,[.str, .int .i64, .int .i64, .str])⟩,
 ⟨.strct [(0,9),(1,42)],4,48, .agg [.s [], .v (.int .i64 0), .v (.int .i64 0), .s []],some (2,[.str, .int .i64, .int .i64, .str])⟩,
 Uo,
 Uo,
 Uo,
 Uo,
 Uo,
 Uo,
 Uo,
 ⟨.ptr 57,1,8, .v (.pointer none),none⟩,
 Uo,
 Uo,
 Uo,
 Uo,
 Uo,
 Uo,
 Uo,
 Uo,
 ⟨.ptr 36,1,8, .v (.pointer none),none⟩,
 Uo,
 Uo,
 Uo,
 Uo,
 Uo,
 Uo,
 Uo,
 Uo,
 ⟨.other,0,0,default,none⟩,
 Uo,
 Uo,
 ⟨.slice 168,1,24, .sl [] .full,none⟩,
 ⟨.other,0,0,default,none⟩,
 Uo,
 ⟨.ptr 165,1,8, .v (.pointer none),none⟩,
 ⟨.strct [(0,160),(1,3),(2,3),(3,46),(4,3)],5,56, .agg [.sl [] .full, .v (.int .i64 0), .v (.int .i64 0), .v (.int .i64 0), .v (.int .i64 0)],none⟩,
 ⟨.strct [(0,160),(1,3),(2,3),(3,46),(4,3)],5,56, .agg [.sl [] .full, .v (.int .i64 0), .v (.int .i64 0), .v (.int .i64 0), .v (.int .i64 0)],none⟩,
 Uo,
 ⟨.strct [(0,3),(1,3),(2,3),(3,9)],4,40, .agg [.v (.int .i64 0), .v (.int .i64 0), .v (.int .i64 0), .s []],some (1,[.int .i64, .int .i64, .int .i64, .str])⟩,
 ⟨.strct [(0,3),(1,3),(2,3),(3,9)],4,40, .agg [.v (.int .i64 0), .v (.int .i64 0), .v (.int .i64 0), .s []],some (1,[.int .i64, .int .i64, .int .i64, .str])⟩,
 Uo,
 Uo,
 ⟨.other,0,0,default,none⟩,
 Uo,
 ⟨.ptr 175,1,8, .v (.pointer none),none⟩,
 ⟨.strct [(0,160),(1,3),(2,3),(3,3),(4,3)],5,56, .agg [.sl [] .full, .v (.int .i64 0), .v (.int .i64 0), .v (.int .i64 0), .v (.int .i64 0)],none⟩,
 ⟨.strct [(0,160),(1,3),(2,3),(3,3),(4,3)],5,56, .agg [.sl [] .full, .v (.int .i64 0), .v (.int .i64 0), .v (.int .i64 0), .v (.int .i64 0)],none⟩,
 Uo,
 Uo,
 Uo,
 ⟨.slice 186,1,24, .sl [] .full,none⟩,
 ⟨.strct [(0,9),(1,4),(2,29),(3,179),(4,32)],5,96, .agg [.s [], .v (.bool false), .sl [] .full, .sl [] .full, .sl [] .full],none⟩,
 ⟨.strct [(0,9),(1,4),(2,29),(3,179),(4,32)],5,96, .agg [.s [], .v (.bool false), .sl [] .full, .sl [] .full, .sl [] .full],none⟩,
 Uo,
 ⟨.strct [(0,3),(1,9),(2,4)],3,32, .agg [.v (.int .i64 0), .s [], .v (.bool false)],some (1,[.int .i64, .str, .bool])⟩,
 ⟨.strct [(0,3),(1,9),(2,4)],3,32, .agg [.v (.int .i64 0), .s [], .v (.bool false)],some (1,[.int .i64, .str, .bool])⟩,
 ⟨.strct [(0,3),(1,42),(4,184)],7,72, .agg [.v (.int .i64 0), .v (.int .i64 0), .v (.int .i64 0), .s [], .v (.int .i64 0), .s [], .v (.bool false)],some (2,[.int .i64, .int .i64, .int .i64, .str, .int .i64, .str, .bool])⟩,
 ⟨.strct [(0,3),(1,42),(4,184)],7,72, .agg [.v (.int .i64 0), .v (.int .i64 0), .v (.int .i64 0), .s [], .v (.int .i64 0), .s [], .v (.bool false)],some (2,[.int .i64, .int .i64, .int .i64, .str, .int .i64, .str, .bool])⟩,
 Uo,
 Uo,
 ⟨.slice 9,1,24, .sl [] .full,none⟩,
 Uo,
 Uo,
 Uo,
 Uo,
 Uo,
 Uo,
 Uo,
 Uo,
 Uo,
 Uo,
 Uo,
 Uo,
 Uo,
 Uo,
 Uo,
 ⟨.ptr 208,1,8, .v (.pointer none),none⟩,
 ⟨.map 9 323,1,8, .v (.map none),none⟩,
 ⟨.strct [(0,206),(1,3)],2,16, .agg [.v (.map none), .v (.int .i64 0)],none⟩,
 ⟨.strct [(0,206),(1,3)],2,16, .agg [.v (.map none), .v (.int .i64 0)],none⟩,
 Uo,
 Uo,
 ⟨.slice 85,1,24, .sl [] .full,none⟩,
 Uo,
 Uo,
 Uo,
 ⟨.slice 74,1,24, .sl [] .full,none⟩,
 ⟨.other,0,0,default,none⟩,
 Uo,
 Uo,
 Uo,
 ⟨.other,0,0,default,none⟩,
 Uo,
 Uo,
 Uo,
 Uo,
 Uo,
 Uo,
 Uo,
 Uo,
 Uo,
 Uo,
 ⟨.int .u64,1,8, .v (.int .u64 0),some (0,[.int .u64])⟩,
 ⟨.other,0,0,default,none⟩,
 Uo,
 ⟨.other,0,0,default,none⟩,
 Uo,
 ⟨.slice 5,1,24, .sl [] .full,none⟩,
 Uo,
 Uo,
 ⟨.ptr 241,1,8, .v (.pointer none),none⟩,
 ⟨.strct [(0,189),(1,3)],2,32, .agg [.sl [] .full, .v (.int .i64 0)],none⟩,
 ⟨.strct [(0,189),(1,3)],2,32, .agg [.sl [] .full, .v (.int .i64 0)],none⟩,
 Uo,
 ⟨.slice 247,1,24, .sl [] .full,none⟩,
 Uo,
 ⟨.strct [(0,184),(3,3),(4,42)],7,72, .agg [.v (.int .i64 0), .s [], .v (.bool false), .v (.int .i64 0), .v (.int .i64 0), .v (.int .i64 0), .s []],some (2,[.int .i64, .str, .bool, .int .i64, .int .i64, .int .i64, .str])⟩,
 ⟨.strct [(0,184),(3,3),(4,42)],7,72, .agg [.v (.int .i64 0), .s [], .v (.bool false), .v (.int .i64 0), .v (.int .i64 0), .v (.int .i64 0), .s []],some (2,[.int .i64, .str, .bool, .int .i64, .int .i64, .int .i64, .str])⟩,
 ⟨.slice 246,1,24, .sl [] .full,none⟩,
 Uo,
 Uo,
 Uo,
 Uo,
 Uo,
 Uo,
 Uo,
 Uo,
 Uo,
 Uo,
 Uo,
 Uo,
 Uo,
 Uo,
 ⟨.other,0,0,default,none⟩,
 Uo,
 Uo,
 Uo,
 Uo,
 ⟨.other,0,0,default,none⟩,
 Uo,
 ⟨.other,0,0,default,none⟩,
 Uo,
 ⟨.other,0,0,default,none⟩,
 Uo,
 Uo,
 Uo,
 Uo,
 Uo,
 ⟨.other,0,0,default,none⟩,
 Uo,
 ⟨.int .u64,1,8, .v (.int .u64 0),some (0,[.int .u64])⟩,
 Uo,
 Uo,
 ⟨.other,0,0,default,none⟩,
 Uo,
 Uo,
 Uo,
 Uo,
 Uo,
 Uo,
 Uo,
 ⟨.other,0,0,default,none⟩,
 Uo,
 Uo,
 Uo,
 Uo,
 ⟨.other,0,0,default,none⟩,
 Uo,
 ⟨.strct [(0,121),(1,42),(4,46)],5,64, .agg [.sl [] .full, .v (.int .i64 0), .v (.int .i64 0), .s [], .v (.int .i64 0)],none⟩,
 ⟨.strct [(0,121),(1,42),(4,46)],5,64, .agg [.sl [] .full, .v (.int .i64 0), .v (.int .i64 0), .s [], .v (.int .i64 0)],none⟩,
 Uo,
 Uo,
 ⟨.other,0,0,default,none⟩,
 Uo,
 ⟨.other,0,0,default,none⟩,
 Uo,
 ⟨.other,0,0,default,none⟩,
 Uo,
 Uo,
 Uo,
 ⟨.iface,1,16, .v .nilIface,none⟩,
 ⟨.iface,1,16, .v .nilIface,none⟩,
 ⟨.other,0,0,default,none⟩,
 Uo,
 Uo,
 Uo,
 Uo,
 Uo,
 ⟨.slice 4,1,24, .sl [] .full,none⟩,
 Uo,
 ⟨.other,0,0,default,none⟩,
 Uo,
 ⟨.other,0,0,default,none⟩,
 Uo,
 ⟨.strct [],0,0,default,none⟩,
 ⟨.other,0,0,default,none⟩,
 Uo,
 ⟨.other,0,0,default,none⟩,
 Uo,
 ⟨.slice 298,1,24, .sl [] .full,none⟩,
 Uo,
 Uo,
 Uo,
 ⟨.other,0,0,default,none⟩,
 Uo,
 Uo,
 Uo,
 Uo,
 Uo,
 ⟨.slice 340,1,24, .sl [] .full,none⟩,
 ⟨.strct [(0,121),(1,42),(4,3)],5,64, .agg [.sl [] .full, .v (.int .i64 0), .v (.int .i64 0), .s [], .v (.int .i64 0)],none⟩,
 ⟨.strct [(0,121),(1,42),(4,3)],5,64, .agg [.sl [] .full, .v (.int .i64 0), .v (.int .i64 0), .s [], .v (.int .i64 0)],none⟩,
 Uo,
 Uo,
 Uo,
 Uo,
 Uo,
 Uo,
 Uo,
 Uo,
 Uo,
 Uo,
 Uo,
 Uo,
 Uo,
 Uo,
 Uo,
 Uo,
 ⟨.int .i64,1,8, .v (.int .i64 0),some (0,[.int .i64])⟩,
 ⟨.other,0,0,default,none⟩,
 Uo,
 ⟨.ptr 375,1,8, .v (.pointer none),none⟩,
 Uo,
 Uo,
 ⟨.other,0,0,default,none⟩,
 Uo,
 Uo,
 Uo,
 Uo,
 Uo,
 Uo,
 Uo,
 Uo,
 ⟨.other,0,0,default,none⟩,
 Uo,
 ⟨.strct [(0,9),(1,9),(2,310)],3,48, .agg [.s [], .s [], .v .nilIface],none⟩,
 ⟨.strct [(0,9),(1,9),(2,310)],3,48, .agg [.s [], .s [], .v .nilIface],none⟩,
 Uo,
 Uo,
 Uo,
 ⟨.other,0,0,default,none⟩,
 Uo,
 ⟨.ptr 5,1,8, .v (.pointer none),none⟩,
 ⟨.ptr 384,1,8, .v (.pointer none),none⟩,
 ⟨.strct [(0,9)],1,16, .agg [.s []],some (1,[.str])⟩,
 ⟨.strct [(0,9)],1,16, .agg [.s []],some (1,[.str])⟩,
 Uo,
 ⟨.arr 24 5,24,24, .agg [.v (.int .u8 0), .v (.int .u8 0), .v (.int .u8 0), .v (.int .u8 0), .v (.int .u8 0), .v (.int .u8 0), .v (.int .u8 0), .v (.int .u8 0), .v (.int .u8 0), .v (.int .u8 0), .v (.int .u8 0), .v (.int .u8 0), .v (.int .u8 0), .v (.int .u8 0), .v (.int .u8 0), .v (.int .u8 0), .v (.int .u8 0), .v (.int .u8 0), .v (.int .u8 0), .v (.int .u8 0), .v (.int .u8 0), .v (.int .u8 0), .v (.int .u8 0), .v (.int .u8 0)],some (1,[.int .u8, .int .u8, .int .u8, .int .u8, .int .u8, .int .u8, .int .u8, .int .u8, .int .u8, .int .u8, .int .u8, .int .u8, .int .u8, .int .u8, .int .u8, .int .u8, .int .u8, .int .u8, .int .u8, .int .u8, .int .u8, .int .u8, .int .u8, .int .u8])⟩,
 Uo,
 Uo,
 ⟨.other,0,0,default,none⟩,
 Uo,
 Uo,
 ⟨.arr 20 231,20,160, .agg [.v (.int .u64 0), .v (.int .u64 0), .v (.int .u64 0), .v (.int .u64 0), .v (.int .u64 0), .v (.int .u64 0), .v (.int .u64 0), .v (.int .u64 0), .v (.int .u64 0), .v (.int .u64 0), .v (.int .u64 0), .v (.int .u64 0), .v (.int .u64 0), .v (.int .u64 0), .v (.int .u64 0), .v (.int .u64 0), .v (.int .u64 0), .v (.int .u64 0), .v (.int .u64 0), .v (.int .u64 0)],some (1,[.int .u64, .int .u64, .int .u64, .int .u64, .int .u64, .int .u64, .int .u64, .int .u64, .int .u64, .int .u64, .int .u64, .int .u64, .int .u64, .int .u64, .int .u64, .int .u64, .int .u64, .int .u64, .int .u64, .int .u64])⟩,
 ⟨.int .u32,1,4, .v (.int .u32 0),some (0,[.int .u32])⟩,
 ⟨.arr 65 5,65,65, .agg [.v (.int .u8 0), .v (.int .u8 0), .v (.int .u8 0), .v (.int .u8 0), .v (.int .u8 0), .v (.int .u8 0), .v (.int .u8 0), .v (.int .u8 0), .v (.int .u8 0), .v (.int .u8 0), .v (.int .u8 0), .v (.int .u8 0), .v (.int .u8 0), .v (.int .u8 0), .v (.int .u8 0), .v (.int .u8 0), .v (.int .u8 0), .v (.int .u8 0), .v (.int .u8 0), .v (.int .u8 0), .v (.int .u8 0), .v (.int .u8 0), .v (.int .u8 0), .v (.int .u8 0), .v (.int .u8 0), .v (.int .u8 0), .v (.int .u8 0), .v (.int .u8 0), .v (.int .u8 0), .v (.int .u8 0), .v (.int .u8 0), .v (.int .u8 0), .v (.int .u8 0), .v (.int .u8 0), .v (.int .u8 0), .v (.int .u8 0), .v (.int .u8 0), .v (.int .u8 0), .v (.int .u8 0), .v (.int .u8 0), .v (.int .u8 0), .v (.int .u8 0), .v (.int .u8 0), .v (.int .u8 0), .v (.int .u8 0), .v (.int .u8 0), .v (.int .u8 0), .v (.int .u8 0), .v (.int .u8 0), .v (.int .u8 0), .v (.int .u8 0), .v (.int .u8 0), .v (.int .u8 0), .v (.int .u8 0), .v (.int .u8 0), .v (.int .u8 0), .v (.int .u8 0), .v (.int .u8 0), .v (.int .u8 0), .v (.int .u8 0), .v (.int .u8 0), .v (.int .u8 0), .v (.int .u8 0), .v (.int .u8 0), .v (.int .u8 0)],none⟩,
 Uo,
 Uo,
 ⟨.arr 32 5,32,32, .agg [.v (.int .u8 0), .v (.int .u8 0), .v (.int .u8 0), .v (.int .u8 0), .v (.int .u8 0), .v (.int .u8 0), .v (.int .u8 0), .v (.int .u8 0), .v (.int .u8 0), .v (.int .u8 0), .v (.int .u8 0), .v (.int .u8 0), .v (.int .u8 0), .v (.int .u8 0), .v (.int .u8 0), .v (.int .u8 0), .v (.int .u8 0), .v (.int .u8 0), .v (.int .u8 0), .v (.int .u8 0), .v (.int .u8 0), .v (.int .u8 0), .v (.int .u8 0), .v (.int .u8 0), .v (.int .u8 0), .v (.int .u8 0), .v (.int .u8 0), .v (.int .u8 0), .v (.int .u8 0), .v (.int .u8 0), .v (.int .u8 0), .v (.int .u8 0)],some (1,[.int .u8, .int .u8, .int .u8, .int .u8, .int .u8, .int .u8, .int .u8, .int .u8, .int .u8, .int .u8, .int .u8, .int .u8, .int .u8, .int .u8, .int .u8, .int .u8, .int .u8, .int .u8, .int .u8, .int .u8, .int .u8, .int .u8, .int .u8, .int .u8, .int .u8, .int .u8, .int .u8, .int .u8, .int .u8, .int .u8, .int .u8, .int .u8])⟩,
 ⟨.arr 64 5,64,64, .agg [.v (.int .u8 0), .v (.int .u8 0), .v (.int .u8 0), .v (.int .u8 0), .v (.int .u8 0), .v (.int .u8 0), .v (.int .u8 0), .v (.int .u8 0), .v (.int .u8 0), .v (.int .u8 0), .v (.int .u8 0), .v (.int .u8 0), .v (.int .u8 0), .v (.int .u8 0), .v (.int .u8 0), .v (.int .u8 0), .v (.int .u8 0), .v (.int .u8 0), .v (.int .u8 0), .v (.int .u8 0), .v (.int .u8 0), .v (.int .u8 0), .v (.int .u8 0), .v (.int .u8 0), .v (.int .u8 0), .v (.int .u8 0), .v (.int .u8 0), .v (.int .u8 0), .v (.int .u8 0), .v (.int .u8 0), .v (.int .u8 0), .v (.int .u8 0), .v (.int .u8 0), .v (.int .u8 0), .v (.int .u8 0), .v (.int .u8 0), .v (.int .u8 0), .v (.int .u8 0), .v (.int .u8 0), .v (.int .u8 0), .v (.int .u8 0), .v (.int .u8 0), .v (.int .u8 0), .v (.int .u8 0), .v (.int .u8 0), .v (.int .u8 0), .v (.int .u8 0), .v (.int .u8 0), .v (.int .u8 0), .v (.int .u8 0), .v (.int .u8 0), .v (.int .u8 0), .v (.int .u8 0), .v (.int .u8 0), .v (.int .u8 0), .v (.int .u8 0), .v (.int .u8 0), .v (.int .u8 0), .v (.int .u8 0), .v (.int .u8 0), .v (.int .u8 0), .v (.int .u8 0), .v (.int .u8 0), .v (.int .u8 0)],none⟩,
 ⟨.strct [(0,17),(1,17),(2,17),(3,9)],4,40, .agg [.v (.pointer none), .v (.pointer none), .v (.pointer none), .s []],none⟩,
 ⟨.strct [(0,17),(1,17),(2,17),(3,9)],4,40, .agg [.v (.pointer none), .v (.pointer none), .v (.pointer none), .s []],none⟩,
 ⟨.arr 0 16,0,0,default,none⟩,
 ⟨.other,0,0,default,none⟩,
 ⟨.other,0,0,default,none⟩,
 Uo,
 ⟨.int .u8,1,1, .v (.int .u8 0),some (0,[.int .u8])⟩,
 ⟨.int .u8,1,1, .v (.int .u8 0),some (0,[.int .u8])⟩,
 Uo,
 ⟨.int .i32,1,4, .v (.int .i32 0),some (0,[.int .i32])⟩,
 ⟨.int .i32,1,4, .v (.int .i32 0),some (0,[.int .i32])⟩,
 ⟨.strct [(0,12),(1,12),(2,393),(3,405),(4,5),(5,5),(6,406),(7,407),(8,381),(9,408),(10,409)],11,48, .agg [.v (.int .u64 0), .v (.int .u64 0), .v (.int .u32 0), .v (.int .u8 0), .v (.int .u8 0), .v (.int .u8 0), .v (.int .u8 0), .v .nilFunc, .v (.pointer none), .v (.int .i32 0), .v (.int .i32 0)],none⟩,
 ⟨.strct [(0,12),(1,12),(2,393),(3,405),(4,5),(5,5),(6,406),(7,407),(8,381),(9,408),(10,409)],11,48, .agg [.v (.int .u64 0), .v (.int .u64 0), .v (.int .u32 0), .v (.int .u8 0), .v (.int .u8 0), .v (.int .u8 0), .v (.int .u8 0), .v .nilFunc, .v (.pointer none), .v (.int .i32 0), .v (.int .i32 0)],none⟩,
 ⟨.other,1,8, .v (.pointer none),none⟩]
def U (t:TypeId):TI:=HB.getD t ⟨.other,0,0,default,none⟩
@[go_sem] theorem U3k:(U 3).k= .int .i64:=rfl
@[go_sem] theorem U3s:(U 3).sz=1:=rfl
@[go_sem] theorem U3b:(U 3).bytes=8:=rfl
@[go_sem] theorem U3z:(U 3).zero= .v (.int .i64 0):=rfl
@[go_sem] theorem U4k:(U 4).k= .bool:=rfl
@[go_sem] theorem U4s:(U 4).sz=1:=rfl
@[go_sem] theorem U4b:(U 4).bytes=1:=rfl
@[go_sem] theorem U4z:(U 4).zero= .v (.bool false):=rfl
@[go_sem] theorem U5k:(U 5).k= .int .u8:=rfl
@[go_sem] theorem U5s:(U 5).sz=1:=rfl
@[go_sem] theorem U5b:(U 5).bytes=1:=rfl
@[go_sem] theorem U5z:(U 5).zero= .v (.int .u8 0):=rfl
@[go_sem] theorem U9k:(U 9).k= .str:=rfl
@[go_sem] theorem U9s:(U 9).sz=1:=rfl
@[go_sem] theorem U9b:(U 9).bytes=16:=rfl
@[go_sem] theorem U9z:(U 9).zero= .s []:=rfl
@[go_sem] theorem So:(U 24).k= .slice 57:=rfl
@[go_sem] theorem Sp:(U 24).sz=1:=rfl
@[go_sem] theorem Sn:(U 24).bytes=24:=rfl
@[go_sem] theorem Sq:(U 24).zero= .sl [] .full:=rfl
@[go_sem] theorem Ss:(U 25).k= .slice 82:=rfl
@[go_sem] theorem St:(U 25).sz=1:=rfl
@[go_sem] theorem Sr:(U 25).bytes=24:=rfl
@[go_sem] theorem Su:(U 25).zero= .sl [] .full:=rfl
@[go_sem] theorem Sw:(U 26).k= .slice 98:=rfl
@[go_sem] theorem Sx:(U 26).sz=1:=rfl
@[go_sem] theorem Sv:(U 26).bytes=24:=rfl
@[go_sem] theorem Sy:(U 26).zero= .sl [] .full:=rfl
@[go_sem] theorem SA:(U 27).k= .slice 71:=rfl
@[go_sem] theorem SB:(U 27).sz=1:=rfl
@[go_sem] theorem Sz:(U 27).bytes=24:=rfl
@[go_sem] theorem SC:(U 27).zero= .sl [] .full:=rfl
@[go_sem] theorem SE:(U 29).k= .slice 243:=rfl
@[go_sem] theorem SF:(U 29).sz=1:=rfl
@[go_sem] theorem SD:(U 29).bytes=24:=rfl
@[go_sem] theorem SG:(U 29).zero= .sl [] .full:=rfl
@[go_sem] theorem SI:(U 30).k= .slice 181:=rfl
@[go_sem] theorem SJ:(U 30).sz=1:=rfl
@[go_sem] theorem SH:(U 30).bytes=24:=rfl
@[go_sem] theorem SK:(U 30).zero= .sl [] .full:=rfl
@[go_sem] theorem SM:(U 31).k= .slice 34:=rfl
@[go_sem] theorem SN:(U 31).sz=1:=rfl
@[go_sem] theorem SL:(U 31).bytes=24:=rfl
@[go_sem] theorem SO:(U 31).zero= .sl [] .full:=rfl
@[go_sem] theorem SQ:(U 32).k= .slice 90:=rfl
@[go_sem] theorem SR:(U 32).sz=1:=rfl
@[go_sem] theorem SP:(U 32).bytes=24:=rfl
@[go_sem] theorem SS:(U 32).zero= .sl [] .full:=rfl
@[go_sem] theorem SV:(U 34).k= .strct [(0,9),(1,4),(2,3),(3,29),(4,30),(5,31),(6,32)]:=rfl
@[go_sem] theorem SW:(U 34).sz=7:=rfl
@[go_sem] theorem SU:(U 34).bytes=128:=rfl
@[go_sem] theorem SX:(U 34).zero= .agg [.s [], .v (.bool false), .v (.int .i64 0), .sl [] .full, .sl [] .full, .sl [] .full, .sl [] .full]:=rfl
@[go_sem] theorem SZ:(U 36).k= .strct [(0,3),(1,24),(2,25),(3,26),(4,27),(5,34),(12,3)]:=rfl
@[go_sem] theorem S0:(U 36).sz=13:=rfl
@[go_sem] theorem SY:(U 36).bytes=240:=rfl
@[go_sem] theorem S1:(U 36).zero= .agg [.v (.int .i64 0), .sl [] .full, .sl [] .full, .sl [] .full, .sl [] .full, .s [], .v (.bool false), .v (.int .i64 0), .sl [] .full, .sl [] .full, .sl [] .full, .sl [] .full, .v (.int .i64 0)]:=rfl
@[go_sem] theorem S4:(U 42).k= .strct [(0,3),(1,3),(2,9)]:=rfl
@[go_sem] theorem S5:(U 42).sz=3:=rfl
@[go_sem] theorem S2:(U 42).bytes=32:=rfl
@[go_sem] theorem S6:(U 42).zero= .agg [.v (.int .i64 0), .v (.int .i64 0), .s []]:=rfl
@[go_sem] theorem S3:(U 42).eq=some (1,[.int .i64, .int .i64, .str]):=rfl
@[go_sem] theorem S9:(U 44).k= .strct [(0,3),(1,9),(2,9),(3,9),(4,9),(5,42),(8,3),(9,9),(10,9),(11,4)]:=rfl
@[go_sem] theorem Ta:(U 44).sz=12:=rfl
@[go_sem] theorem S7:(U 44).bytes=152:=rfl
@[go_sem] theorem Tb:(U 44).zero= .agg [.v (.int .i64 0), .s [], .s [], .s [], .s [], .v (.int .i64 0), .v (.int .i64 0), .s [], .v (.int .i64 0), .s [], .s [], .v (.bool false)]:=rfl
@[go_sem] theorem S8:(U 44).eq=some (2,[.int .i64, .str, .str, .str, .str, .int .i64, .int .i64, .str, .int .i64, .str, .str, .bool]):=rfl
@[go_sem] theorem Td:(U 46).k= .int .i64:=rfl
@[go_sem] theorem Te:(U 46).sz=1:=rfl
@[go_sem] theorem Tc:(U 46).bytes=8:=rfl
@[go_sem] theorem Tf:(U 46).zero= .v (.int .i64 0):=rfl
@[go_sem] theorem Th:(U 50).k= .slice 123:=rfl
@[go_sem] theorem Ti:(U 50).sz=1:=rfl
@[go_sem] theorem Tg:(U 50).bytes=24:=rfl
@[go_sem] theorem Tj:(U 50).zero= .sl [] .full:=rfl
@[go_sem] theorem Tl:(U 54).k= .slice 131:=rfl
@[go_sem] theorem Tm:(U 54).sz=1:=rfl
@[go_sem] theorem Tk:(U 54).bytes=24:=rfl
@[go_sem] theorem Tn:(U 54).zero= .sl [] .full:=rfl
@[go_sem] theorem Tp:(U 55).k= .slice 96:=rfl
@[go_sem] theorem Tq:(U 55).sz=1:=rfl
@[go_sem] theorem To:(U 55).bytes=24:=rfl
@[go_sem] theorem Tr:(U 55).zero= .sl [] .full:=rfl
@[go_sem] theorem Tt:(U 57).k= .strct [(0,9),(1,9),(2,9),(3,54),(4,55)]:=rfl
@[go_sem] theorem Tu:(U 57).sz=5:=rfl
@[go_sem] theorem Ts:(U 57).bytes=96:=rfl
@[go_sem] theorem Tv:(U 57).zero= .agg [.s [], .s [], .s [], .sl [] .full, .sl [] .full]:=rfl
@[go_sem] theorem Ty:(U 71).k= .strct [(0,9),(1,9)]:=rfl
@[go_sem] theorem Tz:(U 71).sz=2:=rfl
@[go_sem] theorem Tw:(U 71).bytes=32:=rfl
@[go_sem] theorem TA:(U 71).zero= .agg [.s [], .s []]:=rfl
@[go_sem] theorem Tx:(U 71).eq=some (1,[.str, .str]):=rfl
@[go_sem] theorem TC:(U 74).k= .cplx .f64:=rfl
@[go_sem] theorem TD:(U 74).sz=1:=rfl
@[go_sem] theorem TB:(U 74).bytes=16:=rfl
@[go_sem] theorem TE:(U 74).zero= .v (.complex .f64 0 0):=rfl
@[go_sem] theorem TH:(U 76).k= .strct [(0,46),(1,74),(2,4),(3,42),(6,4),(7,3)]:=rfl
@[go_sem] theorem TJ:(U 76).sz=8:=rfl
@[go_sem] theorem TF:(U 76).bytes=80:=rfl
@[go_sem] theorem TL:(U 76).zero= .agg [.v (.int .i64 0), .v (.complex .f64 0 0), .v (.bool false), .v (.int .i64 0), .v (.int .i64 0), .s [], .v (.bool false), .v (.int .i64 0)]:=rfl
@[go_sem] theorem TG:(U 76).eq=some (2,[.int .i64, .cplx .f64, .bool, .int .i64, .int .i64, .str, .bool, .int .i64]):=rfl
@[go_sem] theorem TN:(U 78).k= .strct [(0,44),(12,3),(13,74),(14,4),(15,32)]:=rfl
@[go_sem] theorem TO:(U 78).sz=16:=rfl
@[go_sem] theorem TM:(U 78).bytes=208:=rfl
@[go_sem] theorem TP:(U 78).zero= .agg [.v (.int .i64 0), .s [], .s [], .s [], .s [], .v (.int .i64 0), .v (.int .i64 0), .s [], .v (.int .i64 0), .s [], .s [], .v (.bool false), .v (.int .i64 0), .v (.complex .f64 0 0), .v (.bool false), .sl [] .full]:=rfl
@[go_sem] theorem TS:(U 82).k= .strct [(0,3),(1,3),(2,9),(3,9),(4,9),(5,9),(6,4)]:=rfl
@[go_sem] theorem TT:(U 82).sz=7:=rfl
@[go_sem] theorem TQ:(U 82).bytes=88:=rfl
@[go_sem] theorem TU:(U 82).zero= .agg [.v (.int .i64 0), .v (.int .i64 0), .s [], .s [], .s [], .s [], .v (.bool false)]:=rfl
@[go_sem] theorem TR:(U 82).eq=some (1,[.int .i64, .int .i64, .str, .str, .str, .str, .bool]):=rfl
@[go_sem] theorem TW:(U 85).k= .strct [(0,74),(1,32)]:=rfl
@[go_sem] theorem TX:(U 85).sz=2:=rfl
@[go_sem] theorem TV:(U 85).bytes=40:=rfl
@[go_sem] theorem TY:(U 85).zero= .agg [.v (.complex .f64 0 0), .sl [] .full]:=rfl
@[go_sem] theorem T0:(U 90).k= .strct [(0,3),(1,3),(2,9)]:=rfl
@[go_sem] theorem T3:(U 90).sz=3:=rfl
@[go_sem] theorem TZ:(U 90).bytes=32:=rfl
@[go_sem] theorem T4:(U 90).zero= .agg [.v (.int .i64 0), .v (.int .i64 0), .s []]:=rfl
@[go_sem] theorem T6:(U 96).k= .strct [(0,3),(1,9),(2,9)]:=rfl
@[go_sem] theorem T7:(U 96).sz=3:=rfl
@[go_sem] theorem T5:(U 96).bytes=40:=rfl
@[go_sem] theorem T8:(U 96).zero= .agg [.v (.int .i64 0), .s [], .s []]:=rfl
@[go_sem] theorem Ua:(U 98).k= .strct [(0,3),(1,9),(2,9)]:=rfl
@[go_sem] theorem Ub:(U 98).sz=3:=rfl
@[go_sem] theorem T9:(U 98).bytes=40:=rfl
@[go_sem] theorem Uc:(U 98).zero= .agg [.v (.int .i64 0), .s [], .s []]:=rfl
@[go_sem] theorem Qh:(U 110).k= .slice 3:=rfl
@[go_sem] theorem Qi:(U 110).sz=1:=rfl
@[go_sem] theorem Qg:(U 110).bytes=24:=rfl
@[go_sem] theorem Qj:(U 110).zero= .sl [] .full:=rfl
@[go_sem] theorem Ql:(U 121).k= .slice 42:=rfl
@[go_sem] theorem Qm:(U 121).sz=1:=rfl
@[go_sem] theorem Qk:(U 121).bytes=24:=rfl
@[go_sem] theorem Qn:(U 121).zero= .sl [] .full:=rfl
@[go_sem] theorem Qp:(U 123).k= .strct [(0,3),(1,9),(2,121)]:=rfl
@[go_sem] theorem Qq:(U 123).sz=3:=rfl
@[go_sem] theorem Qo:(U 123).bytes=48:=rfl
@[go_sem] theorem Qr:(U 123).zero= .agg [.v (.int .i64 0), .s [], .sl [] .full]:=rfl
@[go_sem] theorem Qt:(U 131).k= .strct [(0,9),(1,42)]:=rfl
@[go_sem] theorem Qu:(U 131).sz=4:=rfl
@[go_sem] theorem Qs:(U 131).bytes=48:=rfl
@[go_sem] theorem Qv:(U 131).zero= .agg [.s [], .v (.int .i64 0), .v (.int .i64 0), .s []]:=rfl
@[go_sem] theorem Qx:(U 160).k= .slice 168:=rfl
@[go_sem] theorem Qy:(U 160).sz=1:=rfl
@[go_sem] theorem Qw:(U 160).bytes=24:=rfl
@[go_sem] theorem Qz:(U 160).zero= .sl [] .full:=rfl
@[go_sem] theorem QB:(U 165).k= .strct [(0,160),(1,3),(2,3),(3,46),(4,3)]:=rfl
@[go_sem] theorem QC:(U 165).sz=5:=rfl
@[go_sem] theorem QA:(U 165).bytes=56:=rfl
@[go_sem] theorem QD:(U 165).zero= .agg [.sl [] .full, .v (.int .i64 0), .v (.int .i64 0), .v (.int .i64 0), .v (.int .i64 0)]:=rfl
@[go_sem] theorem QF:(U 168).k= .strct [(0,3),(1,3),(2,3),(3,9)]:=rfl
@[go_sem] theorem QG:(U 168).sz=4:=rfl
@[go_sem] theorem QE:(U 168).bytes=40:=rfl
@[go_sem] theorem QH:(U 168).zero= .agg [.v (.int .i64 0), .v (.int .i64 0), .v (.int .i64 0), .s []]:=rfl
@[go_sem] theorem QJ:(U 179).k= .slice 186:=rfl
@[go_sem] theorem QK:(U 179).sz=1:=rfl
@[go_sem] theorem QI:(U 179).bytes=24:=rfl
@[go_sem] theorem QL:(U 179).zero= .sl [] .full:=rfl
@[go_sem] theorem QN:(U 181).k= .strct [(0,9),(1,4),(2,29),(3,179),(4,32)]:=rfl
@[go_sem] theorem QO:(U 181).sz=5:=rfl
@[go_sem] theorem QM:(U 181).bytes=96:=rfl
@[go_sem] theorem QS:(U 181).zero= .agg [.s [], .v (.bool false), .sl [] .full, .sl [] .full, .sl [] .full]:=rfl
@[go_sem] theorem QV:(U 184).k= .strct [(0,3),(1,9),(2,4)]:=rfl
@[go_sem] theorem QW:(U 184).sz=3:=rfl
@[go_sem] theorem QT:(U 184).bytes=32:=rfl
@[go_sem] theorem QX:(U 184).zero= .agg [.v (.int .i64 0), .s [], .v (.bool false)]:=rfl
@[go_sem] theorem QU:(U 184).eq=some (1,[.int .i64, .str, .bool]):=rfl
@[go_sem] theorem QZ:(U 186).k= .strct [(0,3),(1,42),(4,184)]:=rfl
@[go_sem] theorem Q0:(U 186).sz=7:=rfl
@[go_sem] theorem QY:(U 186).bytes=72:=rfl
@[go_sem] theorem Q1:(U 186).zero= .agg [.v (.int .i64 0), .v (.int .i64 0), .v (.int .i64 0), .s [], .v (.int .i64 0), .s [], .v (.bool false)]:=rfl
@[go_sem] theorem Q3:(U 189).k= .slice 9:=rfl
@[go_sem] theorem Q4:(U 189).sz=1:=rfl
@[go_sem] theorem Q2:(U 189).bytes=24:=rfl
@[go_sem] theorem Q5:(U 189).zero= .sl [] .full:=rfl
@[go_sem] theorem Q7:(U 206).k= .map 9 323:=rfl
@[go_sem] theorem Q8:(U 206).sz=1:=rfl
@[go_sem] theorem Q6:(U 206).bytes=8:=rfl
@[go_sem] theorem Q9:(U 206).zero= .v (.map none):=rfl
@[go_sem] theorem Rb:(U 208).k= .strct [(0,206),(1,3)]:=rfl
@[go_sem] theorem Rc:(U 208).sz=2:=rfl
@[go_sem] theorem Ra:(U 208).bytes=16:=rfl
@[go_sem] theorem Re:(U 208).zero= .agg [.v (.map none), .v (.int .i64 0)]:=rfl
@[go_sem] theorem Rg:(U 211).k= .slice 85:=rfl
@[go_sem] theorem Rh:(U 211).sz=1:=rfl
@[go_sem] theorem Rf:(U 211).bytes=24:=rfl
@[go_sem] theorem Ri:(U 211).zero= .sl [] .full:=rfl
@[go_sem] theorem Rk:(U 215).k= .slice 74:=rfl
@[go_sem] theorem Rl:(U 215).sz=1:=rfl
@[go_sem] theorem Rj:(U 215).bytes=24:=rfl
@[go_sem] theorem Rm:(U 215).zero= .sl [] .full:=rfl
@[go_sem] theorem Ro:(U 236).k= .slice 5:=rfl
@[go_sem] theorem Rp:(U 236).sz=1:=rfl
@[go_sem] theorem Rn:(U 236).bytes=24:=rfl
@[go_sem] theorem Rq:(U 236).zero= .sl [] .full:=rfl
@[go_sem] theorem Rs:(U 243).k= .slice 247:=rfl
@[go_sem] theorem Rt:(U 243).sz=1:=rfl
@[go_sem] theorem Rr:(U 243).bytes=24:=rfl
@[go_sem] theorem Ru:(U 243).zero= .sl [] .full:=rfl
@[go_sem] theorem Rw:(U 246).k= .strct [(0,184),(3,3),(4,42)]:=rfl
@[go_sem] theorem Rx:(U 246).sz=7:=rfl
@[go_sem] theorem Rv:(U 246).bytes=72:=rfl
@[go_sem] theorem Ry:(U 246).zero= .agg [.v (.int .i64 0), .s [], .v (.bool false), .v (.int .i64 0), .v (.int .i64 0), .v (.int .i64 0), .s []]:=rfl
@[go_sem] theorem RA:(U 247).k= .slice 246:=rfl
@[go_sem] theorem RB:(U 247).sz=1:=rfl
@[go_sem] theorem Rz:(U 247).bytes=24:=rfl
@[go_sem] theorem RC:(U 247).zero= .sl [] .full:=rfl
@[go_sem] theorem RE:(U 298).k= .strct [(0,121),(1,42),(4,46)]:=rfl
@[go_sem] theorem RF:(U 298).sz=5:=rfl
@[go_sem] theorem RD:(U 298).bytes=64:=rfl
@[go_sem] theorem RG:(U 298).zero= .agg [.sl [] .full, .v (.int .i64 0), .v (.int .i64 0), .s [], .v (.int .i64 0)]:=rfl
@[go_sem] theorem RI:(U 317).k= .slice 4:=rfl
@[go_sem] theorem RJ:(U 317).sz=1:=rfl
@[go_sem] theorem RH:(U 317).bytes=24:=rfl
@[go_sem] theorem RL:(U 317).zero= .sl [] .full:=rfl
@[go_sem] theorem RM:(U 323).k= .strct []:=rfl
@[go_sem] theorem RN:(U 323).sz=0:=rfl
@[go_sem] theorem RP:(U 328).k= .slice 298:=rfl
@[go_sem] theorem RQ:(U 328).sz=1:=rfl
@[go_sem] theorem RO:(U 328).bytes=24:=rfl
@[go_sem] theorem RR:(U 328).zero= .sl [] .full:=rfl
set_option maxRecDepth 100000 in
theorem hU:∀t,aP Tryz.prog U t:=DA 413 (by kernel_rfl) fun t ht=>by
 unfold U;rw [List.getD_eq_getElem?_getD,List.getElem?_eq_none (show HB.length≤t from ht)]
 rfl
theorem hm:Tryz.prog.follows .mixedOrders=true:=by kernel_rfl
end Go.Proofs.YtmlhcdeamjkpjaaGreatDoor
namespace Go.Proofs.YtmlhcdeamjkpjaaGreatDoor
open Go Go.Ab Go.Bf
theorem me (l:Txt) (h:Heap):ak Tryz.prog 56 [.s l] h fun r h' =>r= .v (.bool (bn l))∧h' =h:=by
 refine ak.body hU hm Tryz.func56 rfl (by kernel_rfl) 49 rfl [.tmp 2] rfl (Uf rfl) (fun hwf=> ?_)
 simp only [go_sem];refine .intro (fun m ρ h' =>h' =h∧∃i:Nat,i≤l.length∧m=l.length - i∧sr (l.take i)=true∧lk ρ 0=some (.s l)∧lk ρ 8=some (.v (.int .i64 l.length))∧lk ρ 9=some (.v (.int .i64 i))) l.length ?_ ?_
 ·refine ⟨rfl,0,by omega,rfl,rfl, ?_, ?_, ?_⟩<;>simp only [go_sem]
 ·rintro m ρ h' ⟨rfl,i,hi,rfl,hc,r0,r8,r9⟩
  simp only [go_sem,r8,r9];refine .intro (fun e=> ?_) (fun e=> ?_)
  ·have hlt:i<l.length:=Un e
   have w1:IntKind.i64.wrap ((i:Int)+1)=((i+1:Nat):Int):=by rw [bz _ (by have:=hwf (.s l) (by simp); simp only [wfA,wf1,lim] at this; omega)]; omega
   have w0:IntKind.i64.wrap (0+1)=1:=rfl;have hb:=DK l i hlt;have hg:=Bo l i hlt;rw [hc] at hg;have hcl:=Ip l[i];have h255:=l[i].toNat_lt;simp only [go_sem,r0,r9];refine .at i hlt ?_;generalize hcc:l[i]=c at hb hg hcl h255⊢
   by_cases hi0:i=0
   ·subst hi0
    rcases hcl with ⟨a1,a2,a3,a4,a5⟩|⟨a1,a2,a3,a4,a5⟩|⟨a1,a2,a3,a4,a5⟩|⟨a1,a2,a3,a4,a5⟩|⟨a1,a2,a3,a4,a5⟩|⟨a1,a2,a3,a4,a5⟩
    ·simp only [go_sem,r9,a1,a2,a3,a4,a5,w0]
     refine ⟨_, ?_,rfl,0+1,by omega,rfl,by simp [hg,pY,ltr,a1,a2], ?_, ?_, ?_⟩
     ·omega
     all_goals simp only [go_sem,r0,r8]
    all_goals
     simp only [go_sem,a1,a2,a3,a4,a5];exact .same (.refl _) ⟨by simp [bn,hb (by simp [pY,ltr,a1,a2]),au],rfl⟩
   ·have hin:((i:Int)==0)=false:=by simp; omega
    rcases hcl with ⟨a1,a2,a3,a4,a5⟩|⟨a1,a2,a3,a4,a5⟩|⟨a1,a2,a3,a4,a5⟩|⟨a1,a2,a3,a4,a5⟩|⟨a1,a2,a3,a4,a5⟩|⟨a1,a2,a3,a4,a5⟩
    ·simp only [go_sem,r9,a1,a2,a3,a4,a5,w1]
     refine ⟨_, ?_,rfl,i+1,by omega,rfl,by simp [hg,pY,ltr,dgt,a1,a2,a3,a4,a5,hi0], ?_, ?_, ?_⟩
     ·omega
     all_goals simp only [go_sem,r0,r8]
    ·simp only [go_sem,r9,a1,a3,a4,w1,hin]
     refine ⟨_, ?_,rfl,i+1,by omega,rfl,by simp [hg,pY,ltr,dgt,a1,a2,a3,a4,a5,hi0], ?_, ?_, ?_⟩
     ·omega
     all_goals simp only [go_sem,r0,r8]
    ·simp only [go_sem,r9,a1,a3,a4,a5,w1,hin]
     refine ⟨_, ?_,rfl,i+1,by omega,rfl,by simp [hg,pY,ltr,dgt,a1,a2,a3,a4,a5,hi0], ?_, ?_, ?_⟩
     ·omega
     all_goals simp only [go_sem,r0,r8]
    ·simp only [go_sem,a1,a3,a5,hin]
     exact .same (.refl _) ⟨by simp [bn,hb (by simp [pY,ltr,dgt,a1,a2,a3,a4,a5]),au],rfl⟩
    ·simp only [go_sem,a1,a3,a4,a5,hin]
     exact .same (.refl _) ⟨by simp [bn,hb (by simp [pY,ltr,dgt,a1,a2,a3,a4,a5]),au],rfl⟩
    ·simp only [go_sem,a1,a2,a3,a4,a5,hin]
     exact .same (.refl _) ⟨by simp [bn,hb (by simp [pY,ltr,dgt,a1,a2,a3,a4,a5]),au],rfl⟩
  ·have hge:i=l.length:=by have:=Uj e; omega
   subst hge;rw [List.take_length] at hc
   by_cases h0:l= []
   ·subst h0
    have b0:((([]:Txt)== [])=true):=rfl;simp only [go_sem,r0,b0];exact .same (.refl _) ⟨rfl,rfl⟩
   ·have b0:(l== [])=false:=by simpa using h0
    have hp:1≤l.length:=List.length_pos_iff.2 h0;simp only [go_sem,r0,b0];exact .same (.refl _) ⟨by simp [bn,hc,au,hp]; omega,rfl⟩
theorem CL (a:mV) (h:Heap):ak Tryz.prog 303 [zg a] h fun r h' =>r= .v (.bool (mY a))∧h' =h:=by
 refine ak.body hU hm Tryz.func303 rfl (by kernel_rfl) 16 rfl [.tmp 2] rfl (Uf rfl) (fun hwf=> ?_)
 simp only [go_sem,zg];intro id hid;cases d1:decide (1≤a.cat)
 ·simp only [go_sem,d1]
  exact .mk _ (.refl _) (.ai hid) ⟨by simp [mY,d1,au],rfl⟩
 cases d2:decide (a.cat≤4)
 ·simp only [go_sem,d1,d2]
  exact .mk _ (.refl _) (.ai hid) ⟨by simp [mY,d1,d2,au],rfl⟩
 simp only [go_sem,d1,d2];refine (me _ _).pthen ?_;simp only [go_sem];exact .mk _ (.refl _) (.ai hid) ⟨by simp [mY,d1,d2,au],rfl⟩
theorem iG (v:bR) (h:Heap):ak Tryz.prog 59 [aS v] h fun r h' =>r= .v (.bool (bX v))∧h' =h:=by
 refine ak.body hU hm Tryz.func59 rfl (by kernel_rfl) 61 rfl [.tmp 2] rfl (Uf rfl) (fun hwf=> ?_)
 simp only [go_sem,aS];intro id hid;cases k1:(v.kind==1)
 case true=>
  have e1:v.kind=1:=by simpa using k1
  cases d1:(v.n==0)<;>cases d2:(v.n==1)
  ·simp only [go_sem,k1,d1,d2]
   exact .mk _ (.refl _) (.ai hid) ⟨by simp [bX,e1,d1,d2,au],rfl⟩
  all_goals
   simp only [go_sem,k1,d1,d2];exact .mk _ (.refl _) (.ai hid) ⟨by simp [bX,e1,d1,d2,au],rfl⟩
 have n1:v.kind≠1:=by simpa using k1
 cases k2:(v.kind==2)
 case true=>
  have e1:v.kind=2:=by simpa using k2
  simp only [go_sem,k1,k2];exact .mk _ (.refl _) (.ai hid) ⟨by simp [bX,e1,au],rfl⟩
 have n2:v.kind≠2:=by simpa using k2
 cases k3:(v.kind==3)
 case true=>
  have e1:v.kind=3:=by simpa using k3
  cases d1:(v.n==0)
  all_goals
   simp only [go_sem,k1,k2,k3,d1];exact .mk _ (.refl _) (.ai hid) ⟨by simp [bX,e1,d1,au]<;>omega,rfl⟩
 have n3:v.kind≠3:=by simpa using k3
 cases k4:(v.kind==4)
 case true=>
  have e1:v.kind=4:=by simpa using k4
  cases d1:decide (0≤v.n)<;>cases d2:decide (v.n≤1099511627776)
  all_goals
   simp only [go_sem,k1,k2,k3,k4,d1,d2];exact .mk _ (.refl _) (.ai hid) ⟨by simp [bX,e1,d1,d2,au],rfl⟩
 have n4:v.kind≠4:=by simpa using k4
 cases k5:(v.kind==5)
 case true=>
  have e1:v.kind=5:=by simpa using k5
  cases d1:(v.n==0)
  ·simp only [go_sem,k1,k2,k3,k4,k5,d1]
   exact .mk _ (.refl _) (.ai hid) ⟨by simp [bX,e1,d1,au],rfl⟩
  ·simp only [go_sem,k1,k2,k3,k4,k5,d1]
   refine (me _ _).pthen ?_;simp only [go_sem];exact .mk _ (.refl _) (.ai hid) ⟨by simp [bX,e1,d1,au],rfl⟩
 have n5:v.kind≠5:=by simpa using k5
 simp only [go_sem,k1,k2,k3,k4,k5];exact .mk _ (.refl _) (.ai hid) ⟨by simp [bX,n1,n2,n3,n4,n5,au],rfl⟩
theorem Gu (m:bH) (h:Heap):ak Tryz.prog 302 [cV m] h fun r h' =>r= .v (.bool (jv m))∧h' =h:=by
 refine ak.body hU hm Tryz.func302 rfl (by kernel_rfl) 21 rfl [.tmp 2] rfl (Uf rfl) (fun hwf=> ?_)
 simp only [go_sem,cV];intro id hid;simp only [go_sem];refine (CL m.attr _).pthen ?_;cases d0:mY m.attr
 ·simp only [go_sem]
  exact .mk _ (.refl _) (.ai hid) ⟨by simp [jv,d0,au],rfl⟩
 cases d1:decide (1≤m.op)
 ·simp only [go_sem,d1]
  exact .mk _ (.refl _) (.ai hid) ⟨by simp [jv,d0,d1,au],rfl⟩
 cases d2:decide (m.op≤3)
 ·simp only [go_sem,d1,d2]
  exact .mk _ (.refl _) (.ai hid) ⟨by simp [jv,d0,d1,d2,au],rfl⟩
 simp only [go_sem,d1,d2];refine (iG m.val _).pthen ?_;simp only [go_sem];exact .mk _ (.refl _) (.ai hid) ⟨by simp [jv,d0,d1,d2,au],rfl⟩
theorem C6 (n:Nat) (h:Heap):ak Tryz.prog 280 [.v (.int .i64 n)] h fun r h' =>r= .v (.int .i64 (jb n))∧h' =h:=by
 refine ak.body hU hm Tryz.func280 rfl (by kernel_rfl) 9 rfl [.tmp 2] rfl (Uf rfl) (fun hwf=> ?_)
 cases d1:((n:Int)==0)
 case true=>
  have e1:n=0:=by simpa using d1
  simp only [go_sem,d1];exact .same (.refl _) ⟨by simp [jb,e1,au],rfl⟩
 have e1:n≠0:=by simpa using d1
 cases d2:decide (8<(n:Int))
 ·have e2:¬n>8:=by have:=Uj d2; omega
  simp only [go_sem,d1,d2];exact .same (.refl _) ⟨by simp [jb,e1,e2,au],rfl⟩
 ·have e2:n>8:=by have:=Ui d2; omega
  simp only [go_sem,d1,d2];exact .same (.refl _) ⟨by simp [jb,e1,e2,au],rfl⟩
theorem Ai {n:Nat} (h:jb n=0):1≤n∧n≤8:=by
 unfold jb at h;split at h
 ·cases h
 ·split at h
  ·cases h
  ·omega
theorem FB (l:List bH) (h:Heap):ak Tryz.prog 281 [gE l] h fun r h' =>r= .v (.int .i64 (tr l))∧h' =h:=by
 refine ak.body hU hm Tryz.func281 rfl (by kernel_rfl) 22 rfl [.tmp 2] rfl (Uf rfl) (fun hwf=> ?_)
 simp only [go_sem,gE,Ug];refine (C6 _ _).pthen ?_;cases d1:(jb l.length !=0)
 case true=>
  have e1:jb l.length≠0:=by simpa using d1
  simp only [go_sem,d1];exact .same (.refl _) ⟨by simp [tr,e1,au],rfl⟩
 have e1:jb l.length=0:=by simpa using d1
 have hlen:=Ai e1;simp only [go_sem,d1,Ug];refine .intro (fun m ρ h' =>Ab.Sub h h'∧∃i:Nat,i≤l.length∧m=l.length - i∧(l.take i).all jv=true∧lk ρ 12=some (gE l)∧lk ρ 13=some (.v (.int .i64 l.length))∧lk ρ 14=some (.v (.int .i64 i))) l.length ?_ ?_
 ·refine ⟨.refl _,0,by omega,rfl,rfl, ?_, ?_, ?_⟩<;>simp only [go_sem,gE]
 ·rintro m ρ h' ⟨hs,i,hi,rfl,hc,r12,r13,r14⟩
  simp only [go_sem,r13,r14];refine .intro (fun e=> ?_) (fun e=> ?_)
  ·have hlt:i<l.length:=Un e
   have w1:=Um i (by omega)
   simp only [go_sem,r12,r14,gE];refine .at i (by simpa using hlt) (by rw [Uh]; rfl) ?_
   simp only [go_sem,Uh,cV];intro id hid;simp only [go_sem];refine (Gu l[i] _).pthen ?_;cases d2:jv l[i]
   ·simp only [go_sem]
    refine .mk _ (.refl _) (hs.new hid _) ⟨?_,rfl⟩;have:l.all jv=false:=List.all_eq_false.2 ⟨_,Ul hlt,by simp [d2]⟩
    simp [tr,e1,this,au]
   ·simp only [go_sem,r14,w1]
    refine ⟨_, ?_,hs.new hid _,i+1,by omega,rfl, ?_, ?_, ?_, ?_⟩
    ·omega
    ·rw [List.take_succ_eq_append_getElem hlt,List.all_append,hc]; simp [d2]
    all_goals simp only [go_sem,r12,r13,gE]
  ·have hge:i=l.length:=by have:=Uj e; omega
   subst hge;rw [List.take_length] at hc;simp only [go_sem];exact .mk _ (.refl _) hs ⟨by simp [tr,e1,hc,au],rfl⟩
theorem aE {h:Heap} {i j:Nat} {b:Blk} (e:upd h i (some b) j=none):h j=none:=by rwa [ag _ _ (aH e)] at e
theorem HG {v:bR} (h:(v.kind==(0:Int) && (v.n==(0:Int) && v.s==([]:Txt)))=false):¬v.kind=0∨¬v.n=0∨¬v.s= []:=by
 by_cases a1:v.kind=0
 ·by_cases a2:v.n=0
  ·by_cases a3:v.s= []
   ·simp [a1,a2,a3] at h
   ·exact .inr (.inr a3)
  ·exact .inr (.inl a2)
 ·exact .inl a1
theorem HF {v:bR} (h:(v.kind==(0:Int) && (v.n==(0:Int) && v.s==([]:Txt)))=true):v.kind=0∧v.n=0∧v.s= []:=by
 simpa [Bool.and_eq_true] using h
theorem Ey (k:Int) (h:Heap):ak Tryz.prog 115 [.v (.int .i64 k)] h fun r h' =>r= .v (.bool (rJ k))∧h' =h:=by
 refine ak.body hU hm Tryz.func115 rfl (by kernel_rfl) 9 rfl [.tmp 2] rfl (Uf rfl) (fun hwf=> ?_)
 cases d1:decide (1≤k)
 ·simp -implicitDefEqProofs only [go_sem,d1]
  exact .same (.refl _) ⟨by simp only [rJ,d1,au,Bool.false_and],rfl⟩
 ·simp -implicitDefEqProofs only [go_sem,d1]
  exact .same (.refl _) ⟨by simp only [rJ,d1,au,Bool.true_and],rfl⟩
theorem ur (s:Txt) (h:Heap):ak Tryz.prog 58 [.s s] h fun r h' =>r= .v (.bool (iL s))∧h' =h:=by
 refine ak.body hU hm Tryz.func58 rfl (by kernel_rfl) 9 rfl [.tmp 2] rfl (Uf rfl) (fun hwf=> ?_)
 cases d1:(s==([]:Txt))
 ·simp -implicitDefEqProofs only [go_sem,d1]
  refine (me s h).pthen ?_;simp -implicitDefEqProofs only [go_sem];exact .same (.refl _) ⟨by simp only [iL,d1,au,Bool.false_or],rfl⟩
 ·simp -implicitDefEqProofs only [go_sem,d1]
  exact .same (.refl _) ⟨by simp only [iL,d1,au,Bool.true_or],rfl⟩
theorem BM (a b:Txt) (h:Heap):ak Tryz.prog 119 [.s a, .s b] h fun r h' =>r= .v (.bool (jE a b))∧h' =h:=by
 refine ak.body hU hm Tryz.func119 rfl (by kernel_rfl) 22 rfl [.tmp 4] rfl (Uf rfl) (fun hwf=> ?_)
 cases d1:(a==gw)<;>cases d2:(a==tj)<;>cases d3:(a==wW)<;>cases d4:(b==tj)<;>simp only [gw,tj,wW] at d1 d2 d3 d4<;>simp -implicitDefEqProofs only [go_sem,d1,d2,d3,d4]<;>
  exact .same (.refl _) ⟨by simp only [jE,d1,d2,d3,d4,au,gw,tj,wW,ga,if_true,Bool.false_eq_true,if_false,Bool.true_or,Bool.false_or],rfl⟩
theorem wO (k:Int) (hk:i64 k) (h:Heap):ak Tryz.prog 70 [.v (.int .i64 k)] h fun r h' =>r= .s (iJ k)∧h' =h:=by
 refine ak.body hU hm Tryz.func70 rfl (by kernel_rfl) 18 rfl [.tmp 2] rfl (Uf rfl) (fun hwf=> ?_)
 simp -implicitDefEqProofs only [go_sem];cases d1:decide (k<1)
 case true=>
  simp -implicitDefEqProofs only [go_sem];exact .same (.refl _) ⟨by simp only [iJ,Ui d1,true_or,if_true,au],rfl⟩
 cases d2:decide ((7:Int)<k)
 case true=>
  simp -implicitDefEqProofs only [go_sem,d2];exact .same (.refl _) ⟨by simp only [iJ,show k>7 from Ui d2,or_true,if_true,au],rfl⟩
 have h1:=Uj d1;have h2:=Uj d2;obtain ⟨j,rfl⟩:∃j:Nat,k=(j:Int)+1:=⟨(k - 1).toNat,by omega⟩
 have hj:j<7:=by omega
 have w1:IntKind.i64.wrap ((j:Int)+1 - 1)=(j:Int):=by rw [bz _ (by omega)]; omega
 simp -implicitDefEqProofs only [go_sem,d2,w1];refine .at j (by simpa using hj) (by rcases j with _|_|_|_|_|_|_|j<;>first|rfl|omega) ?_
 rcases j with _|_|_|_|_|_|_|j
 all_goals first|omega|skip
 all_goals
  simp -implicitDefEqProofs only [go_sem,List.getElem_cons_zero,List.getElem_cons_succ];exact .same (.refl _) ⟨by rfl,rfl⟩
theorem EL (o:OpD) (h:Heap):ak Tryz.prog 57 [opA o] h fun r h' =>r= .v (.bool (kZ o))∧h' =h:=by
 refine ak.body hU hm Tryz.func57 rfl (by kernel_rfl) 23 rfl [.tmp 2] rfl (Uf rfl) (fun hwf=> ?_)
 simp -implicitDefEqProofs only [go_sem,opA,opC];intro id hid;cases d1:o.glass
 ·simp -implicitDefEqProofs only [go_sem]
  exact .mk _ (.refl _) (.ai hid) ⟨by simp [kZ,d1,au],rfl⟩
 simp -implicitDefEqProofs only [go_sem];refine (Ey _ _).pthen ?_;cases d2:rJ o.kind
 ·simp -implicitDefEqProofs only [go_sem]
  exact .mk _ (.refl _) (.ai hid) ⟨by simp [kZ,d1,d2,au],rfl⟩
 cases d3:(o.reason==([]:Txt))
 ·simp -implicitDefEqProofs only [go_sem,d3]
  exact .mk _ (.refl _) (.ai hid) ⟨by
   simp only [kZ,d1,d2,d3,au,if_true,Bool.not_false,Bool.true_and]
   congr 2
   simp only [decide_eq_decide];omega,rfl⟩
 ·simp -implicitDefEqProofs only [go_sem,d3]
  exact .mk _ (.refl _) (.ai hid) ⟨by simp [kZ,d1,d2,d3,au],rfl⟩
theorem Il (o:OpD) (h:Heap):ak Tryz.prog 116 [opA o] h fun r h' =>r=opA (fY o)∧h' =h:=by
 refine ak.body hU hm Tryz.func116 rfl (by kernel_rfl) 7 rfl [.cell 2 44] rfl (Uf rfl) (fun hwf=> ?_)
 simp -implicitDefEqProofs only [go_sem,opA,opC];intro i1 h1;simp -implicitDefEqProofs only [go_sem];intro i2 h2;have hne:=aH h2;simp -implicitDefEqProofs only [go_sem,aj,hne,hne.symm];have n2:=aE h2;exact .mk _ (.refl _) (((((Sub.refl h).put h1 _).put n2 _).put h1 _).put n2 _) ⟨rfl,rfl⟩
set_option maxRecDepth 100000 in
theorem Hv (o:OpD) (h:Heap):ak Tryz.prog 60 [opA o] h fun r h' =>r= .v (.bool (cX o))∧h' =h:=by
 have hb:=fun hh=>Il o hh
 simp only [fY,opA,opC] at hb;refine ak.body hU hm Tryz.func60 rfl (by kernel_rfl) 111 rfl [.tmp 2] rfl (Uf rfl) (fun hwf=> ?_)
 simp -implicitDefEqProofs only [go_sem,opA,opC];intro i1 h1;simp -implicitDefEqProofs only [go_sem];refine (hb _).pthen ?_;simp -implicitDefEqProofs only [go_sem];intro i3 h3;have n31:=aH h3;have n3:=aE h3;simp -implicitDefEqProofs only [go_sem,aj,n31.symm];intro i4 h4;have n43:=aH h4;have h4' :=aE h4;have n41:=aH h4';have n4:=aE h4';have bnd:o.kind≠1→o.kind≠2→o.kind≠3→o.kind≠4→o.kind≠5→o.kind≠6→o.kind≠7→o.kind≠8→(decide (1≤o.kind) && decide (o.kind≤8))=false:=by
  intro a1 a2 a3 a4 a5 a6 a7 a8;simp only [Bool.and_eq_false_iff,decide_eq_false_iff_not];omega
 by_cases k1:o.kind=1
 ·simp -implicitDefEqProofs only [go_sem,aj,n31.symm,n41.symm,k1]
  cases dcase:(o.case==([]:Txt))
  ·simp -implicitDefEqProofs only [go_sem,aj,n43.symm]
   exact .mk _ (.refl _) (by repeat' first|exact .refl _|(refine Sub.put ?_ (by assumption) _)) ⟨by simp [cX,okD,gO,fY,kL,az,au,k1,decide_true,dcase,Bool.and_true,Bool.true_and,Bool.not_false],rfl⟩
  ·simp -implicitDefEqProofs only [go_sem]
   exact .mk _ (.refl _) (by repeat' first|exact .refl _|(refine Sub.put ?_ (by assumption) _)) ⟨by simp [cX,okD,gO,fY,kL,az,au,k1,decide_true,dcase,Bool.and_true,Bool.true_and,Bool.false_and,Bool.and_false,Bool.not_true],rfl⟩
 by_cases k2:o.kind=2
 ·simp -implicitDefEqProofs only [go_sem,aj,n31.symm,n41.symm,k2,Int.reduceBEq]
  refine .calls (hm1 i1 _) [0,1,2,3,4,5,6,7] (.hm1 (by rw [ag _ _ n41.symm,ag _ _ n31.symm,ah])) (by kernel_rfl) rfl ?_
  simp -implicitDefEqProofs only [go_sem,aj,n31.symm,n41.symm];refine ⟨(.hm1 (by simp only [aj,n41.symm,n31.symm,fC,not_false_eq_true])),(.hm1 (by simp only [aj,n41.symm,n31.symm,fC,not_false_eq_true])), ?_⟩
  cases dcase:(o.case==([]:Txt))
  ·simp -implicitDefEqProofs only [go_sem,aj,n31.symm,n41.symm]
   cases dfield:(o.field==([]:Txt))
   ·simp -implicitDefEqProofs only [go_sem,aj,n43.symm]
    exact .mk _ (.refl _) (by repeat' first|exact .refl _|(refine Sub.put ?_ (by assumption) _)) ⟨by simp [cX,okD,gO,fY,kL,az,au,k2,decide_true,dcase,dfield,Bool.and_true,Bool.true_and,Bool.not_false],rfl⟩
   ·simp -implicitDefEqProofs only [go_sem]
    exact .mk _ (.refl _) (by repeat' first|exact .refl _|(refine Sub.put ?_ (by assumption) _)) ⟨by simp [cX,okD,gO,fY,kL,az,au,k2,decide_true,dcase,dfield,Bool.and_true,Bool.true_and,Bool.false_and,Bool.and_false,Bool.not_true,Bool.not_false],rfl⟩
  ·simp -implicitDefEqProofs only [go_sem]
   exact .mk _ (.refl _) (by repeat' first|exact .refl _|(refine Sub.put ?_ (by assumption) _)) ⟨by simp [cX,okD,gO,fY,kL,az,au,k2,decide_true,dcase,Bool.and_true,Bool.true_and,Bool.false_and,Bool.and_false,Bool.not_true],rfl⟩
 by_cases k6:o.kind=6
 ·simp -implicitDefEqProofs only [go_sem,aj,n31.symm,n41.symm,k6,Int.reduceBEq]
  refine .calls (hm1 i1 _) [0,1,2,3,4,5,6,7] (.hm1 (by rw [ag _ _ n41.symm,ag _ _ n31.symm,ah])) (by kernel_rfl) rfl ?_
  simp -implicitDefEqProofs only [go_sem,aj,n31.symm,n41.symm];refine ⟨(.hm1 (by simp only [aj,n41.symm,n31.symm,fC,not_false_eq_true])),(.hm1 (by simp only [aj,n41.symm,n31.symm,fC,not_false_eq_true])), ?_⟩
  cases dcase:(o.case==([]:Txt))
  ·simp -implicitDefEqProofs only [go_sem,aj,n31.symm,n41.symm]
   cases dfield:(o.field==([]:Txt))
   ·simp -implicitDefEqProofs only [go_sem,aj,n43.symm]
    exact .mk _ (.refl _) (by repeat' first|exact .refl _|(refine Sub.put ?_ (by assumption) _)) ⟨by simp [cX,okD,gO,fY,kL,az,au,k6,decide_true,dcase,dfield,Bool.and_true,Bool.true_and,Bool.not_false],rfl⟩
   ·simp -implicitDefEqProofs only [go_sem]
    exact .mk _ (.refl _) (by repeat' first|exact .refl _|(refine Sub.put ?_ (by assumption) _)) ⟨by simp [cX,okD,gO,fY,kL,az,au,k6,decide_true,dcase,dfield,Bool.and_true,Bool.true_and,Bool.false_and,Bool.and_false,Bool.not_true,Bool.not_false],rfl⟩
  ·simp -implicitDefEqProofs only [go_sem]
   exact .mk _ (.refl _) (by repeat' first|exact .refl _|(refine Sub.put ?_ (by assumption) _)) ⟨by simp [cX,okD,gO,fY,kL,az,au,k6,decide_true,dcase,Bool.and_true,Bool.true_and,Bool.false_and,Bool.and_false,Bool.not_true],rfl⟩
 by_cases k3:o.kind=3
 ·simp -implicitDefEqProofs only [go_sem,aj,n31.symm,n41.symm,k3,Int.reduceBEq]
  refine .calls (hm1 i1 _) [0,1,2,3,4,5,6,7,8,9,10,11] (.hm1 (by rw [ag _ _ n41.symm,ag _ _ n31.symm,ah])) (by kernel_rfl) rfl ?_
  simp -implicitDefEqProofs only [go_sem,aj,n31.symm,n41.symm];refine ⟨(.hm1 (by simp only [aj,n41.symm,n31.symm,fC,not_false_eq_true])),(.hm1 (by simp only [aj,n41.symm,n31.symm,fC,not_false_eq_true])),(.hm1 (by simp only [aj,n41.symm,n31.symm,fC,not_false_eq_true])), ?_⟩
  cases dcase:(o.case==([]:Txt))
  ·simp -implicitDefEqProofs only [go_sem,aj,n31.symm,n41.symm]
   cases dfield:(o.field==([]:Txt))
   ·simp -implicitDefEqProofs only [go_sem,aj,n31.symm,n41.symm]
    cases dval:(o.val.kind==(0:Int) && (o.val.n==(0:Int) && o.val.s==([]:Txt)))
    ·simp -implicitDefEqProofs only [go_sem,aj,n43.symm]
     exact .mk _ (.refl _) (by repeat' first|exact .refl _|(refine Sub.put ?_ (by assumption) _)) ⟨by simp [cX,okD,gO,fY,kL,eqV,az,au,k3,decide_true,dcase,dfield,Bool.and_true,Bool.true_and,Bool.not_true,Bool.not_false]; first|exact fun _ _ _=>HG dval|(intro hh; obtain ⟨a,b,c⟩:=HF dval; simp [a,b,c] at hh),rfl⟩
    ·simp -implicitDefEqProofs only [go_sem]
     exact .mk _ (.refl _) (by repeat' first|exact .refl _|(refine Sub.put ?_ (by assumption) _)) ⟨by simp [cX,okD,gO,fY,kL,eqV,az,au,k3,decide_true,dcase,dfield,Bool.and_true,Bool.true_and,Bool.not_true,Bool.not_false]; first|exact fun _ _ _=>HG dval|(intro hh; obtain ⟨a,b,c⟩:=HF dval; simp [a,b,c] at hh),rfl⟩
   ·simp -implicitDefEqProofs only [go_sem]
    exact .mk _ (.refl _) (by repeat' first|exact .refl _|(refine Sub.put ?_ (by assumption) _)) ⟨by simp [cX,okD,gO,fY,kL,eqV,az,au,k3,decide_true,dcase,dfield,Bool.and_true,Bool.true_and,Bool.false_and,Bool.and_false,Bool.not_true,Bool.not_false],rfl⟩
  ·simp -implicitDefEqProofs only [go_sem]
   exact .mk _ (.refl _) (by repeat' first|exact .refl _|(refine Sub.put ?_ (by assumption) _)) ⟨by simp [cX,okD,gO,fY,kL,eqV,az,au,k3,decide_true,dcase,Bool.and_true,Bool.true_and,Bool.false_and,Bool.and_false,Bool.not_true],rfl⟩
 by_cases k4:o.kind=4
 ·simp -implicitDefEqProofs only [go_sem,aj,n31.symm,n41.symm,k4,Int.reduceBEq]
  refine .calls (hm1 i1 _) [0,1,2,3,4,5,6,7] (.hm1 (by rw [ag _ _ n41.symm,ag _ _ n31.symm,ah])) (by kernel_rfl) rfl ?_
  simp -implicitDefEqProofs only [go_sem,aj,n31.symm,n41.symm];refine ⟨(.hm1 (by simp only [aj,n41.symm,n31.symm,fC,not_false_eq_true])),(.hm1 (by simp only [aj,n41.symm,n31.symm,fC,not_false_eq_true])), ?_⟩
  cases dcase:(o.case==([]:Txt))
  ·simp -implicitDefEqProofs only [go_sem,aj,n31.symm,n41.symm]
   cases dto:(o.to==([]:Txt))
   ·simp -implicitDefEqProofs only [go_sem,aj,n43.symm]
    exact .mk _ (.refl _) (by repeat' first|exact .refl _|(refine Sub.put ?_ (by assumption) _)) ⟨by simp [cX,okD,gO,fY,kL,az,au,k4,decide_true,dcase,dto,Bool.and_true,Bool.true_and,Bool.not_false],rfl⟩
   ·simp -implicitDefEqProofs only [go_sem]
    exact .mk _ (.refl _) (by repeat' first|exact .refl _|(refine Sub.put ?_ (by assumption) _)) ⟨by simp [cX,okD,gO,fY,kL,az,au,k4,decide_true,dcase,dto,Bool.and_true,Bool.true_and,Bool.false_and,Bool.and_false,Bool.not_true,Bool.not_false],rfl⟩
  ·simp -implicitDefEqProofs only [go_sem]
   exact .mk _ (.refl _) (by repeat' first|exact .refl _|(refine Sub.put ?_ (by assumption) _)) ⟨by simp [cX,okD,gO,fY,kL,az,au,k4,decide_true,dcase,Bool.and_true,Bool.true_and,Bool.false_and,Bool.and_false,Bool.not_true],rfl⟩
 by_cases k5:o.kind=5
 ·simp -implicitDefEqProofs only [go_sem,aj,n31.symm,n41.symm,k5,Int.reduceBEq]
  cases drev0:decide ((0:Int)<o.review)
  ·simp -implicitDefEqProofs only [go_sem]
   exact .mk _ (.refl _) (by repeat' first|exact .refl _|(refine Sub.put ?_ (by assumption) _)) ⟨by simp [cX,okD,gO,fY,kL,az,au,k5,decide_true,drev0,Bool.and_true,Bool.true_and,Bool.false_and,Bool.and_false],rfl⟩
  ·simp -implicitDefEqProofs only [go_sem,aj,n43.symm]
   exact .mk _ (.refl _) (by repeat' first|exact .refl _|(refine Sub.put ?_ (by assumption) _)) ⟨by simp [cX,okD,gO,fY,kL,az,au,k5,decide_true,drev0,Bool.and_true,Bool.true_and],rfl⟩
 by_cases k7:o.kind=7
 ·simp -implicitDefEqProofs only [go_sem,aj,n31.symm,n43.symm,n41.symm,k7,Int.reduceBEq]
  exact .mk _ (.refl _) (by repeat' first|exact .refl _|(refine Sub.put ?_ (by assumption) _)) ⟨by simp [cX,okD,gO,fY,kL,az,au,k7,decide_true,Bool.and_true,Bool.true_and],rfl⟩
 by_cases k8:o.kind=8
 ·simp -implicitDefEqProofs only [go_sem,aj,n31.symm,n41.symm,k8,Int.reduceBEq]
  cases drev0:decide ((0:Int)<o.review)
  ·simp -implicitDefEqProofs only [go_sem]
   exact .mk _ (.refl _) (by repeat' first|exact .refl _|(refine Sub.put ?_ (by assumption) _)) ⟨by simp [cX,okD,gO,fY,kL,az,au,k8,decide_true,drev0,Bool.and_true,Bool.true_and,Bool.false_and,Bool.and_false],rfl⟩
  ·simp -implicitDefEqProofs only [go_sem,aj,n31.symm,n41.symm]
   cases drev1:decide (o.review≤(1099511627776:Int))
   ·simp -implicitDefEqProofs only [go_sem]
    exact .mk _ (.refl _) (by repeat' first|exact .refl _|(refine Sub.put ?_ (by assumption) _)) ⟨by simp [cX,okD,gO,fY,kL,az,au,k8,decide_true,drev0,drev1,Bool.and_true,Bool.true_and,Bool.false_and,Bool.and_false],rfl⟩
   ·simp -implicitDefEqProofs only [go_sem,aj,n43.symm]
    exact .mk _ (.refl _) (by repeat' first|exact .refl _|(refine Sub.put ?_ (by assumption) _)) ⟨by simp [cX,okD,gO,fY,kL,az,au,k8,decide_true,drev0,drev1,Bool.and_true,Bool.true_and],rfl⟩
 simp -implicitDefEqProofs only [go_sem,aj,n31.symm,n41.symm,beq_eq_false_iff_ne.2 k1,beq_eq_false_iff_ne.2 k2,beq_eq_false_iff_ne.2 k6,beq_eq_false_iff_ne.2 k3,beq_eq_false_iff_ne.2 k4,beq_eq_false_iff_ne.2 k5,beq_eq_false_iff_ne.2 k7,beq_eq_false_iff_ne.2 k8];exact .mk _ (.refl _) (by repeat' first|exact .refl _|(refine Sub.put ?_ (by assumption) _)) ⟨by simp only [cX,bnd k1 k2 k3 k4 k5 k6 k7 k8,Bool.false_and,au],rfl⟩
theorem Iy (o:OpD) (h:Heap):ak Tryz.prog 19 [opA o] h fun r h' =>r= .v (.bool (fq o))∧h' =h:=by
 have hr:=fun hh=>EL o hh
 have ht:=fun hh=>Hv o hh
 have hv:=fun hh=>iG o.val hh
 simp only [opA,opC,aS] at hr ht hv;refine ak.body hU hm Tryz.func19 rfl (by kernel_rfl) 48 rfl [.tmp 2] rfl (Uf rfl) (fun hwf=> ?_)
 simp -implicitDefEqProofs only [go_sem,opA,opC];intro i1 h1;simp -implicitDefEqProofs only [go_sem];refine (me o.subj _).pthen ?_;cases d1:bn o.subj
 ·simp -implicitDefEqProofs only [go_sem]
  exact .mk _ (.refl _) (.ai h1) ⟨by simp only [fq,d1,Bool.false_and,au],rfl⟩
 simp -implicitDefEqProofs only [go_sem];refine (hr _).pthen ?_;cases d2:kZ o
 ·simp -implicitDefEqProofs only [go_sem]
  exact .mk _ (.refl _) (.ai h1) ⟨by simp only [fq,d1,d2,Bool.false_and,Bool.true_and,au],rfl⟩
 cases d3:decide ((4096:Int)<(o.text.length:Int))
 case true=>
  have e3:decide (o.text.length≤4096)=false:=decide_eq_false (by have:=Ui d3; omega)
  simp -implicitDefEqProofs only [go_sem,d3];exact .mk _ (.refl _) (.ai h1) ⟨by simp only [fq,d1,d2,e3,Bool.false_and,Bool.true_and,au],rfl⟩
 have e3:decide (o.text.length≤4096)=true:=decide_eq_true (by have:=Uj d3; omega)
 simp -implicitDefEqProofs only [go_sem,d3];refine (ur o.case _).pthen ?_;cases d4:iL o.case
 ·simp -implicitDefEqProofs only [go_sem]
  exact .mk _ (.refl _) (.ai h1) ⟨by simp only [fq,d1,d2,e3,d4,Bool.false_and,Bool.true_and,au],rfl⟩
 simp -implicitDefEqProofs only [go_sem];refine (ur o.field _).pthen ?_;cases d5:iL o.field
 ·simp -implicitDefEqProofs only [go_sem]
  exact .mk _ (.refl _) (.ai h1) ⟨by simp only [fq,d1,d2,e3,d4,d5,Bool.false_and,Bool.true_and,au],rfl⟩
 simp -implicitDefEqProofs only [go_sem];refine (ur o.to _).pthen ?_;cases d6:iL o.to
 ·simp -implicitDefEqProofs only [go_sem]
  exact .mk _ (.refl _) (.ai h1) ⟨by simp only [fq,d1,d2,e3,d4,d5,d6,Bool.false_and,Bool.true_and,au],rfl⟩
 cases d7:(o.val.kind==(0:Int) && (o.val.n==(0:Int) && o.val.s==([]:Txt)))
 ·simp -implicitDefEqProofs only [go_sem,d7]
  refine (hv _).pthen ?_;have e7:eqV o.val az=false:=d7;cases d8:bX o.val
  ·simp -implicitDefEqProofs only [go_sem]
   exact .mk _ (.refl _) (.ai h1) ⟨by simp only [fq,d1,d2,e3,d4,d5,d6,e7,d8,Bool.or_self,Bool.false_and,Bool.true_and,au],rfl⟩
  simp -implicitDefEqProofs only [go_sem];refine (ht _).pthen ?_;simp -implicitDefEqProofs only [go_sem];exact .mk _ (.refl _) (.ai h1) ⟨by simp only [fq,d1,d2,e3,d4,d5,d6,e7,d8,Bool.false_or,Bool.true_and,au],rfl⟩
 ·simp -implicitDefEqProofs only [go_sem,d7]
  have e7:eqV o.val az=true:=d7;refine (ht _).pthen ?_;simp -implicitDefEqProofs only [go_sem];exact .mk _ (.refl _) (.ai h1) ⟨by simp only [fq,d1,d2,e3,d4,d5,d6,e7,Bool.true_or,Bool.true_and,au],rfl⟩
end Go.Proofs.YtmlhcdeamjkpjaaGreatDoor
namespace Go.Bf
open Go Go.Ab
def ixD {α:Type} (q:α→Bool) (l:List α):Int:=if l.findIdx q<l.length then (l.findIdx q:Nat) else -1
theorem lD {α:Type} {q:α→Bool} {l:List α} {i:Nat} (hi:i<l.length) (h1:q l[i]=true) (h2:∀j (hj:j<i),q (l[j]'(by omega))=false):ixD q l=(i:Nat):=by
 have e:l.findIdx q=i:=(List.findIdx_eq hi).2 ⟨h1,fun j hj=>h2 j hj⟩
 rw [ixD,e,if_pos hi]
theorem gX {α:Type} {q:α→Bool} {l:List α} (h:∀j (hj:j<l.length),q l[j]=false):ixD q l= -1:=by
 have e:l.findIdx q=l.length:=List.findIdx_eq_length.2 fun x hx=>by
  obtain ⟨j,hj,rfl⟩:=List.mem_iff_getElem.1 hx;exact h j hj
 rw [ixD,e,if_neg (Nat.lt_irrefl _)]
end Go.Bf
namespace Go.Proofs.YtmlhcdeamjkpjaaGreatDoor
open Go Go.Ab Go.Bf
theorem rD {α:Type} (y:AV) (xs:List AV) (ds:List α) (q:α→Bool) (g:FuncId) (cap:List AV) (h:Heap) (hb:Rd h 5 y xs) (hn:xs.length=ds.length) (hl:xs.length≤1000000000) (hx:∀x∈xs,bp x=true)
  (hp:∀i (h1:i<xs.length) (h2:i<ds.length),ak Tryz.prog g (xs[i]::cap) h fun r h' =>r= .v (.bool (q ds[i]))∧h' =h):
  ak Tryz.prog 117 [y, .fn g cap] h fun r h' =>r= .v (.int .i64 (ixD q ds))∧h' =h:=by
 refine ak.body hU hm Tryz.func117 rfl (by kernel_rfl) 19 rfl [.tmp 4] rfl (Uf rfl) (fun hwf=> ?_)
 simp only [go_sem,hb.len];refine .intro (fun m ρ h' =>h' =h∧∃i:Nat,i≤xs.length∧m=xs.length - i∧(∀j (hj:j<i) (h2:j<ds.length),q ds[j]=false)∧lk ρ 0=some y∧lk ρ 1=some (.fn g cap)∧lk ρ 7=some (.v (.int .i64 xs.length))∧lk ρ 8=some (.v (.int .i64 i))) xs.length ?_ ?_
 ·refine ⟨rfl,0,by omega,rfl,fun j hj=>(by omega), ?_, ?_, ?_, ?_⟩<;>simp only [go_sem]
 ·rintro m ρ h' ⟨rfl,i,hi,rfl,hc,r0,r1,r7,r8⟩
  simp only [go_sem,r7,r8];refine .intro (fun e=> ?_) (fun e=> ?_)
  ·have hlt:i<xs.length:=Un e
   have hlt2:i<ds.length:=by omega
   have w1:=Um i (by omega)
   simp only [go_sem,r0,r1,r8];refine hb.idx (e:=57) i rfl hlt (by simp only [go_sem]) (by decide) fun p hp1=> ?_
   have hld:=hp1.all (U:=U) (ty:=57) (by simp only [go_sem]) (by simp only [go_sem]; exact hb.1 _ (Ul hlt)) (by simp only [go_sem]; rw [hx _ (Ul hlt)])
   simp only [go_sem,hld];refine (show ak Tryz.prog g (xs[i]::cap) _ _ from hp i hlt hlt2).pthen ?_
   cases d1:q ds[i]
   ·simp only [go_sem,r8,w1]
    refine ⟨_, ?_,rfl,i+1,by omega,rfl,fun j hj h2=> ?_, ?_, ?_, ?_, ?_⟩
    ·omega
    ·by_cases hji:j=i
     ·subst hji; exact d1
     ·exact hc j (by omega) h2
    all_goals simp only [go_sem,r0,r1,r7]
   ·simp only [go_sem]
    exact .same (.refl _) ⟨by rw [lD hlt2 d1 fun j hj=>hc j hj (by omega)]; rfl,rfl⟩
  ·have hge:i=xs.length:=by have:=Uj e; omega
   simp only [go_sem];exact .same (.refl _) ⟨by rw [gX fun j hj=>hc j (by omega) hj]; rfl,rfl⟩
theorem uN {α:Type} (y:AV) (xs:List AV) (ds:List α) (q:α→Bool) (g:FuncId) (cap:List AV) (h:Heap) (hb:Rd h 4 y xs) (hn:xs.length=ds.length) (hl:xs.length≤1000000000) (hx:∀x∈xs,bp x=true)
  (hp:∀i (h1:i<xs.length) (h2:i<ds.length),ak Tryz.prog g (xs[i]::cap) h fun r h' =>r= .v (.bool (q ds[i]))∧h' =h):
  ak Tryz.prog 77 [y, .fn g cap] h fun r h' =>r= .v (.int .i64 (ixD q ds))∧h' =h:=by
 refine ak.body hU hm Tryz.func77 rfl (by kernel_rfl) 19 rfl [.tmp 4] rfl (Uf rfl) (fun hwf=> ?_)
 simp only [go_sem,hb.len];refine .intro (fun m ρ h' =>h' =h∧∃i:Nat,i≤xs.length∧m=xs.length - i∧(∀j (hj:j<i) (h2:j<ds.length),q ds[j]=false)∧lk ρ 0=some y∧lk ρ 1=some (.fn g cap)∧lk ρ 7=some (.v (.int .i64 xs.length))∧lk ρ 8=some (.v (.int .i64 i))) xs.length ?_ ?_
 ·refine ⟨rfl,0,by omega,rfl,fun j hj=>(by omega), ?_, ?_, ?_, ?_⟩<;>simp only [go_sem]
 ·rintro m ρ h' ⟨rfl,i,hi,rfl,hc,r0,r1,r7,r8⟩
  simp only [go_sem,r7,r8];refine .intro (fun e=> ?_) (fun e=> ?_)
  ·have hlt:i<xs.length:=Un e
   have hlt2:i<ds.length:=by omega
   have w1:=Um i (by omega)
   simp only [go_sem,r0,r1,r8];refine hb.idx (e:=131) i rfl hlt (by simp only [go_sem]) (by decide) fun p hp1=> ?_
   have hld:=hp1.all (U:=U) (ty:=131) (by simp only [go_sem]) (by simp only [go_sem]; exact hb.1 _ (Ul hlt)) (by simp only [go_sem]; rw [hx _ (Ul hlt)])
   simp only [go_sem,hld];refine (show ak Tryz.prog g (xs[i]::cap) _ _ from hp i hlt hlt2).pthen ?_
   cases d1:q ds[i]
   ·simp only [go_sem,r8,w1]
    refine ⟨_, ?_,rfl,i+1,by omega,rfl,fun j hj h2=> ?_, ?_, ?_, ?_, ?_⟩
    ·omega
    ·by_cases hji:j=i
     ·subst hji; exact d1
     ·exact hc j (by omega) h2
    all_goals simp only [go_sem,r0,r1,r7]
   ·simp only [go_sem]
    exact .same (.refl _) ⟨by rw [lD hlt2 d1 fun j hj=>hc j hj (by omega)]; rfl,rfl⟩
  ·have hge:i=xs.length:=by have:=Uj e; omega
   simp only [go_sem];exact .same (.refl _) ⟨by rw [gX fun j hj=>hc j (by omega) hj]; rfl,rfl⟩
def RdC (h:Heap) (x:AV) (c:aK):Prop:=∃f l,x= .agg [.s c.id, .s c.owner, .s c.state,f,l]∧Rd h 4 f (c.fields.map bE)∧Rd h 3 l (c.log.map gG)
def vV (h:Heap) (y:AV) (cs:List aK):Prop:=∃xs,Rd h 5 y xs∧xs.length=cs.length∧∀i (h1:i<xs.length) (h2:i<cs.length),RdC h xs[i] cs[i]
def RdS (h:Heap) (x:AV) (s:an):Prop:=∃y1 y2 y3 y4,x= .agg ([.v (.int .i64 s.tick),y1,y2,y3,y4]++fl s.policy++ [.v (.int .i64 s.version)])∧vV h y1 s.cases∧Rd h 7 y2 (s.reviews.map fP)∧Rd h 3 y3 (s.notices.map kM)∧Rd h 2 y4 (s.roles.map dD)
theorem RdC.sub {h h' :Heap} {x:AV} {c:aK} (hb:RdC h x c) (hs:Ab.Sub h h'):RdC h' x c:=by
 obtain ⟨f,l,e,h1,h2⟩:=hb;exact ⟨f,l,e,h1.sub hs,h2.sub hs⟩
theorem vV.sub {h h' :Heap} {y:AV} {cs:List aK} (hb:vV h y cs) (hs:Ab.Sub h h'):vV h' y cs:=by
 obtain ⟨xs,h1,h2,h3⟩:=hb;exact ⟨xs,h1.sub hs,h2,fun i a b=>(h3 i a b).sub hs⟩
theorem RdS.sub {h h' :Heap} {x:AV} {s:an} (hb:RdS h x s) (hs:Ab.Sub h h'):RdS h' x s:=by
 obtain ⟨y1,y2,y3,y4,e,h1,h2,h3,h4⟩:=hb;exact ⟨y1,y2,y3,y4,e,h1.sub hs,h2.sub hs,h3.sub hs,h4.sub hs⟩
theorem bh {α:Type} {f:α→AV} {n:Nat} (hf:∀a,(f a).cells.length=n) (l:List α):Sized n (l.map f):=fun z hz=>by
 obtain ⟨a,_,rfl⟩:=List.mem_map.1 hz;exact hf a
theorem lY {α:Type} {f:α→AV} (hf:∀a,bp (f a)=true) (l:List α):∀x∈l.map f,bp x=true:=fun z hz=>by
 obtain ⟨a,_,rfl⟩:=List.mem_map.1 hz;exact hf a
theorem dS {α:Type} (f:α→AV) (n:Nat) (hf:∀a,(f a).cells.length=n) (h:Heap) (l:List α):Rd h n (.sl (l.map f) .no) (l.map f):= .sl (bh hf l) _
theorem rdC (h:Heap) (c:aK):RdC h (bM c) c:=⟨_,_,rfl,dS bE 4 (fun _=>rfl) h _,dS gG 3 (fun _=>rfl) h _⟩
theorem Qc (h:Heap) (cs:List aK):vV h (je cs) cs:=⟨_,dS bM 5 (fun _=>rfl) h cs,by simp,fun i h1 h2=>by rw [Uh]; exact rdC h _⟩
theorem rdS (h:Heap) (s:an):RdS h (dj s) s:=⟨_,_,_,_,rfl,Qc h _,dS fP 7 (fun _=>rfl) h _,dS kM 3 (fun _=>rfl) h _,dS dD 2 (fun _=>rfl) h _⟩
theorem RdC.agg {h:Heap} {x:AV} {c:aK} (hb:RdC h x c):bp x=true:=by
 obtain ⟨f,l,rfl,_⟩:=hb;rfl
theorem vV.agg {h:Heap} {xs:List AV} {cs:List aK} (hn:xs.length=cs.length) (hb:∀i (h1:i<xs.length) (h2:i<cs.length),RdC h xs[i] cs[i]):∀x∈xs,bp x=true:=fun x hx=>by
 obtain ⟨i,hi,rfl⟩:=List.mem_iff_getElem.1 hx;exact (hb i hi (by omega)).agg
theorem lp:(U 57).sz=5:=by simp only [go_sem]
theorem Cz:(U 131).sz=4:=by simp only [go_sem]
theorem E5:(U 9).sz≠0:=by simp only [go_sem]
theorem HD:(U 9).sz=1:=by simp only [go_sem]
theorem FZ {h:Heap} {x:AV} {c:aK} (hb:RdC h x c) {k:Nat} {id:Txt} (hk:h k=some (.obj [.s id] 9)):ak Tryz.prog 118 [x, .ptr k 0] h fun r h' =>r= .v (.bool (geB c.id id))∧h' =h:=by
 obtain ⟨f,l,rfl,hf,hl⟩:=hb;refine ak.body hU hm Tryz.func118 rfl (by kernel_rfl) 8 rfl [.tmp 3] rfl (Uf rfl) (fun hwf=> ?_)
 simp only [go_sem];intro i1 h1;have n1:k≠i1:=fun e=>by subst e; rw [hk] at h1; cases h1
 simp only [go_sem,aj,n1,hk];exact .mk _ (.refl _) (.ai h1) ⟨rfl,rfl⟩
structure Few (s:an):Prop where
 cases:s.cases.length≤1000000
 fields:∀c∈s.cases,c.fields.length≤1000000
 log:∀c∈s.cases,c.log.length≤1000000
 reviews:s.reviews.length≤1000000
 notices:s.notices.length≤1000000
 roles:s.roles.length≤1000000
theorem gL {cs:List aK} {id:Txt} (h:bG cs id=true):findD cs id<cs.length:=by
 unfold bG at h;split at h
 ·rename_i c hc
  exact (List.getElem?_eq_some_iff.1 hc).1
 ·cases h
theorem EZ {cs:List aK} {id:Txt} (h:findD cs id<cs.length):bG cs id=(cs[findD cs id].id==id):=by
 unfold bG;rw [List.getElem?_eq_getElem h]
theorem E0 {cs:List aK} {id:Txt} (h:¬findD cs id<cs.length):bG cs id=false:=by
 unfold bG;rw [List.getElem?_eq_none (by omega)]
theorem yu {h:Heap} {x:AV} {s:an} (hb:RdS h x s) (id:Txt) (hl:s.cases.length≤1000000):ak Tryz.prog 63 [x, .s id] h fun r h' =>r= .tup [.v (.int .i64 (findD s.cases id:Nat)), .v (.bool (bG s.cases id))]∧h' =h:=by
 obtain ⟨y1,y2,y3,y4,rfl,⟨xs,hc,hn,hcs⟩,h2,h3,h4⟩:=hb;cases hp:s.policy with
 |mk pid pset palg ptgt prules pkids pobls=>
 refine ak.body hU hm Tryz.func63 rfl (by kernel_rfl) 25 rfl [.tmp 4, .tmp 5] rfl (Uf rfl) (fun hwf=> ?_)
 simp only [go_sem,fl,List.cons_append,List.nil_append];intro i1 h1;simp only [go_sem];intro i2 h2;have n21:=aH h2;have n2:=aE h2;have hs:∀a b,Ab.Sub h (upd (upd h i1 a) i2 b):=fun a b=>((Sub.refl h).put h1 a).put n2 b
 simp only [go_sem,aj,n21.symm];refine (rD y1 xs s.cases (fun c=>geB c.id id) _ [.ptr i2 0] _ (hc.sub (hs _ _)) hn (by omega) (vV.agg hn hcs) fun i a b=>FZ ((hcs i a b).sub (hs _ _)) (ah ..)).pthen ?_
 by_cases hf:findD s.cases id<s.cases.length
 ·have e1:ixD (fun c=>geB c.id id) s.cases=(findD s.cases id:Nat):=by rw [ixD]; exact if_pos hf
  have d1:decide (((findD s.cases id:Nat):Int)<0)=false:=decide_eq_false (by omega)
  rw [e1];simp only [go_sem,aj,n21.symm,d1];refine ⟨.of (by kernel_rfl), ?_⟩
  obtain ⟨f,l,ex,hfl,hlg⟩:=hcs (findD s.cases id) (by omega) hf
  refine hc.idx (e:=57) (findD s.cases id) rfl (by omega) lp (by decide) fun p hp1=> ?_
  simp only [go_sem];refine hp1.field (f:=0) (off:=0) (t:=9) rfl E5 fun p2 hp2=> ?_
  have hld:=fun a b=>(hp2.sub (hs a b)).part (U:=U) (ty:=9) E5 (by rw [ex,HD]; exact Uf rfl)
  simp only [go_sem,hld,ex];exact .mk _ (.refl _) (hs _ _) ⟨by rw [EZ hf]; rfl,rfl⟩
 ·have e1:ixD (fun c=>geB c.id id) s.cases= -1:=by rw [ixD]; exact if_neg hf
  have e2:findD s.cases id=s.cases.length:=by
   have:findD s.cases id≤s.cases.length:=List.findIdx_le_length;omega
  have d1:decide ((-1:Int)<0)=true:=rfl;rw [e1];simp only [go_sem,aj,n21.symm,d1];simp only [go_sem,hc.len];exact .mk _ (.refl _) (hs _ _) ⟨by rw [E0 hf,e2,hn]; rfl,rfl⟩
theorem Dv:(U 71).sz=2:=by simp only [go_sem]
theorem Ep (y:AV) (ds:List gj) (r:gj) (h:Heap) (hb:Rd h 2 y (ds.map dD)) (hl:ds.length≤1000000000):
  ak Tryz.prog 123 [y,dD r] h fun x h' =>x= .v (.int .i64 (ixD (nv r) ds))∧h' =h:=by
 refine ak.body hU hm Tryz.func123 rfl (by kernel_rfl) 19 rfl [.tmp 4] rfl (Uf rfl) (fun hwf=> ?_)
 simp only [go_sem,dD];intro i1 h1;have hs:∀a,Ab.Sub h (upd h i1 a):=fun a=>(Sub.refl h).put h1 a
 simp only [go_sem,hb.len,Ug];refine .intro (fun m ρ h' =>h' =upd h i1 (some (.obj [.s r.subj, .s r.role] 71))∧∃i:Nat,i≤ds.length∧m=ds.length - i∧(∀j (hj:j<i) (h2:j<ds.length),nv r ds[j]=false)∧lk ρ 0=some y∧lk ρ 3=some (.ptr i1 0)∧lk ρ 7=some (.v (.int .i64 ds.length))∧lk ρ 8=some (.v (.int .i64 i))) ds.length ?_ ?_
 ·refine ⟨rfl,0,by omega,rfl,fun j hj=>(by omega), ?_, ?_, ?_, ?_⟩<;>simp only [go_sem]
 ·rintro m ρ h' ⟨rfl,i,hi,rfl,hc,r0,r3,r7,r8⟩
  simp only [go_sem,r7,r8];refine .intro (fun e=> ?_) (fun e=> ?_)
  ·have hlt:i<ds.length:=Un e
   have w1:=Um i (by omega)
   simp only [go_sem,r0,r3,r8];refine ⟨.of (by kernel_rfl), ?_⟩
   refine hb.idx (e:=71) i rfl (by simpa using hlt) Dv (by decide) fun p hp1=> ?_
   have hld:=fun a=>(hp1.sub (hs a)).all (U:=U) (ty:=71) (by simp only [go_sem]) (by rw [Dv,Uh]; rfl) (by simp only [go_sem]; rw [Uh]; rfl)
   cases d1:nv r ds[i]
   ·have d2:=d1
    simp only [nv] at d2;simp only [go_sem,r8,hld,Uh,dD,d2,w1];refine ⟨_, ?_,rfl,i+1,by omega,rfl,fun j hj h2=> ?_, ?_, ?_, ?_, ?_⟩
    ·omega
    ·by_cases hji:j=i
     ·subst hji; exact d1
     ·exact hc j (by omega) h2
    all_goals simp only [go_sem,r0,r3,r7]
   ·have d2:=d1
    simp only [nv] at d2;simp only [go_sem,hld,Uh,dD,d2];exact .mk _ (.refl _) (hs _) ⟨by rw [lD hlt d1 fun j hj=>hc j hj (by omega)]; rfl,rfl⟩
  ·have hge:i=ds.length:=by have:=Uj e; omega
   simp only [go_sem];exact .mk _ (.refl _) (hs _) ⟨by rw [gX fun j hj=>hc j (by omega) hj]; rfl,rfl⟩
theorem BS (y:AV) (ds:List gj) (r:gj) (h:Heap) (hb:Rd h 2 y (ds.map dD)) (hl:ds.length≤1000000000):
  ak Tryz.prog 79 [y,dD r] h fun x h' =>x= .v (.bool (uG ds r))∧h' =h:=by
 have hq:=fun H (hH:Ab.Sub h H)=>Ep y ds r H (hb.sub hH) hl
 simp only [dD] at hq;refine ak.body hU hm Tryz.func79 rfl (by kernel_rfl) 9 rfl [.tmp 4] rfl (Uf rfl) (fun hwf=> ?_)
 simp only [go_sem,dD];intro i1 h1;simp only [go_sem];refine (hq _ (.ai h1)).pthen ?_;simp only [go_sem];refine .mk _ (.refl _) (.ai h1) ⟨?_,rfl⟩;simp only [au]
 congr 2
 unfold uG ixD;split
 ·rename_i hlt
  rw [decide_eq_true (by omega)]
  exact (List.any_eq_true.2 ⟨_,Ul hlt,List.findIdx_getElem (w:=hlt)⟩).symm
 ·rename_i hge
  rw [decide_eq_false (by omega)]
  refine (List.any_eq_false.2 fun x hx=> ?_).symm
  have e:ds.findIdx (nv r)=ds.length:=by
   have:ds.findIdx (nv r)≤ds.length:=List.findIdx_le_length;omega
  have:=List.findIdx_eq_length.1 e x hx;rw [this]; simp
theorem BT {h:Heap} {x:AV} {s:an} (hb:RdS h x s) (subj role:Txt) (hl:s.roles.length≤1000000000):ak Tryz.prog 31 [x, .s subj, .s role] h fun r h' =>r= .v (.bool (uG s.roles ⟨subj,role⟩))∧h' =h:=by
 obtain ⟨y1,y2,y3,y4,rfl,hc,h2,h3,h4⟩:=hb;have hq:=fun H (hH:Ab.Sub h H)=>BS y4 s.roles ⟨subj,role⟩ H (h4.sub hH) hl
 simp only [dD] at hq;cases hp:s.policy with
 |mk pid pset palg ptgt prules pkids pobls=>
 refine ak.body hU hm Tryz.func31 rfl (by kernel_rfl) 13 rfl [.tmp 6] rfl (Uf rfl) (fun hwf=> ?_)
 simp only [go_sem,fl,List.cons_append,List.nil_append];intro i1 h1;simp only [go_sem];refine (hq _ (.ai h1)).pthen ?_;simp only [go_sem];exact .mk _ (.refl _) (.ai h1) ⟨rfl,rfl⟩
theorem DW {h:Heap} (f:cL) {k:Nat} {name:Txt} (hk:h k=some (.obj [.s name] 9)):ak Tryz.prog 78 [bE f, .ptr k 0] h fun r h' =>r= .v (.bool (f.name==name))∧h' =h:=by
 refine ak.body hU hm Tryz.func78 rfl (by kernel_rfl) 8 rfl [.tmp 3] rfl (Uf rfl) (fun hwf=> ?_)
 simp only [go_sem,bE];intro i1 h1;have n1:k≠i1:=fun e=>by subst e; rw [hk] at h1; cases h1
 simp only [go_sem,aj,n1,hk];exact .mk _ (.refl _) (.ai h1) ⟨rfl,rfl⟩
theorem DX {fs:List cL} {name:Txt} (h:fs.findIdx (fun f=>f.name==name)<fs.length):dQ fs name=fs[fs.findIdx fun f=>f.name==name].val:=by
 unfold dQ;rw [show fs.find? (fun f=>f.name==name)=some fs[fs.findIdx fun f=>f.name==name] from List.find?_eq_some_iff_getElem.2 ⟨List.findIdx_getElem (w:=h),_,h,rfl,fun j hj=>by simpa using List.not_of_lt_findIdx hj⟩]
theorem DY {fs:List cL} {name:Txt} (h:¬fs.findIdx (fun f=>f.name==name)<fs.length):dQ fs name=az:=by
 unfold dQ;have e:fs.findIdx (fun f=>f.name==name)=fs.length:=by
  have:fs.findIdx (fun f=>f.name==name)≤fs.length:=List.findIdx_le_length
  omega
 rw [List.find?_eq_none.2 fun x hx=>by simpa using List.findIdx_eq_length.1 e x hx]
theorem zF {h:Heap} {x:AV} {c:aK} (hb:RdC h x c) (name:Txt) (hl:c.fields.length≤1000000000):ak Tryz.prog 29 [x, .s name] h fun r h' =>r=aS (dQ c.fields name)∧h' =h:=by
 obtain ⟨f,l,rfl,hf,hlg⟩:=hb;refine ak.body hU hm Tryz.func29 rfl (by kernel_rfl) 19 rfl [.cell 4 42] rfl (Uf rfl) (fun hwf=> ?_)
 simp only [go_sem];intro i1 h1;simp only [go_sem];intro i2 h2;have n21:=aH h2;have n2:=aE h2;simp only [go_sem];intro i3 h3;have n32:=aH h3;have h3' :=aE h3;have n31:=aH h3';have n3:=aE h3';have hs:∀a b d,Ab.Sub h (upd (upd (upd h i1 a) i2 b) i3 d):=fun a b d=>(((Sub.refl h).put h1 a).put n2 b).put n3 d
 simp only [go_sem,aj,n21.symm,n31.symm];refine (uN f _ c.fields (fun f=>f.name==name) _ [.ptr i2 0] _ (hf.sub (hs _ _ _)) (by simp) (by simpa using hl) (lY (fun _=>rfl) _) fun i a b=>by
  rw [Uh]; exact DW _ (by simp only [aj,n32.symm,fC,not_false_eq_true])).pthen ?_
 by_cases hx:c.fields.findIdx (fun f=>f.name==name)<c.fields.length
 ·have e1:ixD (fun f=>f.name==name) c.fields=(c.fields.findIdx (fun f=>f.name==name):Nat):=by rw [ixD]; exact if_pos hx
  have d1:decide ((0:Int)≤((c.fields.findIdx (fun f=>f.name==name):Nat):Int))=true:=decide_eq_true (by omega)
  rw [e1];simp only [go_sem,aj,n21.symm,n31.symm,d1];refine hf.idx (e:=131) (c.fields.findIdx fun f=>f.name==name) rfl (by simpa using hx) Cz (by decide) fun p hp1=> ?_
  simp only [go_sem];refine hp1.field (f:=1) (off:=1) (t:=42) rfl (by simp only [go_sem]) fun p2 hp2=> ?_
  have hld:=fun a b d=>(hp2.sub (hs a b d)).part (U:=U) (ty:=42) (by simp only [go_sem]) (by rw [Uh,show (U 42).sz=3 by simp only [go_sem]]; exact Uf rfl)
  simp only [go_sem,hld,Uh,bE];exact .mk _ (.refl _) (by repeat' first|exact .refl _|(refine Sub.put ?_ (by assumption) _)) ⟨by rw [DX hx]; rfl,rfl⟩
 ·have e1:ixD (fun f=>f.name==name) c.fields= -1:=by rw [ixD]; exact if_neg hx
  have d1:decide ((0:Int)≤ -1)=false:=rfl;rw [e1];simp only [go_sem,d1];exact .mk _ (.refl _) (by repeat' first|exact .refl _|(refine Sub.put ?_ (by assumption) _)) ⟨by rw [DY hx]; rfl,rfl⟩
end Go.Proofs.YtmlhcdeamjkpjaaGreatDoor
namespace Go.Ab
open Go
mutual
def ct:AV→Bool
 | .v _=>true
 | .s _=>true
 | .agg xs=>gh xs
 | .tup xs=>gh xs
 | .sl xs (.own _)=>false
 | .sl xs _=>gh xs
 | .pe x _=>ct x
 | .ifc _ x=>ct x
 |_=>false
def gh:List AV→Bool
 | []=>true
 |x::r=>ct x && gh r
end
mutual
theorem qN {F:Nat→Prop}:∀x:AV,ct x=true→Av F x
 | .v x,_=> .v x
 | .s l,_=> .s l
 | .agg xs,h=> .agg xs (nY xs (by simpa [ct] using h))
 | .tup xs,h=> .tup xs (nY xs (by simpa [ct] using h))
 | .sl xs .no,h=> .sl xs .no (nY xs (by simpa [ct] using h)) fun _ e=>by cases e
 | .sl xs .full,h=> .sl xs .full (nY xs (by simpa [ct] using h)) fun _ e=>by cases e
 | .sl xs (.own _),h=>by simp [ct] at h
 | .pe x o,h=> .pe x o (qN x (by simpa [ct] using h))
 | .ptr i o,h=>by simp [ct] at h
 | .oa i o l,h=>by simp [ct] at h
 | .ifc t x,h=> .ifc t x (qN x (by simpa [ct] using h))
 | .fn f c,h=>by simp [ct] at h
 | .mp i,h=>by simp [ct] at h
 | .ob i o l c z,h=>by simp [ct] at h
theorem nY {F:Nat→Prop}:∀xs:List AV,gh xs=true→∀x∈xs,Av F x
 | [],_,x,hx=>by cases hx
 |y::r,h,x,hx=>by
  simp only [gh,Bool.and_eq_true] at h;rcases List.mem_cons.1 hx with e|e
  ·rw [e]; exact qN y h.1
  ·exact nY r h.2 x e
end
theorem bg {α:Type} {f:α→AV} (hf:∀a,ct (f a)=true):∀l:List α,gh (l.map f)=true
 | []=>rfl
 |a::r=>by simp [gh,hf a,bg hf r]
theorem xD {xs:List AV} (h:gh xs=true):∀x∈xs,ct x=true:=by
 induction xs with
 |nil=>intro x hx; cases hx
 |cons y r ih=>
  simp only [gh,Bool.and_eq_true] at h;intro x hx;rcases List.mem_cons.1 hx with e|e
  ·rw [e]; exact h.1
  ·exact ih h.2 x e
theorem kY {x:AV} (h:ct x=true):∀c∈x.cells,ct c=true:=by
 cases x with
 |agg cs=>exact xD (show gh cs=true by simpa [ct] using h)
 |_=>intro c hc; rw [List.mem_singleton.1 hc]; exact h
theorem Frz.pure {g h:Heap} {x:AV} (hx:ct x=true):Frz g h x x:= .keep x (qN x hx)
theorem Ow.frz {g h:Heap} {tb:TypeId} {sz id:Nat} {y:AV} {xs ys:List AV} (hw:Ow tb h sz id y xs) (hg:g id=Option.none) (hn:xs.length=ys.length) (hz:∀i (h1:i<xs.length) (h2:i<ys.length),xs[i].cells.length=ys[i].cells.length)
  (hr:∀i (h1:i<xs.length) (h2:i<ys.length) j (h3:j<xs[i].cells.length) (h4:j<ys[i].cells.length),Frz g h xs[i].cells[j] ys[i].cells[j]):Frz g h y (.sl ys .no):=by
 obtain ⟨cap,rest,rfl,h1,h2,h3,h4⟩:=hw;have hl:=aU h4;refine .ob id 0 _ cap sz _ tb ys hg h1 (by rw [Uk]; omega) hn.symm (fun i hi=>by rw [←hz i (by omega) hi]; exact h4 _ (Ul _)) fun i hi j hj hb=> ?_
 have hj' :j<sz:=by rw [←h4 xs[i] (Ul _),hz i (by omega) hi]; exact hj
 have hbd:i*sz+j<xs.length*sz:=by
  have:(i+1)*sz≤xs.length*sz:=Nat.mul_le_mul_right _ (by omega)
  rw [Nat.add_mul,Nat.one_mul] at this;omega
 have hjx:j<xs[i].cells.length:=by rw [hz i (by omega) hi]; exact hj
 have e:(aq xs++rest)[0+(i*sz+j)]? =some (xs[i].cells[j]):=by
  rw [Nat.zero_add,List.getElem?_append_left (by omega),ry h4 (by omega) hj',List.getElem?_eq_getElem hjx]
 rw [List.getElem?_eq_getElem hb,Option.some.injEq] at e;rw [e];exact hr i (by omega) hi j hjx hj
theorem OwE.frz {g h:Heap} {tb:TypeId} {sz:Nat} {y:AV} {xs:List AV} (hw:OwE tb g h sz y xs) (hp:gh xs=true):Frz g h y (.sl xs .no):=by
 rcases hw with ⟨rfl,rfl⟩|⟨id,hg,hw⟩
 ·exact .sl [] [] .full rfl (fun i h1=>by cases h1) (fun i h1=>by cases h1)
 ·exact hw.frz hg rfl (fun _ _ _=>rfl) fun i h1 h2 j h3 h4=> .pure (kY (xD hp _ (Ul h1)) _ (Ul h3))
theorem OwE.jS {U:TypeId→TI} {h:Heap} {sz:Nat} {tb:TypeId} {xs:List AV} {Q:AV→Heap→Prop} (hz:(U tb).sz=sz) (hf:Ab.fit (U tb).zero sz) (hb:Sized sz xs) (hk:∀y' h',OwE tb h h' sz y' xs→Sub h h'→Q y' h'):o7 U h [] xs tb Q:=by
 subst hz;refine ⟨fun hn=> ?_,fun hn=> ?_⟩
 ·subst hn
  exact hk _ _ (.inl ⟨rfl,rfl⟩) (.refl _)
 ·refine .ob hf (jc.ow hb (by simp [aq]) (by simp) fun id y' h' hid hw ho=> ?_)
  exact hk _ _ (.inr ⟨id,hid,hw⟩) fun j b hj=>by rw [ho j (fun e=>by subst e; rw [hid] at hj; cases hj)]; exact hj
theorem Rd.nil {h:Heap} {sz:Nat} {y:AV} {xs:List AV} {e:TypeId} {Q:AV→Heap→Prop} (hb:Rd h sz y xs) (hk:∀b:Bool,(xs≠ []→b=false)→Q (.v (.bool b)) h):NS h .eql y Q (.slice e):=by
 obtain ⟨_,⟨q,rfl⟩|⟨id,off,cap,cs,t,rfl,_⟩⟩:=hb
 ·exact hk
 ·exact hk false fun _=>rfl
def nid:AV→Option Nat
 | .ob id _ _ _ _=>some id
 |_=>none
theorem OwE.nid {tb:TypeId} {h0 h:Heap} {sz:Nat} {y:AV} {xs:List AV} (hw:OwE tb h0 h sz y xs) {id:Nat} (e:Ab.nid y=some id):h0 id=Option.none∧h id≠Option.none∧Ow tb h sz id y xs:=by
 rcases hw with ⟨rfl,rfl⟩|⟨id',h1,hw⟩
 ·cases e
 ·obtain ⟨cap,rest,rfl,h2,h3⟩:=hw
  cases e;exact ⟨h1,by rw [h2]; simp,cap,rest,rfl,h2,h3⟩
theorem Ow.nid {tb:TypeId} {h:Heap} {sz id:Nat} {y:AV} {xs:List AV} (hw:Ow tb h sz id y xs):Ab.nid y=some id:=by
 obtain ⟨cap,rest,rfl,h2,h3⟩:=hw;rfl
theorem OwE.keep {tb:TypeId} {h0 h h' :Heap} {sz:Nat} {y:AV} {xs:List AV} (hw:OwE tb h0 h sz y xs) (hs:∀id,Ab.nid y=some id→h' id=h id):OwE tb h0 h' sz y xs:=by
 rcases hw with hw|⟨id,h1,hw⟩
 ·exact .inl hw
 ·exact .inr ⟨id,h1,hw.same (hs id hw.nid)⟩
theorem OwE.less {tb:TypeId} {h0 h1 h:Heap} {sz:Nat} {y:AV} {xs:List AV} (hw:OwE tb h1 h sz y xs) (hs:Sub h0 h1):OwE tb h0 h sz y xs:=by
 rcases hw with hw|⟨id,a,hw⟩
 ·exact .inl hw
 ·exact .inr ⟨id,hs.none a,hw⟩
end Go.Ab
namespace Go.Proofs.YtmlhcdeamjkpjaaGreatDoor
open Go Go.Ab Go.Bf
theorem wR (y:AV) (xs:List AV) (h:Heap) (hb:Rd h 5 y xs) (hl:xs.length≤1000000):ak Tryz.prog 124 [y] h fun r h' =>OwE 57 h h' 5 r xs∧Ab.Sub h h' :=by
 refine ak.body hU hm Tryz.func124 rfl (by kernel_rfl) 8 rfl [.tmp 2] rfl (Uf rfl) (fun hwf=> ?_)
 simp only [go_sem];refine hb.nil fun b hxs=> ?_
 cases b
 ·simp only [go_sem]
  refine hb.src (U:=U) (e:=57) (by simp only [go_sem]) ⟨hb.1,by omega,OwE.jS (U:=U) (sz:=5) (by simp only [go_sem]) (by simp only [go_sem]) hb.1 fun y' h' hw hs=> ?_⟩
  simp only [go_sem];exact .same (.refl _) ⟨hw,hs⟩
 ·have hx:xs= []:=by
   by_cases hx:xs= []
   ·exact hx
   ·cases hxs hx
  simp only [go_sem];exact .same (.refl _) ⟨.inl ⟨hx,rfl⟩, .refl _⟩
theorem sv (y:AV) (xs:List AV) (h:Heap) (hb:Rd h 7 y xs) (hl:xs.length≤1000000):ak Tryz.prog 125 [y] h fun r h' =>OwE 82 h h' 7 r xs∧Ab.Sub h h' :=by
 refine ak.body hU hm Tryz.func125 rfl (by kernel_rfl) 8 rfl [.tmp 2] rfl (Uf rfl) (fun hwf=> ?_)
 simp only [go_sem];refine hb.nil fun b hxs=> ?_
 cases b
 ·simp only [go_sem]
  refine hb.src (U:=U) (e:=82) (by simp only [go_sem]) ⟨hb.1,by omega,OwE.jS (U:=U) (sz:=7) (by simp only [go_sem]) (by simp only [go_sem]) hb.1 fun y' h' hw hs=> ?_⟩
  simp only [go_sem];exact .same (.refl _) ⟨hw,hs⟩
 ·have hx:xs= []:=by
   by_cases hx:xs= []
   ·exact hx
   ·cases hxs hx
  simp only [go_sem];exact .same (.refl _) ⟨.inl ⟨hx,rfl⟩, .refl _⟩
theorem su (y:AV) (xs:List AV) (h:Heap) (hb:Rd h 3 y xs) (hl:xs.length≤1000000):ak Tryz.prog 126 [y] h fun r h' =>OwE 98 h h' 3 r xs∧Ab.Sub h h' :=by
 refine ak.body hU hm Tryz.func126 rfl (by kernel_rfl) 8 rfl [.tmp 2] rfl (Uf rfl) (fun hwf=> ?_)
 simp only [go_sem];refine hb.nil fun b hxs=> ?_
 cases b
 ·simp only [go_sem]
  refine hb.src (U:=U) (e:=98) (by simp only [go_sem]) ⟨hb.1,by omega,OwE.jS (U:=U) (sz:=3) (by simp only [go_sem]) (by simp only [go_sem]) hb.1 fun y' h' hw hs=> ?_⟩
  simp only [go_sem];exact .same (.refl _) ⟨hw,hs⟩
 ·have hx:xs= []:=by
   by_cases hx:xs= []
   ·exact hx
   ·cases hxs hx
  simp only [go_sem];exact .same (.refl _) ⟨.inl ⟨hx,rfl⟩, .refl _⟩
theorem DM (y:AV) (xs:List AV) (h:Heap) (hb:Rd h 2 y xs) (hl:xs.length≤1000000):ak Tryz.prog 127 [y] h fun r h' =>OwE 71 h h' 2 r xs∧Ab.Sub h h' :=by
 refine ak.body hU hm Tryz.func127 rfl (by kernel_rfl) 8 rfl [.tmp 2] rfl (Uf rfl) (fun hwf=> ?_)
 simp only [go_sem];refine hb.nil fun b hxs=> ?_
 cases b
 ·simp only [go_sem]
  refine hb.src (U:=U) (e:=71) (by simp only [go_sem]) ⟨hb.1,by omega,OwE.jS (U:=U) (sz:=2) (by simp only [go_sem]) (by simp only [go_sem]) hb.1 fun y' h' hw hs=> ?_⟩
  simp only [go_sem];exact .same (.refl _) ⟨hw,hs⟩
 ·have hx:xs= []:=by
   by_cases hx:xs= []
   ·exact hx
   ·cases hxs hx
  simp only [go_sem];exact .same (.refl _) ⟨.inl ⟨hx,rfl⟩, .refl _⟩
theorem Bp (y:AV) (xs:List AV) (h:Heap) (hb:Rd h 4 y xs) (hl:xs.length≤1000000):ak Tryz.prog 121 [y] h fun r h' =>OwE 131 h h' 4 r xs∧Ab.Sub h h' :=by
 refine ak.body hU hm Tryz.func121 rfl (by kernel_rfl) 8 rfl [.tmp 2] rfl (Uf rfl) (fun hwf=> ?_)
 simp only [go_sem];refine hb.nil fun b hxs=> ?_
 cases b
 ·simp only [go_sem]
  refine hb.src (U:=U) (e:=131) (by simp only [go_sem]) ⟨hb.1,by omega,OwE.jS (U:=U) (sz:=4) (by simp only [go_sem]) (by simp only [go_sem]) hb.1 fun y' h' hw hs=> ?_⟩
  simp only [go_sem];exact .same (.refl _) ⟨hw,hs⟩
 ·have hx:xs= []:=by
   by_cases hx:xs= []
   ·exact hx
   ·cases hxs hx
  simp only [go_sem];exact .same (.refl _) ⟨.inl ⟨hx,rfl⟩, .refl _⟩
theorem ni (y:AV) (xs:List AV) (h:Heap) (hb:Rd h 3 y xs) (hl:xs.length≤1000000):ak Tryz.prog 122 [y] h fun r h' =>OwE 96 h h' 3 r xs∧Ab.Sub h h' :=by
 refine ak.body hU hm Tryz.func122 rfl (by kernel_rfl) 8 rfl [.tmp 2] rfl (Uf rfl) (fun hwf=> ?_)
 simp only [go_sem];refine hb.nil fun b hxs=> ?_
 cases b
 ·simp only [go_sem]
  refine hb.src (U:=U) (e:=96) (by simp only [go_sem]) ⟨hb.1,by omega,OwE.jS (U:=U) (sz:=3) (by simp only [go_sem]) (by simp only [go_sem]) hb.1 fun y' h' hw hs=> ?_⟩
  simp only [go_sem];exact .same (.refl _) ⟨hw,hs⟩
 ·have hx:xs= []:=by
   by_cases hx:xs= []
   ·exact hx
   ·cases hxs hx
  simp only [go_sem];exact .same (.refl _) ⟨.inl ⟨hx,rfl⟩, .refl _⟩
theorem tC (y:AV) (xs:List AV) (h:Heap) (hb:Rd h 3 y xs) (hl:xs.length≤1000000) (hp:gh xs=true):ak Tryz.prog 122 [y] h fun r h' =>r= .sl xs .no∧h' =h:=
 ak.freeze fun g hg _=>(ni y xs g (hb.sub hg) hl).mono fun r h' ⟨h1,h2⟩=>⟨h2,_,h1.frz hp,rfl⟩
theorem FK (y:AV) (xs:List AV) (h:Heap) (hb:Rd h 3 y xs) (hl:xs.length≤1000000):ak Tryz.prog 176 [y] h fun r h' =>OwE 90 h h' 3 r xs∧Ab.Sub h h' :=by
 refine ak.body hU hm Tryz.func176 rfl (by kernel_rfl) 8 rfl [.tmp 2] rfl (Uf rfl) (fun hwf=> ?_)
 simp only [go_sem];refine hb.nil fun b hxs=> ?_
 cases b
 ·simp only [go_sem]
  refine hb.src (U:=U) (e:=90) (by simp only [go_sem]) ⟨hb.1,by omega,OwE.jS (U:=U) (sz:=3) (by simp only [go_sem]) (by simp only [go_sem]) hb.1 fun y' h' hw hs=> ?_⟩
  simp only [go_sem];exact .same (.refl _) ⟨hw,hs⟩
 ·have hx:xs= []:=by
   by_cases hx:xs= []
   ·exact hx
   ·cases hxs hx
  simp only [go_sem];exact .same (.refl _) ⟨.inl ⟨hx,rfl⟩, .refl _⟩
theorem wS (y:AV) (xs:List AV) (h:Heap) (hb:Rd h 3 y xs) (hl:xs.length≤1000000) (hp:gh xs=true):ak Tryz.prog 176 [y] h fun r h' =>r= .sl xs .no∧h' =h:=
 ak.freeze fun g hg _=>(FK y xs g (hb.sub hg) hl).mono fun r h' ⟨h1,h2⟩=>⟨h2,_,h1.frz hp,rfl⟩
theorem DN (y:AV) (xs:List AV) (h:Heap) (hb:Rd h 5 y xs) (hl:xs.length≤1000000):ak Tryz.prog 177 [y] h fun r h' =>OwE 181 h h' 5 r xs∧Ab.Sub h h' :=by
 refine ak.body hU hm Tryz.func177 rfl (by kernel_rfl) 8 rfl [.tmp 2] rfl (Uf rfl) (fun hwf=> ?_)
 simp only [go_sem];refine hb.nil fun b hxs=> ?_
 cases b
 ·simp only [go_sem]
  refine hb.src (U:=U) (e:=181) (by simp only [go_sem]) ⟨hb.1,by omega,OwE.jS (U:=U) (sz:=5) (by simp only [go_sem]) (by simp only [go_sem]) hb.1 fun y' h' hw hs=> ?_⟩
  simp only [go_sem];exact .same (.refl _) ⟨hw,hs⟩
 ·have hx:xs= []:=by
   by_cases hx:xs= []
   ·exact hx
   ·cases hxs hx
  simp only [go_sem];exact .same (.refl _) ⟨.inl ⟨hx,rfl⟩, .refl _⟩
theorem zl (y:AV) (xs:List AV) (h:Heap) (hb:Rd h 7 y xs) (hl:xs.length≤1000000):ak Tryz.prog 178 [y] h fun r h' =>OwE 34 h h' 7 r xs∧Ab.Sub h h' :=by
 refine ak.body hU hm Tryz.func178 rfl (by kernel_rfl) 8 rfl [.tmp 2] rfl (Uf rfl) (fun hwf=> ?_)
 simp only [go_sem];refine hb.nil fun b hxs=> ?_
 cases b
 ·simp only [go_sem]
  refine hb.src (U:=U) (e:=34) (by simp only [go_sem]) ⟨hb.1,by omega,OwE.jS (U:=U) (sz:=7) (by simp only [go_sem]) (by simp only [go_sem]) hb.1 fun y' h' hw hs=> ?_⟩
  simp only [go_sem];exact .same (.refl _) ⟨hw,hs⟩
 ·have hx:xs= []:=by
   by_cases hx:xs= []
   ·exact hx
   ·cases hxs hx
  simp only [go_sem];exact .same (.refl _) ⟨.inl ⟨hx,rfl⟩, .refl _⟩
theorem DL (y:AV) (xs:List AV) (h:Heap) (hb:Rd h 7 y xs) (hl:xs.length≤1000000):ak Tryz.prog 179 [y] h fun r h' =>OwE 186 h h' 7 r xs∧Ab.Sub h h' :=by
 refine ak.body hU hm Tryz.func179 rfl (by kernel_rfl) 8 rfl [.tmp 2] rfl (Uf rfl) (fun hwf=> ?_)
 simp only [go_sem];refine hb.nil fun b hxs=> ?_
 cases b
 ·simp only [go_sem]
  refine hb.src (U:=U) (e:=186) (by simp only [go_sem]) ⟨hb.1,by omega,OwE.jS (U:=U) (sz:=7) (by simp only [go_sem]) (by simp only [go_sem]) hb.1 fun y' h' hw hs=> ?_⟩
  simp only [go_sem];exact .same (.refl _) ⟨hw,hs⟩
 ·have hx:xs= []:=by
   by_cases hx:xs= []
   ·exact hx
   ·cases hxs hx
  simp only [go_sem];exact .same (.refl _) ⟨.inl ⟨hx,rfl⟩, .refl _⟩
theorem Bt (y:AV) (xs:List AV) (h:Heap) (hb:Rd h 7 y xs) (hl:xs.length≤1000000) (hp:gh xs=true):ak Tryz.prog 179 [y] h fun r h' =>r= .sl xs .no∧h' =h:=
 ak.freeze fun g hg _=>(DL y xs g (hb.sub hg) hl).mono fun r h' ⟨h1,h2⟩=>⟨h2,_,h1.frz hp,rfl⟩
theorem Bq (y:AV) (xs:List AV) (h:Heap) (hb:Rd h 7 y xs) (hl:xs.length≤1000000):ak Tryz.prog 224 [y] h fun r h' =>OwE 246 h h' 7 r xs∧Ab.Sub h h' :=by
 refine ak.body hU hm Tryz.func224 rfl (by kernel_rfl) 8 rfl [.tmp 2] rfl (Uf rfl) (fun hwf=> ?_)
 simp only [go_sem];refine hb.nil fun b hxs=> ?_
 cases b
 ·simp only [go_sem]
  refine hb.src (U:=U) (e:=246) (by simp only [go_sem]) ⟨hb.1,by omega,OwE.jS (U:=U) (sz:=7) (by simp only [go_sem]) (by simp only [go_sem]) hb.1 fun y' h' hw hs=> ?_⟩
  simp only [go_sem];exact .same (.refl _) ⟨hw,hs⟩
 ·have hx:xs= []:=by
   by_cases hx:xs= []
   ·exact hx
   ·cases hxs hx
  simp only [go_sem];exact .same (.refl _) ⟨.inl ⟨hx,rfl⟩, .refl _⟩
theorem zn (y:AV) (xs:List AV) (h:Heap) (hb:Rd h 7 y xs) (hl:xs.length≤1000000) (hp:gh xs=true):ak Tryz.prog 224 [y] h fun r h' =>r= .sl xs .no∧h' =h:=
 ak.freeze fun g hg _=>(Bq y xs g (hb.sub hg) hl).mono fun r h' ⟨h1,h2⟩=>⟨h2,_,h1.frz hp,rfl⟩
theorem Bs (y:AV) (xs:List AV) (h:Heap) (hb:Rd h 3 y xs) (hl:xs.length≤1000000):ak Tryz.prog 278 [y] h fun r h' =>OwE 42 h h' 3 r xs∧Ab.Sub h h' :=by
 refine ak.body hU hm Tryz.func278 rfl (by kernel_rfl) 8 rfl [.tmp 2] rfl (Uf rfl) (fun hwf=> ?_)
 simp only [go_sem];refine hb.nil fun b hxs=> ?_
 cases b
 ·simp only [go_sem]
  refine hb.src (U:=U) (e:=42) (by simp only [go_sem]) ⟨hb.1,by omega,OwE.jS (U:=U) (sz:=3) (by simp only [go_sem]) (by simp only [go_sem]) hb.1 fun y' h' hw hs=> ?_⟩
  simp only [go_sem];exact .same (.refl _) ⟨hw,hs⟩
 ·have hx:xs= []:=by
   by_cases hx:xs= []
   ·exact hx
   ·cases hxs hx
  simp only [go_sem];exact .same (.refl _) ⟨.inl ⟨hx,rfl⟩, .refl _⟩
theorem zo (y:AV) (xs:List AV) (h:Heap) (hb:Rd h 3 y xs) (hl:xs.length≤1000000) (hp:gh xs=true):ak Tryz.prog 278 [y] h fun r h' =>r= .sl xs .no∧h' =h:=
 ak.freeze fun g hg _=>(Bs y xs g (hb.sub hg) hl).mono fun r h' ⟨h1,h2⟩=>⟨h2,_,h1.frz hp,rfl⟩
def J5 (h0 h:Heap) (x:AV) (c:aK):Prop:=∃f l,x= .agg [.s c.id, .s c.owner, .s c.state,f,l]∧OwE 131 h0 h 4 f (c.fields.map bE)∧OwE 96 h0 h 3 l (c.log.map gG)∧∀i,nid f=some i→nid l≠some i
theorem cA {h:Heap} {i j:Nat} {b:Blk} (h1:h i=none) (h2:h j=some b):i≠j:=fun e=>by subst e; rw [h2] at h1; cases h1
theorem vi {h:Heap} {x:AV} {c:aK} (hb:RdC h x c) (hl:c.fields.length≤1000000) (hl2:c.log.length≤1000000):ak Tryz.prog 74 [x] h fun r h' =>J5 h h' r c∧Ab.Sub h h' :=by
 obtain ⟨f,l,rfl,hf,hlg⟩:=hb;refine ak.body hU hm Tryz.func74 rfl (by kernel_rfl) 12 rfl [.cell 2 57] rfl (Uf rfl) (fun hwf=> ?_)
 simp only [go_sem];intro i1 h1;simp only [go_sem];intro i2 h2;have n21:=aH h2;have n2:=aE h2;simp only [go_sem];obtain ⟨H,eH⟩:∃H,upd (upd h i1 (some (.obj [.s c.id, .s c.owner, .s c.state,f,l] 57))) i2 (some (.obj [.s [], .s [], .s [], .sl [] .full, .sl [] .full] 57))=H:=⟨_,rfl⟩;have hH:Ab.Sub h H:=by rw [←eH]; exact ((Sub.refl h).put h1 _).put n2 _
 have g1:H i1=some (.obj [.s c.id, .s c.owner, .s c.state,f,l] 57):=by rw [←eH,ag _ _ n21.symm,ah]
 have g2:H i2=some (.obj [.s [], .s [], .s [], .sl [] .full, .sl [] .full] 57):=by rw [←eH,ah]
 rw [eH];refine .stage (hm1 i1 _) [0,1,3,4,2,6,5] [7,8,9] (.hm1 g1) (by kernel_rfl) ?_
 simp only [go_sem,fz];refine (Bp f _ H (hf.sub hH) (by simpa using hl)).mono fun f' H1 ⟨hf',s1⟩=> ?_
 refine ⟨.hm1 (s1 _ _ g1), ?_⟩;simp only [go_sem];refine (ni l _ H1 ((hlg.sub hH).sub s1) (by simpa using hl2)).mono fun l' H2 ⟨hl',s2⟩=> ?_
 refine ⟨.hm1 (s2 _ _ (s1 _ _ g1)),cW,(fun _ _ e=>by cases e), ?_⟩
 have g1' :=s2 _ _ (s1 _ _ g1);have g2' :=s2 _ _ (s1 _ _ g2);simp only [go_sem,g1',hf'.rd.fit,hf'.rd.cells,hl'.rd.fit,hl'.rd.cells];have n1:∀b,upd H2 i1 b i2=some (.obj [.s [], .s [], .s [], .sl [] .full, .sl [] .full] 57):=fun b=>by rw [ag _ _ n21]; exact g2'
 refine ⟨fun _ _ e=>(by cases e),fun _ _ e=>(by cases e), ?_⟩
 simp only [go_sem,n1];have hid:∀ {y:AV} {xs:List AV} {G:Heap} {tb:TypeId} {z:Nat},Ab.Sub H G→OwE tb G H2 z y xs→∀a b,OwE tb h (upd (upd H2 i1 a) i2 b) z y xs:=fun hG hw a b=>(hw.less (hH.trans hG)).keep fun id e=>by
  have h0:=hG.none (hw.nid e).1;rw [ag _ _ (cA h0 g2),ag _ _ (cA h0 g1)]
 refine .mk _ (.refl _) (.refl _) ⟨⟨f',l',rfl,hid (.refl _) (hf'.sub s2) _ _,hid s1 hl' _ _,fun i ef el=> ?_⟩,((hH.trans (s1.trans s2)).put h1 _).put n2 _⟩
 exact (hf'.nid ef).2.1 ((hl'.nid el).1)
theorem sR {h:Heap} {x:AV} {c:aK} (hb:RdC h x c) (hl:c.fields.length≤1000000) (hl2:c.log.length≤1000000):ak Tryz.prog 74 [x] h fun r h' =>r=bM c∧h' =h:=
 ak.freeze fun g hg _=>(vi (hb.sub hg) hl hl2).mono fun r h' ⟨⟨f,l,e,hf,hlg,_⟩,h2⟩=>⟨h2,bM c,by
  subst e;refine .agg _ _ rfl fun i h1 h2=> ?_
  rcases i with _|_|_|_|_|i
  ·exact .pure rfl
  ·exact .pure rfl
  ·exact .pure rfl
  ·exact hf.frz (bg (fun _=>rfl) _)
  ·exact hlg.frz (bg (fun _=>rfl) _)
  ·simp at h1; omega,rfl⟩
theorem GS (l:List bH):gh (l.map cV)=true:=bg (fun _=>rfl) l
theorem LH:(U 247).sz=1:=by simp only [go_sem]
theorem LI:(U 243).sz=1:=by simp only [go_sem]
theorem qG (t:fE) (ht:jN t=0) (h:Heap):ak Tryz.prog 175 [aR t] h fun r h' =>r=aR t∧h' =h:=by
 obtain ⟨hl,he⟩:=xO ht;refine ak.body hU hm Tryz.func175 rfl (by kernel_rfl) 33 rfl [.tmp 2] rfl (Uf rfl) (fun hwf=> ?_)
 simp only [go_sem,aR,Ug];refine .intro (fun m ρ h' =>∃(i:Nat) (y:AV) (ys:List AV),Acc U 243 h h' y ys∧ys.length=i∧(∀j (h1:j<ys.length) (h2:j<t.length),∃q,ys[j]= .sl (t[j].map gE) q)∧i≤t.length∧m=t.length - i∧lk ρ 3=some y∧lk ρ 9=some (.sl (t.map cG) .no)∧lk ρ 10=some (.v (.int .i64 t.length))∧lk ρ 11=some (.v (.int .i64 i))) t.length ?_ ?_
 ·refine ⟨0,_,[], .full (.refl _),rfl,fun j h1=>(by cases h1),by omega,rfl, ?_, ?_, ?_, ?_⟩<;>simp only [go_sem]
 ·rintro m ρ h' ⟨i,y,ys,hy,hn,hys,hi,rfl,r3,r9,r10,r11⟩
  simp only [go_sem,r10,r11];refine .intro (fun e=> ?_) (fun e=> ?_)
  ·have hlt:i<t.length:=Un e
   have w1:=Um i (by omega)
   obtain ⟨ha0,hal,hae⟩:=wQ (he _ (Ul hlt));simp only [go_sem,r9,r11];refine .at i (by simpa using hlt) (by rw [Uh]; rfl) ?_
   simp only [go_sem,Uh,cG,Ug];refine .intro (fun m ρ H=>∃(j:Nat) (z:AV) (zs:List AV),Acc U 247 h' H z zs∧zs=(t[i].take j).map gE∧j≤t[i].length∧m=t[i].length - j∧lk ρ 3=some y∧lk ρ 9=some (.sl (t.map cG) .no)∧lk ρ 10=some (.v (.int .i64 t.length))∧lk ρ 11=some (.v (.int .i64 i))∧lk ρ 6=some z∧lk ρ 15=some (.sl (t[i].map gE) .no)∧lk ρ 16=some (.v (.int .i64 t[i].length))∧lk ρ 17=some (.v (.int .i64 j))) t[i].length ?_ ?_
   ·refine ⟨0,_,[], .full (.refl _),rfl,by omega,rfl, ?_, ?_, ?_, ?_, ?_, ?_, ?_, ?_⟩<;>simp only [go_sem,r3,r9,r10,r11]
   ·rintro m ρ H ⟨j,z,zs,hz,rfl,hj,rfl,r3,r9,r10,r11,r6,r15,r16,r17⟩
    simp only [go_sem,r16,r17];refine .intro (fun e=> ?_) (fun e=> ?_)
    ·have hlt2:j<t[i].length:=Un e
     have w2:=Um j (by omega)
     have hml:=(wP (hae _ (Ul hlt2))).2.1;simp only [go_sem,r15,r17];refine .at j (by simpa using hlt2) (by rw [Uh]; rfl) ?_
     simp only [go_sem,r6,Uh,gE];refine (zn _ (t[i][j].map cV) _ (dS cV 7 (fun _=>rfl) _ _) (by simp; omega) (GS _)).pthen ?_
     simp only [go_sem];refine hz.app (zs:= [gE t[i][j]]) (by rw [LH]; decide) (by simp only [go_sem,ne_eq,not_false_eq_true]) (fun k hk=>hk) (by rw [LH]; exact bh (f:=gE) (fun _=>rfl) _) (by rw [LH]; exact bh (f:=gE) (fun _=>rfl) [t[i][j]]) (by simp only [go_sem,Ug,List.length_cons,List.length_nil,List.length_take]; omega) fun z' H' hz' _=> ?_
     simp only [go_sem,r17,w2];refine ⟨_, ?_,j+1,z',_,hz', ?_,by omega,rfl, ?_, ?_, ?_, ?_, ?_, ?_, ?_, ?_⟩
     ·omega
     ·rw [List.take_succ_eq_append_getElem hlt2,List.map_append]; rfl
     all_goals simp only [go_sem,r3,r9,r10,r11,r15,r16]
    ·have hge:j=t[i].length:=by have:=Uj e; omega
     subst hge;rw [List.take_length] at hz;have hyH:=hy.sub hz.1;obtain ⟨q,rfl⟩:=hz.row;simp only [go_sem,r3,r6];refine hyH.app (zs:= [.sl (t[i].map gE) q]) (by rw [LI]; decide) (by simp only [go_sem,ne_eq,not_false_eq_true]) (fun k hk=>hk) (by rw [LI]; intro w hw; obtain ⟨k,hk,rfl⟩:=List.mem_iff_getElem.1 hw; obtain ⟨q',e'⟩:=hys k hk (by omega); rw [e']; rfl) (by rw [LI]; intro w hw; rw [List.mem_singleton.1 hw]; rfl) (by simp only [go_sem,hn,List.length_cons,List.length_nil]; omega) fun y' H' hy' _=> ?_
     simp only [go_sem,r11,w1];refine ⟨_, ?_,i+1,y',_,hy',by simp [hn],fun k h1 h2=> ?_,by omega,rfl, ?_, ?_, ?_, ?_⟩
     ·omega
     ·by_cases hk:k<ys.length
      ·rw [List.getElem_append_left hk]; exact hys k hk h2
      ·have:k=i:=by simp at h1; omega
       subst this;exact ⟨q,by rw [List.getElem_append_right (by omega)]; simp [hn]⟩
     all_goals simp only [go_sem,r9,r10]
  ·have hge:i=t.length:=by have:=Uj e; omega
   simp only [go_sem,r3];obtain ⟨q,rfl⟩:=hy.row;refine .mk (aR t) ?_ hy.1 ⟨rfl,rfl⟩;refine .deep _ _ q (by simp; omega) (fun k h1 h2=> ?_) fun k h1 h2 j h3 h4=> ?_
   ·obtain ⟨q',e'⟩:=hys k h1 (by omega)
    rw [e',Uh]; rfl
   ·obtain ⟨q',e'⟩:=hys k h1 (by omega)
    simp only [e',AV.cells,List.length_singleton] at h3;obtain rfl:j=0:=by omega
    simp only [e',Uh,cG,AV.cells,List.getElem_singleton];exact .sl _ _
theorem vt (t:fE):ct (aR t)=true:=by
 simp only [aR,ct];refine bg (fun a=> ?_) t
 simp only [cG,ct];refine bg (fun b=> ?_) a
 simp only [gE,ct];exact bg (fun _=>rfl) b
theorem EJ (l:List aL):ct (eE l)=true:=by simp only [eE,ct]; exact bg (fun _=>rfl) l
theorem rP (l:List cr):ct (ax l)=true:=by simp only [ax,ct]; exact bg (fun _=>rfl) l
theorem xE (r:cH):ct (aA r)=true:=by simp [aA,ct,gh,vt,EJ,rP]
mutual
theorem AG:∀p:bB,ct (aJ p)=true
 | .mk id set alg tgt rules kids obls=>by simp [aJ,ct,gh,vt,rP,bg xE rules,rO kids]
theorem rO:∀l:List bB,gh (eS l)=true
 | []=>rfl
 |k::r=>by simp [eS,gh,AG k,rO r]
end
theorem iu (p:bB):(aJ p).cells.length=7:=by cases p; simp [aJ,AV.cells]
theorem Iq {l:List aL} (h:iZ l=0):l.length≤32:=by
 by_cases hn:l= []
 ·subst hn; simp
 ·exact (uw h hn).1
theorem Dc {l:List cr} (h:gv l=0):l.length≤8:=(jk h).1
theorem rW {H:Heap} {i:Nat} {x:Option Blk} (h:H i=x):upd H i x=H:=by
 funext j
 by_cases e:j=i
 ·rw [e,ah,h]
 ·rw [ag _ _ e]
theorem jV {tb:TypeId} {h:Heap} {sz id i:Nat} {y:AV} {xs cs:List AV} {t:TypeId} (hw:Ow tb h sz id y xs) (hi:h i=some (.obj cs t)) (ht:t≠tb):id≠i:=by
 obtain ⟨cap,rest,rfl,h1,_⟩:=hw;intro e;rw [e,hi] at h1;injection h1 with h1
 injection h1 with _ h1
 exact ht h1
theorem jJ {sz:Nat} {xs:List AV} (hs:Sized sz xs) (j:Nat) (hj:j<xs.length) (o:Nat) (c:List AV) (ho:o+c.length≤sz) {rest:List AV}:
  (aq xs++rest).take (j*sz+o)++c++(aq xs++rest).drop (j*sz+o+c.length)=aq (xs.set j (.agg (Ab.over xs[j].cells o c)))++rest:=by
 have hl:=aU hs;have hb:(j+1)*sz≤xs.length*sz:=Nat.mul_le_mul_right _ (by omega)
 rw [Nat.add_mul,Nat.one_mul] at hb;have:=GI (us:=aq xs) (vs:=rest) (o:=j*sz+o) (c:=c) (by omega)
 rw [Ab.over] at this;rw [this,D4 hs j hj o c ho]
theorem oe {α:Type} {xs:List α} {i:Nat} {x:α} (h:xs[i]? =some x):xs.set i x=xs:=by
 obtain ⟨hi,rfl⟩:=List.getElem?_eq_some_iff.1 h;exact List.set_getElem_self hi
theorem kX (id:Txt) (set:Bool) (alg:Int) (tgt:fE) (rules:List cH) (kids:List bB) (obls:List cr):aJ (.mk id set alg tgt rules kids obls)= .agg [.s id, .v (.bool set), .v (.int .i64 alg),aR tgt, .sl (rules.map aA) .no, .sl (kids.map aJ) .no,ax obls]:=by simp [aJ,aW]
set_option maxRecDepth 100000 in
theorem qF:∀(p:bB) (d:Nat),kE d p→∀h,ak Tryz.prog 128 [aJ p] h fun r h' =>r=aJ p∧h' =h
 | .mk pid pset palg ptgt prules pkids pobls,d,hp,h=>by
  obtain ⟨_,_,_,_,_,_,ht,ho,hr16,hk16,hre,hke⟩:=hp;rw [nN] at hke;have ih:∀(j:Nat) (hj:j<pkids.length) (h:Heap),ak Tryz.prog 128 [aJ pkids[j]] h fun r h' =>r=aJ pkids[j]∧h' =h:=fun j hj h=>qF pkids[j] (d+1) (hke _ (Ul hj)) h
  have hob:=Dc ho;refine ak.freeze fun g hg _=> ?_
  rw [kX];refine ak.body hU hm Tryz.func128 rfl (by kernel_rfl) 72 rfl [.cell 2 34] rfl (Uf rfl) (fun hwf=> ?_)
  simp only [go_sem];intro i1 h1;simp only [go_sem];intro i2 h2;have n21:=aH h2;have n2:=aE h2;simp only [go_sem];obtain ⟨H,eH⟩:∃H,upd (upd g i1 (some (.obj [.s pid, .v (.bool pset), .v (.int .i64 palg),aR ptgt, .sl (prules.map aA) .no, .sl (pkids.map aJ) .no,ax pobls] 34))) i2 (some (.obj [.s [], .v (.bool false), .v (.int .i64 0), .sl [] .full, .sl [] .full, .sl [] .full, .sl [] .full] 34))=H:=⟨_,rfl⟩;have hH:Ab.Sub g H:=by rw [←eH]; exact ((Sub.refl g).put h1 _).put n2 _
  have g1:H i1=some (.obj [.s pid, .v (.bool pset), .v (.int .i64 palg),aR ptgt, .sl (prules.map aA) .no, .sl (pkids.map aJ) .no,ax pobls] 34):=by rw [←eH,ag _ _ n21.symm,ah]
  have g2:H i2=some (.obj [.s [], .v (.bool false), .v (.int .i64 0), .sl [] .full, .sl [] .full, .sl [] .full, .sl [] .full] 34):=by rw [←eH,ah]
  rw [eH];refine .stage (hm1 i1 _) [0,1,3,4,2,6,5] [7,8,9] (.hm1 g1) (by kernel_rfl) ?_
  simp only [go_sem,fz];refine (qG ptgt ht H).pthen ?_;refine ⟨.hm1 g1, ?_⟩;simp only [go_sem];refine (wS _ (pobls.map bk) H (dS bk 3 (fun _=>rfl) _ _) (by simp; omega) (bg (fun _=>rfl) _)).pthen ?_
  refine ⟨.hm1 g1,cW,(fun _ _ e=>by cases e), ?_⟩
  have cT:(aR ptgt).cells= [aR ptgt]:=rfl;simp only [go_sem,g1,show fit (aR ptgt) 1=(1=1) from rfl,cT]
  have eo:(.sl (pobls.map bk) .no:AV)=ax pobls:=rfl;rw [eo];refine ⟨fun _ _ e=>(by cases e),fun _ _ e=>(by cases e), ?_⟩
  rw [rW g1];refine .stage (hm1 i1 _) [0,1,3,4,2,6,5] [7,8,9] (.hm1 g1) (by kernel_rfl) ?_
  simp only [go_sem,fz];refine (DN _ (prules.map aA) H (dS aA 5 (fun _=>rfl) _ _) (by simp; omega)).mono fun y4 H1 ⟨w4,s1⟩=> ?_
  refine ⟨.hm1 (s1 _ _ g1), ?_⟩;simp only [go_sem];refine (zl _ (pkids.map aJ) H1 (dS aJ 7 iu _ _) (by simp; omega)).mono fun y5 H2 ⟨w5,s2⟩=> ?_
  have g1' :=s2 _ _ (s1 _ _ g1);have g2' :=s2 _ _ (s1 _ _ g2);refine ⟨.hm1 g1',cW,(fun _ _ e=>by cases e), ?_⟩
  simp only [go_sem,g1',w4.rd.fit,w4.rd.cells,w5.rd.fit,w5.rd.cells];refine ⟨fun _ _ e=>(by cases e),fun _ _ e=>(by cases e), ?_⟩
  have hn4:∀id,nid y4=some id→id≠i2:=fun id e=>cA (w4.nid e).1 g2
  have hn5:∀id,nid y5=some id→id≠i2:=fun id e=>cA (w5.nid e).1 (s1 _ _ g2)
  have hnd:∀i,nid y4=some i→nid y5≠some i:=fun i e4 e5=>(w4.nid e4).2.1 (w5.nid e5).1
  have v4:∀b,OwE 181 g (upd H2 i1 b) 5 y4 (prules.map aA):=fun b=>((w4.sub s2).less hH).keep fun id e=>ag _ _ (cA (w4.nid e).1 g1)
  have v5:∀b,OwE 34 g (upd H2 i1 b) 7 y5 (pkids.map aJ):=fun b=>(w5.less (hH.trans s1)).keep fun id e=>ag _ _ (cA (s1.none (w5.nid e).1) g1)
  have vs:∀b,Ab.Sub g (upd H2 i1 b):=fun b=>(hH.trans (s1.trans s2)).put h1 b
  have vz:∀b,upd H2 i1 b i2=some (.obj [.s [], .v (.bool false), .v (.int .i64 0), .sl [] .full, .sl [] .full, .sl [] .full, .sl [] .full] 34):=fun b=>by rw [ag _ _ n21]; exact g2'
  obtain ⟨H3,eH3⟩:∃H3,upd H2 i1 (some (.obj [.s pid, .v (.bool pset), .v (.int .i64 palg),aR ptgt,y4,y5,ax pobls] 34))=H3:=⟨_,rfl⟩;have q1:H3 i1=some (.obj [.s pid, .v (.bool pset), .v (.int .i64 palg),aR ptgt,y4,y5,ax pobls] 34):=by rw [←eH3,ah]
  replace v4:=v4 (some (.obj [.s pid, .v (.bool pset), .v (.int .i64 palg),aR ptgt,y4,y5,ax pobls] 34));replace v5:=v5 (some (.obj [.s pid, .v (.bool pset), .v (.int .i64 palg),aR ptgt,y4,y5,ax pobls] 34));replace vs:=vs (some (.obj [.s pid, .v (.bool pset), .v (.int .i64 palg),aR ptgt,y4,y5,ax pobls] 34));replace vz:=vz (some (.obj [.s pid, .v (.bool pset), .v (.int .i64 palg),aR ptgt,y4,y5,ax pobls] 34));rw [eH3] at v4 v5 vs vz;rw [eH3];clear eH3;have hi1:∀id,g id=none→∀ {K:Heap} {b:Blk},K id=some b→K id≠none:=fun id _ K b e=>by rw [e]; simp
  simp only [go_sem,v4.rd.len,Ug];refine .intro (fun m ρ G=>∃i:Nat,G i1=some (.obj [.s pid, .v (.bool pset), .v (.int .i64 palg),aR ptgt,y4,y5,ax pobls] 34)∧G i2=some (.obj [.s [], .v (.bool false), .v (.int .i64 0), .sl [] .full, .sl [] .full, .sl [] .full, .sl [] .full] 34)∧Ab.Sub g G∧OwE 181 g G 5 y4 (prules.map aA)∧OwE 34 g G 7 y5 (pkids.map aJ)∧i≤prules.length∧m=prules.length - i∧
   lk ρ 1=some (.ptr i1 0)∧lk ρ 2=some (.ptr i2 0)∧lk ρ 24=some y4∧lk ρ 25=some (.v (.int .i64 prules.length))∧lk ρ 26=some (.v (.int .i64 i))) prules.length ?_ ?_
  ·refine ⟨0,q1,vz,vs,v4,v5,by omega,rfl, ?_, ?_, ?_, ?_, ?_⟩<;>simp only [go_sem]
  ·rintro m ρ G ⟨i,q1,vz,vs,v4,v5,hi,rfl,r1,r2,r24,r25,r26⟩
   simp only [go_sem,r25,r26];refine .intro (fun e=> ?_) (fun e=> ?_)
   ·have hlt:i<prules.length:=Un e
    have w1:=Um i (by omega)
    obtain ⟨_,rt,rc,ro⟩:=hre _ (Ul hlt);have hrc:=Iq rc;have hro:=Dc ro;simp only [go_sem,r24,r26];refine v4.rd.idx (e:=181) i rfl (by simpa using hlt) (by simp only [go_sem]) (by decide) fun p hp1=> ?_
    have hld:=hp1.all (U:=U) (ty:=181) (by simp only [go_sem]) (by simp only [go_sem]; rw [Uh]; rfl) (by simp only [go_sem]; rw [Uh]; rfl)
    simp only [go_sem,hld,Uh,aA];intro i4 h4;have n41:i4≠i1:=cA h4 q1;simp only [go_sem];obtain ⟨G4,eG4⟩:∃G4,upd G i4 (some (.obj [.s prules[i].id, .v (.bool prules[i].deny),aR prules[i].tgt,eE prules[i].cond,ax prules[i].obls] 181))=G4:=⟨_,rfl⟩;rw [eG4];have p1:G4 i1=some (.obj [.s pid, .v (.bool pset), .v (.int .i64 palg),aR ptgt,y4,y5,ax pobls] 34):=by rw [←eG4,ag _ _ n41.symm]; exact q1
    have p4:G4 i4=some (.obj [.s prules[i].id, .v (.bool prules[i].deny),aR prules[i].tgt,eE prules[i].cond,ax prules[i].obls] 181):=by rw [←eG4,ah]
    have sG:Ab.Sub G G4:=by rw [←eG4]; exact .ai h4
    refine .calls (hm2 i1 (.obj [.s pid, .v (.bool pset), .v (.int .i64 palg),aR ptgt,y4,y5,ax pobls] 34) i4 (.obj [.s prules[i].id, .v (.bool prules[i].deny),aR prules[i].tgt,eE prules[i].cond,ax prules[i].obls] 181)) [0,1,2,3,4,5,6,7,8,9,10,12,13,15,16,11,14,17,18,19,20,21,22,23,24,25,26] (.hm2 p1 p4) (by kernel_rfl) rfl ?_
    simp only [go_sem,r1,qt _ _ n41.symm,qu];refine (qG prules[i].tgt rt G4).pthen ?_;refine ⟨.hm2 p1 p4, ?_⟩;simp only [go_sem];refine (Bt _ (prules[i].cond.map cP) G4 (dS cP 7 (fun _=>rfl) _ _) (by simp; omega) (bg (fun _=>rfl) _)).pthen ?_
    refine ⟨.hm2 p1 p4, ?_⟩;simp only [go_sem];refine (wS _ (prules[i].obls.map bk) G4 (dS bk 3 (fun _=>rfl) _ _) (by simp; omega) (bg (fun _=>rfl) _)).pthen ?_
    refine ⟨.hm2 p1 p4, ?_⟩;simp only [go_sem];obtain ⟨id4,hg4,o4⟩:=(v4.sub sG).ow (by intro e; rw [List.map_eq_nil_iff] at e; rw [e] at hlt; cases hlt)
    have m1:id4≠i1:=jV o4 p1 (by decide)
    have m4:id4≠i4:=fun e=>(v4.nid o4.nid).2.1 (by rw [e]; exact h4)
    refine o4.idx (U:=U) (e:=181) i rfl (by simpa using hlt) (by simp only [go_sem]) (by decide) ?_
    simp only [go_sem];have o4' :=o4;obtain ⟨cap,rest,ey,hid,hr,hc,hsz⟩:=o4';have hbd:i*5+5≤(aq (prules.map aA)++rest).length:=by
     rw [Uk,aU hsz,Ug]; omega
    have e2:List.take (i*5+2) (aq (prules.map aA)++rest)++(aR prules[i].tgt).cells++List.drop (i*5+2+(aR prules[i].tgt).cells.length) (aq (prules.map aA)++rest)=aq (prules.map aA)++rest:=by
     refine (jJ hsz i (by simpa using hlt) 2 ((aR prules[i].tgt).cells) (Uf rfl)).trans ?_
     rw [oe];rw [List.getElem?_eq_getElem (by simpa using hlt),Uh]; rfl
    have e3:List.take (i*5+3) (aq (prules.map aA)++rest)++ [.sl (prules[i].cond.map cP) .no]++List.drop (i*5+3+1) (aq (prules.map aA)++rest)=aq (prules.map aA)++rest:=by
     refine (jJ hsz i (by simpa using hlt) 3 ([.sl (prules[i].cond.map cP) .no]) (Uf rfl)).trans ?_
     rw [oe];rw [List.getElem?_eq_getElem (by simpa using hlt),Uh]; rfl
    have e4:List.take (i*5+4) (aq (prules.map aA)++rest)++ [.sl (prules[i].obls.map bk) .no]++List.drop (i*5+4+1) (aq (prules.map aA)++rest)=aq (prules.map aA)++rest:=by
     refine (jJ hsz i (by simpa using hlt) 4 ([.sl (prules[i].obls.map bk) .no]) (Uf rfl)).trans ?_
     rw [oe];rw [List.getElem?_eq_getElem (by simpa using hlt),Uh]; rfl
    simp only [go_sem,hid];rw [e2,rW hid];refine ⟨rfl,by omega, .hm2 p1 p4, ?_⟩
    refine o4.idx (U:=U) (e:=181) i rfl (by simpa using hlt) (by simp only [go_sem]) (by decide) ?_
    simp only [go_sem,hid];rw [e3,rW hid];refine ⟨by omega, .hm2 p1 p4, ?_⟩
    refine o4.idx (U:=U) (e:=181) i rfl (by simpa using hlt) (by simp only [go_sem]) (by decide) ?_
    simp only [go_sem,hid];rw [e4,rW hid];refine ⟨by omega, .hm2 p1 p4, ?_⟩
    simp only [go_sem,r26,w1];refine ⟨_, ?_,i+1,p1,sG _ _ vz,vs.trans sG,v4.sub sG,v5.sub sG,by omega,rfl, ?_, ?_, ?_, ?_, ?_⟩
    ·omega
    all_goals simp only [go_sem,r1,r2,r24,r25]
   ·have hge:i=prules.length:=by have:=Uj e; omega
    clear hge;simp only [go_sem,r1,q1,v5.rd.len,Ug];refine .intro (fun m ρ G=>∃i:Nat,G i1=some (.obj [.s pid, .v (.bool pset), .v (.int .i64 palg),aR ptgt,y4,y5,ax pobls] 34)∧G i2=some (.obj [.s [], .v (.bool false), .v (.int .i64 0), .sl [] .full, .sl [] .full, .sl [] .full, .sl [] .full] 34)∧Ab.Sub g G∧OwE 181 g G 5 y4 (prules.map aA)∧OwE 34 g G 7 y5 (pkids.map aJ)∧i≤pkids.length∧m=pkids.length - i∧
     lk ρ 1=some (.ptr i1 0)∧lk ρ 2=some (.ptr i2 0)∧lk ρ 57=some y5∧lk ρ 58=some (.v (.int .i64 pkids.length))∧lk ρ 59=some (.v (.int .i64 i))) pkids.length ?_ ?_
    ·refine ⟨0,q1,vz,vs,v4,v5,by omega,rfl, ?_, ?_, ?_, ?_, ?_⟩<;>simp only [go_sem,r1,r2]
    ·clear r1 r2 r24 r25 r26 q1 vz vs v4 v5 e hi
     rintro m ρ G ⟨i,q1,vz,vs,v4,v5,hi,rfl,r1,r2,r57,r58,r59⟩
     simp only [go_sem,r58,r59];refine .intro (fun e=> ?_) (fun e=> ?_)
     ·have hlt:i<pkids.length:=Un e
      have w1:=Um i (by omega)
      have ihi:=ih i hlt;have hci:=iu pkids[i];cases hpk:pkids[i] with
      |mk kid kset kalg ktgt krules kkids kobls=>
      rw [hpk,kX] at ihi;simp only [go_sem,r57,r59];refine v5.rd.idx (e:=34) i rfl (by simpa using hlt) (by simp only [go_sem]) (by decide) fun p hp1=> ?_
      have hld:=hp1.all (U:=U) (ty:=34) (by simp only [go_sem]) (by simp only [go_sem]; rw [Uh]; exact hci) (by simp only [go_sem]; rw [Uh,hpk,kX]; rfl)
      simp only [go_sem,hld,Uh,hpk,kX];intro i4 h4;have n41:i4≠i1:=cA h4 q1;simp only [go_sem];obtain ⟨G4,eG4⟩:∃G4,upd G i4 (some (.obj [.s kid, .v (.bool kset), .v (.int .i64 kalg),aR ktgt, .sl (krules.map aA) .no, .sl (kkids.map aJ) .no,ax kobls] 34))=G4:=⟨_,rfl⟩;rw [eG4];have p1:G4 i1=some (.obj [.s pid, .v (.bool pset), .v (.int .i64 palg),aR ptgt,y4,y5,ax pobls] 34):=by rw [←eG4,ag _ _ n41.symm]; exact q1
      have p4:G4 i4=some (.obj [.s kid, .v (.bool kset), .v (.int .i64 kalg),aR ktgt, .sl (krules.map aA) .no, .sl (kkids.map aJ) .no,ax kobls] 34):=by rw [←eG4,ah]
      have sG:Ab.Sub G G4:=by rw [←eG4]; exact .ai h4
      refine .calls (hm2 i1 (.obj [.s pid, .v (.bool pset), .v (.int .i64 palg),aR ptgt,y4,y5,ax pobls] 34) i4 (.obj [.s kid, .v (.bool kset), .v (.int .i64 kalg),aR ktgt, .sl (krules.map aA) .no, .sl (kkids.map aJ) .no,ax kobls] 34)) [0,1,2,3,4,5,6] (.hm2 p1 p4) (by kernel_rfl) rfl ?_
      simp only [go_sem,r1,qt _ _ n41.symm,qu];refine (ihi G4).pthen ?_;refine ⟨.hm2 p1 p4, ?_⟩;simp only [go_sem];obtain ⟨id4,hg4,o4⟩:=(v5.sub sG).ow (by intro e; rw [List.map_eq_nil_iff] at e; rw [e] at hlt; cases hlt)
      have o4' :=o4;obtain ⟨cap,rest,ey,hid,hr,hc,hsz⟩:=o4';have hbd:i*7+7≤(aq (pkids.map aJ)++rest).length:=by
       rw [Uk,aU hsz,Ug]; omega
      have e2:List.take (i*7) (aq (pkids.map aJ)++rest)++ [.s kid, .v (.bool kset), .v (.int .i64 kalg),aR ktgt, .sl (krules.map aA) .no, .sl (kkids.map aJ) .no,ax kobls]++List.drop (i*7+7) (aq (pkids.map aJ)++rest)=aq (pkids.map aJ)++rest:=by
       refine (jJ hsz i (by simpa using hlt) 0 [.s kid, .v (.bool kset), .v (.int .i64 kalg),aR ktgt, .sl (krules.map aA) .no, .sl (kkids.map aJ) .no,ax kobls] (Uf rfl)).trans ?_
       rw [oe];rw [List.getElem?_eq_getElem (by simpa using hlt),Uh,hpk,kX]; rfl
      refine o4.idx (U:=U) (e:=34) i rfl (by simpa using hlt) (by simp only [go_sem]) (by decide) ?_
      simp only [go_sem,hid];rw [e2,rW hid];refine ⟨by omega, .hm2 p1 p4, ?_⟩
      simp only [go_sem,r59,w1];refine ⟨_, ?_,i+1,p1,sG _ _ vz,vs.trans sG,v4.sub sG,v5.sub sG,by omega,rfl, ?_, ?_, ?_, ?_, ?_⟩
      ·omega
      all_goals simp only [go_sem,r1,r2,r57,r58]
     ·simp only [go_sem,r1,r2,q1,vz]
      refine .mk _ (.refl _) (.refl _) ⟨vs.put n2 _,aJ (.mk pid pset palg ptgt prules pkids pobls), ?_,kX ..⟩;rw [kX];have z4:∀b,Frz g (upd G i2 b) y4 (.sl (prules.map aA) .no):=fun b=>(v4.keep fun id e=>ag _ _ (hn4 id e)).frz (bg xE prules)
      have z5:∀b,Frz g (upd G i2 b) y5 (.sl (pkids.map aJ) .no):=fun b=>(v5.keep fun id e=>ag _ _ (hn5 id e)).frz (by rw [←aW]; exact rO pkids)
      refine .agg _ _ rfl fun k k1 k2=> ?_
      rcases k with _|_|_|_|_|_|_|k
      ·exact .pure rfl
      ·exact .pure rfl
      ·exact .pure rfl
      ·exact .pure (vt _)
      ·exact z4 _
      ·exact z5 _
      ·exact .pure (rP _)
      ·simp at k1; omega
termination_by p=>SizeOf.sizeOf p
decreasing_by
 have:=List.sizeOf_lt_of_mem (Ul hj);simp only [bB.mk.sizeOf_spec];omega
end Go.Proofs.YtmlhcdeamjkpjaaGreatDoor
namespace Go.Ab
open Go
def apart (a b:AV):Prop:=∀i,nid a=some i→nid b≠some i
theorem apart.symm {a b:AV} (h:apart a b):apart b a:=fun i e1 e2=>h i e2 e1
theorem dH {a y:AV} {tb:TypeId} {g h:Heap} {sz:Nat} {xs:List AV} (hw:OwE tb g h sz y xs) (ha:∀i,nid a=some i→g i≠none):apart a y:=fun i e1 e2=>ha i e1 (hw.nid e2).1
theorem OwE.there {tb:TypeId} {h0 h h' :Heap} {sz:Nat} {y:AV} {xs:List AV} (hw:OwE tb h0 h sz y xs) (hs:∀i,h i≠Option.none→h' i≠Option.none):∀i,Ab.nid y=some i→h' i≠Option.none:=fun i e=>hs i (hw.nid e).2.1
theorem Sub.some {h h' :Heap} (hs:Sub h h'):∀i,h i≠Option.none→h' i≠Option.none:=fun i e e' =>e (hs.none e')
end Go.Ab
namespace Go.Proofs.YtmlhcdeamjkpjaaGreatDoor
open Go Go.Ab Go.Bf
def eC (h0 h:Heap) (ys:List AV) (x:AV) (c:aK):Prop:=∃f l,x= .agg [.s c.id, .s c.owner, .s c.state,f,l]∧OwE 131 h0 h 4 f (c.fields.map bE)∧OwE 96 h0 h 3 l (c.log.map gG)∧apart f l∧∀y∈ys,apart f y∧apart l y
def jW (h0 h:Heap) (ys:List AV) (y1:AV) (cs:List aK) (i0:Nat):Prop:=∃xs,OwE 57 h0 h 5 y1 xs∧xs.length=cs.length∧(∀j (h1:j<xs.length) (h2:j<cs.length),j≠i0→xs[j]=bM cs[j])∧∀(h1:i0<xs.length) (h2:i0<cs.length),eC h0 h ys xs[i0] cs[i0]
def pT (h0 h:Heap) (x:AV) (s:an) (i0:Nat):Prop:=∃y1 y2 y3 y4,x= .agg ([.v (.int .i64 s.tick),y1,y2,y3,y4]++fl s.policy++ [.v (.int .i64 s.version)])∧jW h0 h [y1,y2,y3,y4] y1 s.cases i0∧
 OwE 82 h0 h 7 y2 (s.reviews.map fP)∧OwE 98 h0 h 3 y3 (s.notices.map kM)∧OwE 71 h0 h 2 y4 (s.roles.map dD)∧apart y1 y2∧apart y1 y3∧apart y1 y4∧apart y2 y3∧apart y2 y4∧apart y3 y4
theorem EC {cs L:List AV} (h:L.length=cs.length):Ab.over cs 0 L=L:=by
 rw [Ab.over,List.take_zero,List.nil_append,Nat.zero_add,List.drop_of_length_le (by omega),List.append_nil]
theorem Ax {h:Heap} {x:AV} {c:aK} (i i0:Nat) (hb:RdC h x c) (hl:c.fields.length≤1000000) (hl2:c.log.length≤1000000):ak Tryz.prog 74 [x] h fun r h' =>
  ∃f l,r= .agg [.s c.id, .s c.owner, .s c.state,f,l]∧Ab.Sub h h'∧f.cells= [f]∧l.cells= [l]∧(i≠i0→f=fy c.fields∧l=oQ c.log)∧(i=i0→OwE 131 h h' 4 f (c.fields.map bE)∧OwE 96 h h' 3 l (c.log.map gG)∧apart f l):=by
 by_cases e:i=i0
 ·exact (vi hb hl hl2).mono fun r h' ⟨⟨f,l,e1,a,b,c⟩,d⟩=>⟨f,l,e1,d,a.rd.cells,b.rd.cells,fun hh=>(hh e).elim,fun _=>⟨a,b,c⟩⟩
 ·exact (sR hb hl hl2).mono fun r h' ⟨e1,e2⟩=>⟨_,_,e1,by rw [e2]; exact .refl _,rfl,rfl,fun _=>⟨rfl,rfl⟩,fun hh=>(e hh).elim⟩
theorem eC.sub {h0 h h' :Heap} {ys:List AV} {x:AV} {c:aK} (hm:eC h0 h ys x c) (hs:Ab.Sub h h'):eC h0 h' ys x c:=by
 obtain ⟨f,l,e,a,b,c,d⟩:=hm;exact ⟨f,l,e,a.sub hs,b.sub hs,c,d⟩
theorem eC.keep {h0 h h' :Heap} {ys:List AV} {x:AV} {c:aK} (hm:eC h0 h ys x c) (hs:∀f l,x= .agg [.s c.id, .s c.owner, .s c.state,f,l]→(∀y∈ys,apart f y∧apart l y)→∀i,(nid f=some i∨nid l=some i)→h' i=h i):eC h0 h' ys x c:=by
 obtain ⟨f,l,e,a,b,c,d⟩:=hm;exact ⟨f,l,e,a.keep fun i hi=>hs f l e d i (.inl hi),b.keep fun i hi=>hs f l e d i (.inr hi),c,d⟩
set_option maxRecDepth 100000 in
theorem Ln {h:Heap} {x:AV} {s:an} (hb:RdS h x s) (i0:Nat) (hf:Few s) (hp:kE 1 s.policy):ak Tryz.prog 80 [x] h fun r h' =>pT h h' r s i0∧Ab.Sub h h' :=by
 obtain ⟨y1,y2,y3,y4,rfl,⟨xs0,hc,hn,hcs⟩,h2,h3,h4⟩:=hb;have hpo:=qF s.policy 1 hp;cases hpp:s.policy with
 |mk pid pset palg ptgt prules pkids pobls=>
 rw [hpp,kX] at hpo;have hcC:fl (.mk pid pset palg ptgt prules pkids pobls)= [.s pid, .v (.bool pset), .v (.int .i64 palg),aR ptgt, .sl (prules.map aA) .no, .sl (pkids.map aJ) .no,ax pobls]:=by simp [fl,aW]
 have hfc:=hf.cases;refine ak.body hU hm Tryz.func80 rfl (by kernel_rfl) 41 rfl [.cell 2 36] rfl (Uf rfl) (fun hwf=> ?_)
 simp only [go_sem,hcC,List.cons_append,List.nil_append];intro i1 h1;simp only [go_sem];intro i2 h2';have n21:=aH h2';have n2:=aE h2';simp only [go_sem,aj,n21.symm];obtain ⟨H,eH⟩:∃H,upd (upd h i1 (some (.obj [.v (.int .i64 s.tick),y1,y2,y3,y4, .s pid, .v (.bool pset), .v (.int .i64 palg),aR ptgt, .sl (prules.map aA) .no, .sl (pkids.map aJ) .no,ax pobls, .v (.int .i64 s.version)] 36))) i2 (some (.obj [.v (.int .i64 0), .sl [] .full, .sl [] .full, .sl [] .full, .sl [] .full, .s [], .v (.bool false), .v (.int .i64 0), .sl [] .full, .sl [] .full, .sl [] .full, .sl [] .full, .v (.int .i64 0)] 36))=H:=⟨_,rfl⟩;have hH:Ab.Sub h H:=by rw [←eH]; exact ((Sub.refl h).put h1 _).put n2 _
 have g1:H i1=some (.obj [.v (.int .i64 s.tick),y1,y2,y3,y4, .s pid, .v (.bool pset), .v (.int .i64 palg),aR ptgt, .sl (prules.map aA) .no, .sl (pkids.map aJ) .no,ax pobls, .v (.int .i64 s.version)] 36):=by rw [←eH,ag _ _ n21.symm,ah]
 have g2:H i2=some (.obj [.v (.int .i64 0), .sl [] .full, .sl [] .full, .sl [] .full, .sl [] .full, .s [], .v (.bool false), .v (.int .i64 0), .sl [] .full, .sl [] .full, .sl [] .full, .sl [] .full, .v (.int .i64 0)] 36):=by rw [←eH,ah]
 rw [eH];clear eH;refine (wR y1 xs0 H (hc.sub hH) (by omega)).mono fun z1 H1 ⟨w1,s1⟩=> ?_
 simp only [go_sem,s1 _ _ g1,w1.rd.fit,w1.rd.cells];have v1:∀b,OwE 57 h (upd H1 i1 b) 5 z1 xs0:=fun b=>(w1.less hH).keep fun id e=>ag _ _ (cA (w1.nid e).1 g1)
 have vs:∀b,Ab.Sub h (upd H1 i1 b):=fun b=>(hH.trans s1).put h1 b
 have vz:∀b,upd H1 i1 b i2=some (.obj [.v (.int .i64 0), .sl [] .full, .sl [] .full, .sl [] .full, .sl [] .full, .s [], .v (.bool false), .v (.int .i64 0), .sl [] .full, .sl [] .full, .sl [] .full, .sl [] .full, .v (.int .i64 0)] 36):=fun b=>by rw [ag _ _ n21]; exact s1 _ _ g2
 have hz1:∀id,nid z1=some id→id≠i1:=fun id e=>cA (w1.nid e).1 g1
 have hz2:∀id,nid z1=some id→id≠i2:=fun id e=>cA (w1.nid e).1 g2
 obtain ⟨H2,eH2⟩:∃H2,upd H1 i1 (some (.obj [.v (.int .i64 s.tick),z1,y2,y3,y4, .s pid, .v (.bool pset), .v (.int .i64 palg),aR ptgt, .sl (prules.map aA) .no, .sl (pkids.map aJ) .no,ax pobls, .v (.int .i64 s.version)] 36))=H2:=⟨_,rfl⟩;replace v1:=v1 (some (.obj [.v (.int .i64 s.tick),z1,y2,y3,y4, .s pid, .v (.bool pset), .v (.int .i64 palg),aR ptgt, .sl (prules.map aA) .no, .sl (pkids.map aJ) .no,ax pobls, .v (.int .i64 s.version)] 36));replace vs:=vs (some (.obj [.v (.int .i64 s.tick),z1,y2,y3,y4, .s pid, .v (.bool pset), .v (.int .i64 palg),aR ptgt, .sl (prules.map aA) .no, .sl (pkids.map aJ) .no,ax pobls, .v (.int .i64 s.version)] 36));replace vz:=vz (some (.obj [.v (.int .i64 s.tick),z1,y2,y3,y4, .s pid, .v (.bool pset), .v (.int .i64 palg),aR ptgt, .sl (prules.map aA) .no, .sl (pkids.map aJ) .no,ax pobls, .v (.int .i64 s.version)] 36));have q1:H2 i1=some (.obj [.v (.int .i64 s.tick),z1,y2,y3,y4, .s pid, .v (.bool pset), .v (.int .i64 palg),aR ptgt, .sl (prules.map aA) .no, .sl (pkids.map aJ) .no,ax pobls, .v (.int .i64 s.version)] 36):=by rw [←eH2,ah]
 rw [eH2] at v1 vs vz;rw [eH2];clear eH2;simp only [go_sem,v1.rd.len,hn];refine .intro (fun m ρ G=>∃(i:Nat) (xs:List AV),G i1=some (.obj [.v (.int .i64 s.tick),z1,y2,y3,y4, .s pid, .v (.bool pset), .v (.int .i64 palg),aR ptgt, .sl (prules.map aA) .no, .sl (pkids.map aJ) .no,ax pobls, .v (.int .i64 s.version)] 36)∧G i2=some (.obj [.v (.int .i64 0), .sl [] .full, .sl [] .full, .sl [] .full, .sl [] .full, .s [], .v (.bool false), .v (.int .i64 0), .sl [] .full, .sl [] .full, .sl [] .full, .sl [] .full, .v (.int .i64 0)] 36)∧Ab.Sub h G∧OwE 57 h G 5 z1 xs∧xs.length=s.cases.length∧(∀j (h1:j<xs.length) (h2:j<s.cases.length),j<i→j≠i0→xs[j]=bM s.cases[j])∧(∀(h1:i0<xs.length) (h2:i0<s.cases.length),i0<i→eC h G [z1] xs[i0] s.cases[i0])∧(∀j (h1:j<xs.length) (h2:j<s.cases.length),i≤j→RdC h xs[j] s.cases[j])∧i≤s.cases.length∧m=s.cases.length - i∧
  lk ρ 1=some (.ptr i1 0)∧lk ρ 2=some (.ptr i2 0)∧lk ρ 10=some z1∧lk ρ 11=some (.v (.int .i64 s.cases.length))∧lk ρ 12=some (.v (.int .i64 i))) s.cases.length ?_ ?_
 ·refine ⟨0,xs0,q1,vz,vs,v1,hn,fun j _ _ hj=>(by omega),fun _ _ hj=>(by omega),fun j a b _=>hcs j a b,by omega,rfl, ?_, ?_, ?_, ?_, ?_⟩<;>simp only [go_sem]
 ·rintro m ρ G ⟨i,xs,q1,vz,vs,v1,hn,hlo,hmy,hhi,hi,rfl,r1,r2,r10,r11,r12⟩
  simp only [go_sem,r11,r12];refine .intro (fun e=> ?_) (fun e=> ?_)
  ·have hlt:i<s.cases.length:=Un e
   have hltx:i<xs.length:=by omega
   have w1:=Um i (by omega)
   obtain ⟨f,l,ex,hfl,hlg⟩:=hhi i hltx hlt (Nat.le_refl _);have hff:=hf.fields _ (Ul hlt);have hfg:=hf.log _ (Ul hlt);simp only [go_sem,r10,r12];refine v1.rd.idx (e:=57) i rfl hltx lp (by decide) fun p hp1=> ?_
   have hld:=hp1.all (U:=U) (ty:=57) (by simp only [go_sem]) (by rw [lp,ex]; rfl) (by simp only [go_sem]; rw [ex]; rfl)
   simp only [go_sem,hld,ex];intro i4 h4;have n41:i4≠i1:=cA h4 q1;simp only [go_sem];obtain ⟨G4,eG4⟩:∃G4,upd G i4 (some (.obj [.s s.cases[i].id, .s s.cases[i].owner, .s s.cases[i].state,f,l] 57))=G4:=⟨_,rfl⟩;rw [eG4];have p1:G4 i1=some (.obj [.v (.int .i64 s.tick),z1,y2,y3,y4, .s pid, .v (.bool pset), .v (.int .i64 palg),aR ptgt, .sl (prules.map aA) .no, .sl (pkids.map aJ) .no,ax pobls, .v (.int .i64 s.version)] 36):=by rw [←eG4,ag _ _ n41.symm]; exact q1
   have p4:G4 i4=some (.obj [.s s.cases[i].id, .s s.cases[i].owner, .s s.cases[i].state,f,l] 57):=by rw [←eG4,ah]
   have sG:Ab.Sub G G4:=by rw [←eG4]; exact .ai h4
   refine .calls (hm2 i1 (.obj [.v (.int .i64 s.tick),z1,y2,y3,y4, .s pid, .v (.bool pset), .v (.int .i64 palg),aR ptgt, .sl (prules.map aA) .no, .sl (pkids.map aJ) .no,ax pobls, .v (.int .i64 s.version)] 36) i4 (.obj [.s s.cases[i].id, .s s.cases[i].owner, .s s.cases[i].state,f,l] 57)) [0,1,2,3,4,5,6] (.hm2 p1 p4) (by kernel_rfl) rfl ?_
   simp only [go_sem,r1,qt _ _ n41.symm,qu];refine (Ax i i0 (show RdC G4 (.agg [.s s.cases[i].id, .s s.cases[i].owner, .s s.cases[i].state,f,l]) s.cases[i] from ⟨f,l,rfl,hfl.sub (vs.trans sG),hlg.sub (vs.trans sG)⟩) hff hfg).mono fun r G5 ⟨f',l',er,s5,cf,cl,hne,heq⟩=> ?_
   subst er;have p1' :=s5 _ _ p1;have p4' :=s5 _ _ p4;refine ⟨.hm2 p1' p4', ?_⟩;simp only [go_sem];obtain ⟨id1,hg1,o1⟩:=((v1.sub sG).sub s5).ow (by intro e; rw [e] at hltx; cases hltx)
   have t1:id1≠i1:=jV o1 p1' (by decide)
   have t2:id1≠i2:=hz2 id1 o1.nid;have t3:G4 id1≠none:=fun e=>(v1.nid o1.nid).2.1 (sG.none e)
   have o1' :=o1;obtain ⟨cap,rest,ey,hid,hr,hcap,hsz⟩:=o1';have hbd:i*5+5≤(aq xs++rest).length:=by
    rw [Uk,aU hsz]; omega
   have hx5:xs[i].cells.length=5:=hsz _ (Ul hltx);have e2:List.take (i*5) (aq xs++rest)++ [.s s.cases[i].id, .s s.cases[i].owner, .s s.cases[i].state,f',l']++List.drop (i*5+5) (aq xs++rest)=aq (xs.set i (.agg [.s s.cases[i].id, .s s.cases[i].owner, .s s.cases[i].state,f',l']))++rest:=by
    refine (jJ hsz i hltx 0 [.s s.cases[i].id, .s s.cases[i].owner, .s s.cases[i].state,f',l'] (Uf rfl)).trans ?_;rw [EC (by rw [hx5]; rfl)]
   refine o1.idx (U:=U) (e:=57) i rfl hltx lp (by decide) ?_
   simp only [go_sem,hid];rw [e2];have t4:id1≠i4:=fun e=>(v1.nid o1.nid).2.1 (by rw [e]; exact h4)
   refine ⟨by omega, .hm2 (by rw [ag _ _ t1.symm]; exact p1') (by rw [ag _ _ t4.symm]; exact p4'), ?_⟩
   simp only [go_sem,r12,w1];have ho:∀b k,k≠id1→upd G5 id1 b k=G5 k:=fun b k hk=>ag _ _ hk
   have hs6:∀b,Ab.Sub h (upd G5 id1 b):=fun b=>((vs.trans sG).trans s5).put hg1 b
   refine ⟨_, ?_,i+1,xs.set i (.agg [.s s.cases[i].id, .s s.cases[i].owner, .s s.cases[i].state,f',l']),(ho _ _ t1.symm).trans p1',(ho _ _ t2.symm).trans (s5 _ _ (sG _ _ vz)),hs6 _, .inr ⟨id1,hg1,cap,rest,by rw [List.length_set]; exact ey,ah ..,by rw [List.length_set]; exact hr,by rw [List.length_set]; exact hcap, ?_⟩,by rw [List.length_set]; exact hn,fun j a b hj hj0=> ?_,fun a b hj=> ?_,fun j a b hj=> ?_,by omega,rfl, ?_, ?_, ?_, ?_, ?_⟩
   ·omega
   ·intro z hz
    rcases List.mem_or_eq_of_mem_set hz with hz|rfl
    ·exact hsz z hz
    ·rfl
   ·have a' :j<xs.length:=by rw [List.length_set] at a; exact a
    by_cases hji:j=i
    ·subst hji
     obtain ⟨ef,el⟩:=hne hj0;rw [List.getElem_set_self,ef,el]; rfl
    ·rw [List.getElem_set_ne (Ne.symm hji)]
     exact hlo j a' b (by omega) hj0
   ·have a' :i0<xs.length:=by rw [List.length_set] at a; exact a
    by_cases hji:i=i0
    ·subst hji
     obtain ⟨of,ol,hap⟩:=heq rfl;have kf:∀k,G4 k=none→upd G5 id1 (some (.obj (aq (xs.set i (.agg [.s s.cases[i].id, .s s.cases[i].owner, .s s.cases[i].state,f',l']))++rest) 57)) k=G5 k:=fun k hk=>ag _ _ fun e=>t3 (by rw [←e]; exact hk)
     rw [List.getElem_set_self];refine ⟨f',l',rfl,(of.less (vs.trans sG)).keep fun k hk=>kf k (of.nid hk).1,(ol.less (vs.trans sG)).keep fun k hk=>kf k (ol.nid hk).1,hap,fun y hy=> ?_⟩
     rw [List.mem_singleton.1 hy];have hz1:∀k,nid z1=some k→G4 k≠none:=(v1.sub sG).there fun k hk=>hk
     exact ⟨(dH of hz1).symm,(dH ol hz1).symm⟩
    ·rw [List.getElem_set_ne hji]
     have hm:=hmy a' b (by omega)
     refine eC.keep (h:=G5) ((hm.sub sG).sub s5) fun f l ex hap k hk=> ?_
     refine ag _ _ fun e=> ?_
     subst e;rcases hk with hk|hk
     ·exact (hap z1 (List.mem_singleton.2 rfl)).1 _ hk o1.nid
     ·exact (hap z1 (List.mem_singleton.2 rfl)).2 _ hk o1.nid
   ·have a' :j<xs.length:=by rw [List.length_set] at a; exact a
    rw [List.getElem_set_ne (by omega)]
    exact hhi j a' b (by omega)
   all_goals simp only [go_sem,r1,r2,r10,r11]
  ·have hge:i=s.cases.length:=by have:=Uj e; omega
   simp only [go_sem];refine .stage (hm1 i1 (.obj [.v (.int .i64 s.tick),z1,y2,y3,y4, .s pid, .v (.bool pset), .v (.int .i64 palg),aR ptgt, .sl (prules.map aA) .no, .sl (pkids.map aJ) .no,ax pobls, .v (.int .i64 s.version)] 36)) [0,1,3,4,6,7,2,9,5,8] [10,11,12,13,14] (.hm1 q1) (by kernel_rfl) ?_
   simp only [go_sem,r1,fz];refine (sv y2 _ G (h2.sub vs) (by rw [Ug]; exact hf.reviews)).mono fun z2 G1 ⟨o2,s1⟩=> ?_
   refine ⟨.hm1 (s1 _ _ q1), ?_⟩;simp only [go_sem,r1];refine (su y3 _ G1 ((h3.sub vs).sub s1) (by rw [Ug]; exact hf.notices)).mono fun z3 G2 ⟨o3,s2⟩=> ?_
   refine ⟨.hm1 (s2 _ _ (s1 _ _ q1)), ?_⟩;simp only [go_sem];refine (DM y4 _ G2 (((h4.sub vs).sub s1).sub s2) (by rw [Ug]; exact hf.roles)).mono fun z4 G3 ⟨o4,s3⟩=> ?_
   have s03:Ab.Sub G G3:=s1.trans (s2.trans s3);have q1' :=s03 _ _ q1;have q2' :=s03 _ _ vz;refine ⟨.hm1 q1',cW,(fun _ _ e=>by cases e), ?_⟩
   simp only [go_sem,r1,q1',o2.rd.fit,o2.rd.cells,o3.rd.fit,o3.rd.cells,o4.rd.fit,o4.rd.cells];refine ⟨fun _ _ e=>(by cases e),fun _ _ e=>(by cases e),fun _ _ e=>(by cases e), ?_⟩
   refine (show ak Tryz.prog 128 [_] _ _ from hpo _).pthen ?_
   have vz' :∀b,upd G3 i1 b i2=some (.obj [.v (.int .i64 0), .sl [] .full, .sl [] .full, .sl [] .full, .sl [] .full, .s [], .v (.bool false), .v (.int .i64 0), .sl [] .full, .sl [] .full, .sl [] .full, .sl [] .full, .v (.int .i64 0)] 36):=fun b=>by rw [ag _ _ n21]; exact q2'
   simp only [go_sem,r1,r2,vz'];have k1:∀ {tb:TypeId} {z:AV} {xs:List AV} {n:Nat} {g:Heap},OwE tb g G3 n z xs→Ab.Sub h g→(∀id,nid z=some id→id≠i1∧id≠i2)→∀a b,OwE tb h (upd (upd G3 i1 a) i2 b) n z xs:=fun w hg hn a b=>(w.less hg).keep fun id e=>by
    rw [ag _ _ (hn id e).2,ag _ _ (hn id e).1]
   have new:∀ {tb:TypeId} {z:AV} {xs:List AV} {n:Nat} {g:Heap},OwE tb g G3 n z xs→Ab.Sub G g→∀id,nid z=some id→id≠i1∧id≠i2:=fun w hg id e=>⟨cA (w.nid e).1 (hg _ _ q1),cA (w.nid e).1 (hg _ _ vz)⟩
   have n2' :=new (o2.sub (s2.trans s3)) (.refl _);have n3' :=new (o3.sub s3) s1;have n4' :=new o4 (s1.trans s2);have n1' :∀id,nid z1=some id→id≠i1∧id≠i2:=fun id e=>⟨hz1 id e,hz2 id e⟩
   have aG:∀k,nid z1=some k→G k≠none:=v1.there fun k hk=>hk
   refine .mk _ (.refl _) (.refl _) ⟨⟨z1,z2,z3,z4,by rw [hpp,hcC]; rfl,⟨xs,k1 (v1.sub s03) (.refl _) n1' _ _,hn,fun j a b hj=>hlo j a b (by omega) hj,fun a b=> ?_⟩,k1 (o2.sub (s2.trans s3)) vs n2' _ _,k1 (o3.sub s3) (vs.trans s1) n3' _ _,k1 o4 (vs.trans (s1.trans s2)) n4' _ _, ?_, ?_, ?_, ?_, ?_, ?_⟩,((vs.trans s03).put h1 _).put n2 _⟩
   ·have hm:=(hmy a b (by omega)).sub s03
    obtain ⟨f,l,ex,of,ol,hap,hy⟩:=hm;obtain ⟨af,al⟩:=hy z1 (List.mem_singleton.2 rfl);have kf:∀k,nid f=some k→k≠i1∧k≠i2:=fun k hk=>⟨jV (of.nid hk).2.2 q1' (by decide),jV (of.nid hk).2.2 q2' (by decide)⟩
    have kl:∀k,nid l=some k→k≠i1∧k≠i2:=fun k hk=>⟨jV (ol.nid hk).2.2 q1' (by decide),jV (ol.nid hk).2.2 q2' (by decide)⟩
    obtain ⟨f0,l0,ex0,of0,ol0,_⟩:=hmy a b (by omega)
    obtain ⟨rfl,rfl⟩:f0=f∧l0=l:=by
     rw [ex0] at ex;simp only [AV.agg.injEq,List.cons.injEq,true_and,and_true] at ex;exact ex
    have gf:∀k,nid f0=some k→G k≠none:=of0.there fun k hk=>hk
    have gl:∀k,nid l0=some k→G k≠none:=ol0.there fun k hk=>hk
    refine ⟨f0,l0,ex,k1 of (.refl _) kf _ _,k1 ol (.refl _) kl _ _,hap,fun y hy=> ?_⟩
    simp only [List.mem_cons,List.not_mem_nil,or_false] at hy;rcases hy with rfl|rfl|rfl|rfl
    ·exact ⟨af,al⟩
    ·exact ⟨dH o2 gf,dH o2 gl⟩
    ·exact ⟨dH o3 fun k hk=>s1.some k (gf k hk),dH o3 fun k hk=>s1.some k (gl k hk)⟩
    ·exact ⟨dH o4 fun k hk=>(s1.trans s2).some k (gf k hk),dH o4 fun k hk=>(s1.trans s2).some k (gl k hk)⟩
   ·exact dH o2 aG
   ·exact dH o3 fun k hk=>s1.some k (aG k hk)
   ·exact dH o4 fun k hk=>(s1.trans s2).some k (aG k hk)
   ·exact dH o3 (o2.there fun k hk=>hk)
   ·exact dH o4 ((o2.sub s2).there fun k hk=>hk)
   ·exact dH o4 (o3.there fun k hk=>hk)
end Go.Proofs.YtmlhcdeamjkpjaaGreatDoor
namespace Go.Ab
open Go
theorem mc {A B C X:List AV} {k m:Nat} (hk:k=A.length) (hm:m=X.length) (h:X.length=B.length):(A++(B++C)).take k++X++(A++(B++C)).drop (k+m)=A++(X++C):=by
 subst hk; subst hm
 rw [List.take_left,←List.drop_drop,List.drop_left,h,List.drop_left,List.append_assoc]
theorem C2 {A B C X:List AV} {k1 k2 k3 k4:Nat} (h1:k1=A.length+X.length) (h2:k2=k1+B.length) (h3:k3=A.length) (h4:k4=k3+X.length) (hc:X.length≤C.length):
  List.take k3 (List.take k1 (A++(B++C))++B++List.drop k2 (A++(B++C)))++X++List.drop k4 (List.take k1 (A++(B++C))++B++List.drop k2 (A++(B++C)))=A++(X++(B++C.drop X.length)):=by
 subst h1; subst h2; subst h3; subst h4
 have e1:List.take (A.length+X.length) (A++(B++C))=A++List.take X.length (B++C):=by rw [List.take_append,List.take_of_length_le (by omega),Nat.add_sub_cancel_left]
 have e2:List.drop (A.length+X.length+B.length) (A++(B++C))=C.drop X.length:=by
  rw [Nat.add_assoc,←List.drop_drop,List.drop_left,Nat.add_comm,←List.drop_drop,List.drop_left]
 rw [e1,e2,List.append_assoc A];have e3:(List.take X.length (B++C)).length=X.length:=by rw [List.length_take,Uk]; omega
 have e4:A++(List.take X.length (B++C)++B++List.drop X.length C)=A++(List.take X.length (B++C)++(B++C.drop X.length)):=by simp only [List.append_assoc]
 rw [List.append_assoc A,e4];exact mc rfl rfl e3.symm
theorem C3 {A Z R X B:List AV} {k1 k2 k3 k4:Nat} (h1:k1=A.length) (h2:k2=k1+X.length) (h3:k3=A.length+X.length) (h4:k4=k3+B.length) (hz:Z.length=X.length+B.length):
  List.take k3 (List.take k1 (A++Z++R)++X++List.drop k2 (A++Z++R))++B++List.drop k4 (List.take k1 (A++Z++R)++X++List.drop k2 (A++Z++R))=A++(X++(B++R)):=by
 subst h1; subst h2; subst h3; subst h4
 obtain ⟨Z1,Z2,rfl,e1⟩:∃Z1 Z2,Z=Z1++Z2∧Z1.length=X.length:=⟨Z.take X.length,Z.drop X.length,(List.take_append_drop _ _).symm,by rw [List.length_take]; omega⟩
 have e2:Z2.length=B.length:=by rw [Uk] at hz; omega
 have e3:A++(Z1++Z2)++R=A++(Z1++(Z2++R)):=by simp only [List.append_assoc]
 rw [e3,mc rfl rfl e1.symm,←List.append_assoc A X,mc (by rw [Uk]) rfl e2.symm,List.append_assoc]
end Go.Ab
namespace Go.Proofs.YtmlhcdeamjkpjaaGreatDoor
open Go Go.Ab Go.Bf
theorem EA {h:Heap} {v:AV} {id off len cap:Nat} {cs:List AV} {t:TypeId} (hv:v.cells.length=5) (hid:h id=some (.obj cs t)) (hcs:cs≠ []):ak Tryz.prog 129 [.sl [v] .full, .ob id off len cap 5] h fun r h' =>r= .v (.bool false)∧h' =h:=
 sQ (U:=U) (tS:=24) (tR:=4) (e:=57) hU Tryz.func129 (by kernel_rfl) (by kernel_rfl) (by kernel_rfl) (by kernel_rfl) (by simp only [go_sem]) (by simp only [go_sem]) (by simp only [go_sem]; exact hv) (by simp) hid hcs
set_option maxRecDepth 100000 in
theorem BU (y:AV) (xs:List AV) (v:AV) (i:Nat) (h0 h:Heap) (hw:OwE 57 h0 h 5 y xs) (hs0:Ab.Sub h0 h) (hi:i≤xs.length) (hl:xs.length≤1000000) (hv:v.cells.length=5) (hva:fit v 5):
  ak Tryz.prog 82 [y, .v (.int .i64 i), .sl [v] .full] h fun r h' =>OwE 57 h0 h' 5 r (xs.take i++([v]++xs.drop i))∧(∀k,h k≠none→nid y≠some k→h' k=h k)∧∀k,nid r=some k→h k=none∨nid y=some k:=by
 rcases hw with ⟨rfl,rfl⟩|⟨id,hg,cap,rest,rfl,hid,hr,hc,hsz⟩
 ·obtain rfl:i=0:=by simpa using hi
  refine ak.body hU hm Tryz.func82 rfl (by kernel_rfl) 95 rfl [.tmp 6] rfl (Uf rfl) (fun hwf=> ?_)
  simp -implicitDefEqProofs only [go_sem];refine ⟨by omega,by omega,hv, .ob (by simp only [go_sem]) (jc.ow (xs:= [v]) (by intro z hz; rw [List.mem_singleton.1 hz]; simp only [go_sem]; exact hv) (by simp [aq]) rfl fun id y' h' hid hw ho=> ?_)⟩
  have hw' :Ow 57 h' 5 id y' [v]:=by have:=hw; simp only [go_sem] at this; exact this
  simp -implicitDefEqProofs only [go_sem];refine .same (.refl _) ⟨.inr ⟨id,hs0.none hid,hw'⟩,fun k hk _=>ho k (fun e=>hk (by rw [e]; exact hid)),fun k hk=> ?_⟩
  rw [show au [y']=y' from rfl,hw'.nid] at hk
  cases hk;exact .inl hid
 ·have how:OwE 57 h0 h 5 (.ob id 0 xs.length cap 5) xs:= .inr ⟨id,hg,cap,rest,rfl,hid,hr,hc,hsz⟩
  have hfl:=aU hsz;refine ak.body hU hm Tryz.func82 rfl (by kernel_rfl) 95 rfl [.tmp 6] rfl (Uf rfl) (fun hwf=> ?_)
  simp -implicitDefEqProofs only [go_sem];refine ⟨by omega,by omega, ?_⟩
  cases d1:((i:Int)==(xs.length:Int))
  case true=>
   have hin:i=xs.length:=by
    have:(i:Int)=(xs.length:Int):=by simpa using d1
    omega
   simp -implicitDefEqProofs only [go_sem];subst hin;refine ⟨by omega, ?_⟩
   refine OwE.app (U:=U) (tb:=57) how hs0 (.sl (by intro z hz; rw [List.mem_singleton.1 hz]; exact hv) .full:Rd h 5 (.sl [v] .full) [v]) (by simp only [go_sem]) (by decide) (by simp only [go_sem,ne_eq,not_false_eq_true]) (by simp only [go_sem]) (by simp) (by simp only [go_sem,List.length_cons,List.length_nil]; omega) fun id2 y' h' g2 hor hw ho=> ?_
   simp -implicitDefEqProofs only [go_sem];have e1:xs.take xs.length++([v]++xs.drop xs.length)=xs++ [v]:=by simp
   refine .same (.refl _) ⟨by have:OwE 57 h0 h' 5 y' (xs++ [v]):= .inr ⟨id2,g2,hw⟩; rw [←e1] at this; exact this,fun k hk hk2=>ho k fun e=> ?_,fun k hk=> ?_⟩
   ·rcases hor with hor|⟨l,c,ey⟩
    ·exact hk (by rw [e]; exact hor)
    ·cases ey
     exact hk2 (by rw [e]; rfl)
   ·rw [show au [y']=y' from rfl,hw.nid] at hk
    cases hk;rcases hor with hor|⟨l,c,ey⟩
    ·exact .inl hor
    ·cases ey; exact .inr rfl
  have hne:i<xs.length:=by
   have:¬(i:Int)=(xs.length:Int):=by simpa using d1
   omega
  have wn:IntKind.i64.wrap ((xs.length:Int)+1)=((xs.length+1:Nat):Int):=by rw [bz _ (by omega)]; omega
  have wi:=Um i (by omega)
  have wm:IntKind.i64.wrap (((xs.length+1:Nat):Int) - (i:Int))=((xs.length+1 - i:Nat):Int):=by rw [bz _ (by omega)]; omega
  have f1:aq xs=aq (xs.take i)++aq (xs.drop i):=by rw [←j3,List.take_append_drop]
  have f2:(aq (xs.take i)).length=i*5:=by rw [aU (sz:=5) fun z hz=>hsz z (List.mem_of_mem_take hz),List.length_take,Nat.min_eq_left hi]
  have f3:(aq (xs.drop i)).length=(xs.length - i)*5:=by rw [aU (sz:=5) fun z hz=>hsz z (List.mem_of_mem_drop hz),List.length_drop]
  have f4:aq (xs.take i++([v]++xs.drop i))=aq (xs.take i)++(v.cells++aq (xs.drop i)):=by simp [aq]
  have f5:Sized 5 (xs.take i++([v]++xs.drop i)):=fun z hz=>by
   rcases List.mem_append.1 hz with hz|hz
   ·exact hsz z (List.mem_of_mem_take hz)
   ·rcases List.mem_append.1 hz with hz|hz
    ·rw [List.mem_singleton.1 hz]; exact hv
    ·exact hsz z (List.mem_of_mem_drop hz)
  have f6:(xs.take i++([v]++xs.drop i)).length=xs.length+1:=by simp; omega
  have f6' :(xs.take i++v::xs.drop i).length=xs.length+1:=f6;cases d2:decide ((cap:Int)<((xs.length+1:Nat):Int))
  ·have e2:=Uj d2
   simp -implicitDefEqProofs only [go_sem,wn,d2];refine ⟨by omega, ?_⟩
   simp -implicitDefEqProofs only [go_sem,wi];have hcs:aq xs++rest≠ []:=by
    intro e;have:=congrArg List.length e;rw [Uk,hfl] at this;simp at this;omega
   refine ⟨by omega,by omega,by omega,by omega,by omega,by omega, ?_⟩
   refine (EA hv hid hcs).pthen ?_;simp -implicitDefEqProofs only [go_sem];refine .calls cW [0,1,2,3,4,5,6,7,8] (fun _ _ e=>by cases e) (by kernel_rfl) rfl ?_
   simp -implicitDefEqProofs only [go_sem,wi,hid,Nat.sub_zero];have hmin:min (xs.length+1 - i) (xs.length+1 - (i+1))=xs.length - i:=by omega
   refine ⟨by omega,by omega,by omega,by omega,by omega,by omega,xs.drop i,by rw [hmin,List.length_drop],by rw [hmin,Uk,hfl,hr]; omega, ?q1,fun z hz=>hsz z (List.mem_of_mem_drop hz),by rw [List.length_drop]; omega,by rw [Uk,hfl,hr]; omega,(by intro _ _ e; cases e),by omega,by omega,by omega,hv,by omega, ?ln, ?fin⟩
   case q1=>rw [hmin,f1,List.append_assoc,←f2,List.drop_left,←f3,List.take_left]
   case ln=>simp only [Uk,List.length_take,List.length_drop,hfl,hr,f3]; omega
   have hrl:(5:Nat)≤rest.length:=by rw [hr]; omega
   have hfv:aq [v]=v.cells:=by simp [aq]
   have key:=C2 (A:=aq (xs.take i)) (B:=aq (xs.drop i)) (C:=rest) (X:=aq [v]) (k1:=(i+1)*5) (k2:=(i+1)*5+(aq (xs.drop i)).length) (k3:=i*5) (k4:=i*5+(aq [v]).length) (by rw [hfv,hv,f2]; omega) rfl f2.symm rfl (by rw [hfv,hv]; exact hrl)
   rw [←List.append_assoc (aq (xs.take i)) (aq (xs.drop i)) rest,←f1] at key;rw [key];have e8:aq (xs.take i)++(aq [v]++(aq (xs.drop i)++rest.drop (aq [v]).length))=aq (xs.take i++([v]++xs.drop i))++rest.drop 5:=by rw [f4,hfv,hv]; simp only [List.append_assoc]
   rw [e8];refine .same (.refl _) ⟨.inr ⟨id,hg,cap,rest.drop 5,by rw [←f6]; rfl,ah _ _ _,by rw [List.length_drop,hr,f6']; omega,by have:=f6; simp only [List.cons_append,List.nil_append] at this; rw [this]; omega,f5⟩,fun k hk hk2=>ag _ _ fun e=>hk2 (by rw [e]; rfl),fun k hk=> .inr hk⟩
  ·have e2:=Ui d2
   simp -implicitDefEqProofs only [go_sem,wn,d2,wm];refine ⟨by omega, ?_⟩
   simp -implicitDefEqProofs only [go_sem,hid];have eA:List.take (i*5) (aq xs++rest)=aq (xs.take i):=by rw [f1,List.append_assoc,←f2,List.take_left]
   refine ⟨by omega,by omega,by omega,by omega,by omega,by omega,by rw [Uk,hfl]; omega, ?_⟩
   rw [Nat.sub_zero,eA];obtain ⟨Z,eZ⟩:∃Z,cB (AV.agg [AV.s [],AV.s [],AV.s [],AV.sl [] Perm.full,AV.sl [] Perm.full]) (xs.length+1 - i) 5=Z:=⟨_,rfl⟩;have lZ:Z.length=(xs.length+1 - i)*5:=by rw [←eZ]; simp [cB]
   rw [eZ];intro id2 cap2 rest2 hid2 hc2 hr2;have hx:¬id=id2:=fun e=>by rw [e,hid2] at hid; cases hid
   simp -implicitDefEqProofs only [go_sem];have hfv:aq [v]=v.cells:=by simp [aq]
   refine ⟨by omega,by omega,by omega,hv,by omega,by simp only [Uk,f2,lZ,hr2]; omega, ?_⟩
   refine .calls cW [0,1,2,3,4,5,6,7,8] (fun _ _ e=>by cases e) (by kernel_rfl) rfl ?_
   simp -implicitDefEqProofs only [go_sem,wi,hid,hx,Nat.sub_zero];have hmin:min (xs.length - i) (i+(xs.length+1 - i) - (i+1))=xs.length - i:=by omega
   have l0:(aq (xs.take i)++Z++rest2).length=(i+(xs.length+1 - i))*5+(cap2 - (i+(xs.length+1 - i)))*5:=by simp only [Uk,f2,lZ,hr2]; omega
   refine ⟨by omega,by omega,by omega,by omega,by omega,by omega,xs.drop i,by rw [hmin,List.length_drop],by rw [hmin,Uk,hfl,hr]; omega, ?q2,fun z hz=>hsz z (List.mem_of_mem_drop hz),by rw [List.length_drop]; omega, ?lm,(by intro _ _ e; cases e), ?fim⟩
   case q2=>rw [hmin,f1,List.append_assoc,←f2,List.drop_left,←f3,List.take_left]
   case lm=>rw [hfv]; simp only [Uk,List.length_take,List.length_drop,l0,hv]; omega
   rw [C3 f2.symm rfl (by rw [hfv,hv,f2]; omega) rfl (by rw [hfv,hv,lZ,f3]; omega)]
   have e8:aq (xs.take i)++(aq [v]++(aq (xs.drop i)++rest2))=aq (xs.take i++([v]++xs.drop i))++rest2:=by rw [f4,hfv]; simp only [List.append_assoc]
   rw [e8];have e9:i+(xs.length+1 - i)=xs.length+1:=by omega
   rw [e9] at hr2 hc2⊢;refine .same (.refl _) ⟨.inr ⟨id2,hs0.none hid2,cap2,rest2,by rw [←f6]; rfl,ah _ _ _,by rw [hr2,f6'],by rw [f6']; omega,f5⟩,fun k hk hk2=>ag _ _ fun e=>hk (by rw [e]; exact hid2),fun k hk=> .inl (by cases hk; exact hid2)⟩
theorem Cc {h:Heap} {v:AV} {id off len cap:Nat} {cs:List AV} {t:TypeId} (hv:v.cells.length=4) (hid:h id=some (.obj cs t)) (hcs:cs≠ []):ak Tryz.prog 181 [.sl [v] .full, .ob id off len cap 4] h fun r h' =>r= .v (.bool false)∧h' =h:=
 sQ (U:=U) (tS:=54) (tR:=4) (e:=131) hU Tryz.func181 (by kernel_rfl) (by kernel_rfl) (by kernel_rfl) (by kernel_rfl) (by simp only [go_sem]) (by simp only [go_sem]) (by simp only [go_sem]; exact hv) (by simp) hid hcs
set_option maxRecDepth 100000 in
theorem zY (y:AV) (xs:List AV) (v:AV) (i:Nat) (h0 h:Heap) (hw:OwE 131 h0 h 4 y xs) (hs0:Ab.Sub h0 h) (hi:i≤xs.length) (hl:xs.length≤1000000) (hv:v.cells.length=4) (hva:fit v 4):
  ak Tryz.prog 132 [y, .v (.int .i64 i), .sl [v] .full] h fun r h' =>OwE 131 h0 h' 4 r (xs.take i++([v]++xs.drop i))∧(∀k,h k≠none→nid y≠some k→h' k=h k)∧∀k,nid r=some k→h k=none∨nid y=some k:=by
 rcases hw with ⟨rfl,rfl⟩|⟨id,hg,cap,rest,rfl,hid,hr,hc,hsz⟩
 ·obtain rfl:i=0:=by simpa using hi
  refine ak.body hU hm Tryz.func132 rfl (by kernel_rfl) 95 rfl [.tmp 6] rfl (Uf rfl) (fun hwf=> ?_)
  simp -implicitDefEqProofs only [go_sem];refine ⟨by omega,by omega,hv, .ob (by simp only [go_sem]) (jc.ow (xs:= [v]) (by intro z hz; rw [List.mem_singleton.1 hz]; simp only [go_sem]; exact hv) (by simp [aq]) rfl fun id y' h' hid hw ho=> ?_)⟩
  have hw' :Ow 131 h' 4 id y' [v]:=by have:=hw; simp only [go_sem] at this; exact this
  simp -implicitDefEqProofs only [go_sem];refine .same (.refl _) ⟨.inr ⟨id,hs0.none hid,hw'⟩,fun k hk _=>ho k (fun e=>hk (by rw [e]; exact hid)),fun k hk=> ?_⟩
  rw [show au [y']=y' from rfl,hw'.nid] at hk
  cases hk;exact .inl hid
 ·have how:OwE 131 h0 h 4 (.ob id 0 xs.length cap 4) xs:= .inr ⟨id,hg,cap,rest,rfl,hid,hr,hc,hsz⟩
  have hfl:=aU hsz;refine ak.body hU hm Tryz.func132 rfl (by kernel_rfl) 95 rfl [.tmp 6] rfl (Uf rfl) (fun hwf=> ?_)
  simp -implicitDefEqProofs only [go_sem];refine ⟨by omega,by omega, ?_⟩
  cases d1:((i:Int)==(xs.length:Int))
  case true=>
   have hin:i=xs.length:=by
    have:(i:Int)=(xs.length:Int):=by simpa using d1
    omega
   simp -implicitDefEqProofs only [go_sem];subst hin;refine ⟨by omega, ?_⟩
   refine OwE.app (U:=U) (tb:=131) how hs0 (.sl (by intro z hz; rw [List.mem_singleton.1 hz]; exact hv) .full:Rd h 4 (.sl [v] .full) [v]) (by simp only [go_sem]) (by decide) (by simp only [go_sem,ne_eq,not_false_eq_true]) (by simp only [go_sem]) (by simp) (by simp only [go_sem,List.length_cons,List.length_nil]; omega) fun id2 y' h' g2 hor hw ho=> ?_
   simp -implicitDefEqProofs only [go_sem];have e1:xs.take xs.length++([v]++xs.drop xs.length)=xs++ [v]:=by simp
   refine .same (.refl _) ⟨by have:OwE 131 h0 h' 4 y' (xs++ [v]):= .inr ⟨id2,g2,hw⟩; rw [←e1] at this; exact this,fun k hk hk2=>ho k fun e=> ?_,fun k hk=> ?_⟩
   ·rcases hor with hor|⟨l,c,ey⟩
    ·exact hk (by rw [e]; exact hor)
    ·cases ey
     exact hk2 (by rw [e]; rfl)
   ·rw [show au [y']=y' from rfl,hw.nid] at hk
    cases hk;rcases hor with hor|⟨l,c,ey⟩
    ·exact .inl hor
    ·cases ey; exact .inr rfl
  have hne:i<xs.length:=by
   have:¬(i:Int)=(xs.length:Int):=by simpa using d1
   omega
  have wn:IntKind.i64.wrap ((xs.length:Int)+1)=((xs.length+1:Nat):Int):=by rw [bz _ (by omega)]; omega
  have wi:=Um i (by omega)
  have wm:IntKind.i64.wrap (((xs.length+1:Nat):Int) - (i:Int))=((xs.length+1 - i:Nat):Int):=by rw [bz _ (by omega)]; omega
  have f1:aq xs=aq (xs.take i)++aq (xs.drop i):=by rw [←j3,List.take_append_drop]
  have f2:(aq (xs.take i)).length=i*4:=by rw [aU (sz:=4) fun z hz=>hsz z (List.mem_of_mem_take hz),List.length_take,Nat.min_eq_left hi]
  have f3:(aq (xs.drop i)).length=(xs.length - i)*4:=by rw [aU (sz:=4) fun z hz=>hsz z (List.mem_of_mem_drop hz),List.length_drop]
  have f4:aq (xs.take i++([v]++xs.drop i))=aq (xs.take i)++(v.cells++aq (xs.drop i)):=by simp [aq]
  have f5:Sized 4 (xs.take i++([v]++xs.drop i)):=fun z hz=>by
   rcases List.mem_append.1 hz with hz|hz
   ·exact hsz z (List.mem_of_mem_take hz)
   ·rcases List.mem_append.1 hz with hz|hz
    ·rw [List.mem_singleton.1 hz]; exact hv
    ·exact hsz z (List.mem_of_mem_drop hz)
  have f6:(xs.take i++([v]++xs.drop i)).length=xs.length+1:=by simp; omega
  have f6' :(xs.take i++v::xs.drop i).length=xs.length+1:=f6;cases d2:decide ((cap:Int)<((xs.length+1:Nat):Int))
  ·have e2:=Uj d2
   simp -implicitDefEqProofs only [go_sem,wn,d2];refine ⟨by omega, ?_⟩
   simp -implicitDefEqProofs only [go_sem,wi];have hcs:aq xs++rest≠ []:=by
    intro e;have:=congrArg List.length e;rw [Uk,hfl] at this;simp at this;omega
   refine ⟨by omega,by omega,by omega,by omega,by omega,by omega, ?_⟩
   refine (Cc hv hid hcs).pthen ?_;simp -implicitDefEqProofs only [go_sem];refine .calls cW [0,1,2,3,4,5,6,7,8] (fun _ _ e=>by cases e) (by kernel_rfl) rfl ?_
   simp -implicitDefEqProofs only [go_sem,wi,hid,Nat.sub_zero];have hmin:min (xs.length+1 - i) (xs.length+1 - (i+1))=xs.length - i:=by omega
   refine ⟨by omega,by omega,by omega,by omega,by omega,by omega,xs.drop i,by rw [hmin,List.length_drop],by rw [hmin,Uk,hfl,hr]; omega, ?q1,fun z hz=>hsz z (List.mem_of_mem_drop hz),by rw [List.length_drop]; omega,by rw [Uk,hfl,hr]; omega,(by intro _ _ e; cases e),by omega,by omega,by omega,hv,by omega, ?ln, ?fin⟩
   case q1=>rw [hmin,f1,List.append_assoc,←f2,List.drop_left,←f3,List.take_left]
   case ln=>simp only [Uk,List.length_take,List.length_drop,hfl,hr,f3]; omega
   have hrl:(4:Nat)≤rest.length:=by rw [hr]; omega
   have hfv:aq [v]=v.cells:=by simp [aq]
   have key:=C2 (A:=aq (xs.take i)) (B:=aq (xs.drop i)) (C:=rest) (X:=aq [v]) (k1:=(i+1)*4) (k2:=(i+1)*4+(aq (xs.drop i)).length) (k3:=i*4) (k4:=i*4+(aq [v]).length) (by rw [hfv,hv,f2]; omega) rfl f2.symm rfl (by rw [hfv,hv]; exact hrl)
   rw [←List.append_assoc (aq (xs.take i)) (aq (xs.drop i)) rest,←f1] at key;rw [key];have e8:aq (xs.take i)++(aq [v]++(aq (xs.drop i)++rest.drop (aq [v]).length))=aq (xs.take i++([v]++xs.drop i))++rest.drop 4:=by rw [f4,hfv,hv]; simp only [List.append_assoc]
   rw [e8];refine .same (.refl _) ⟨.inr ⟨id,hg,cap,rest.drop 4,by rw [←f6]; rfl,ah _ _ _,by rw [List.length_drop,hr,f6']; omega,by have:=f6; simp only [List.cons_append,List.nil_append] at this; rw [this]; omega,f5⟩,fun k hk hk2=>ag _ _ fun e=>hk2 (by rw [e]; rfl),fun k hk=> .inr hk⟩
  ·have e2:=Ui d2
   simp -implicitDefEqProofs only [go_sem,wn,d2,wm];refine ⟨by omega, ?_⟩
   simp -implicitDefEqProofs only [go_sem,hid];have eA:List.take (i*4) (aq xs++rest)=aq (xs.take i):=by rw [f1,List.append_assoc,←f2,List.take_left]
   refine ⟨by omega,by omega,by omega,by omega,by omega,by omega,by rw [Uk,hfl]; omega, ?_⟩
   rw [Nat.sub_zero,eA];obtain ⟨Z,eZ⟩:∃Z,cB (AV.agg [AV.s [],AV.v (Value.int IntKind.i64 0),AV.v (Value.int IntKind.i64 0),AV.s []]) (xs.length+1 - i) 4=Z:=⟨_,rfl⟩;have lZ:Z.length=(xs.length+1 - i)*4:=by rw [←eZ]; simp [cB]
   rw [eZ];intro id2 cap2 rest2 hid2 hc2 hr2;have hx:¬id=id2:=fun e=>by rw [e,hid2] at hid; cases hid
   simp -implicitDefEqProofs only [go_sem];have hfv:aq [v]=v.cells:=by simp [aq]
   refine ⟨by omega,by omega,by omega,hv,by omega,by simp only [Uk,f2,lZ,hr2]; omega, ?_⟩
   refine .calls cW [0,1,2,3,4,5,6,7,8] (fun _ _ e=>by cases e) (by kernel_rfl) rfl ?_
   simp -implicitDefEqProofs only [go_sem,wi,hid,hx,Nat.sub_zero];have hmin:min (xs.length - i) (i+(xs.length+1 - i) - (i+1))=xs.length - i:=by omega
   have l0:(aq (xs.take i)++Z++rest2).length=(i+(xs.length+1 - i))*4+(cap2 - (i+(xs.length+1 - i)))*4:=by simp only [Uk,f2,lZ,hr2]; omega
   refine ⟨by omega,by omega,by omega,by omega,by omega,by omega,xs.drop i,by rw [hmin,List.length_drop],by rw [hmin,Uk,hfl,hr]; omega, ?q2,fun z hz=>hsz z (List.mem_of_mem_drop hz),by rw [List.length_drop]; omega, ?lm,(by intro _ _ e; cases e), ?fim⟩
   case q2=>rw [hmin,f1,List.append_assoc,←f2,List.drop_left,←f3,List.take_left]
   case lm=>rw [hfv]; simp only [Uk,List.length_take,List.length_drop,l0,hv]; omega
   rw [C3 f2.symm rfl (by rw [hfv,hv,f2]; omega) rfl (by rw [hfv,hv,lZ,f3]; omega)]
   have e8:aq (xs.take i)++(aq [v]++(aq (xs.drop i)++rest2))=aq (xs.take i++([v]++xs.drop i))++rest2:=by rw [f4,hfv]; simp only [List.append_assoc]
   rw [e8];have e9:i+(xs.length+1 - i)=xs.length+1:=by omega
   rw [e9] at hr2 hc2⊢;refine .same (.refl _) ⟨.inr ⟨id2,hs0.none hid2,cap2,rest2,by rw [←f6]; rfl,ah _ _ _,by rw [hr2,f6'],by rw [f6']; omega,f5⟩,fun k hk hk2=>ag _ _ fun e=>hk (by rw [e]; exact hid2),fun k hk=> .inl (by cases hk; exact hid2)⟩
end Go.Proofs.YtmlhcdeamjkpjaaGreatDoor
namespace Go.Ab
open Go
noncomputable def pick (H:Heap) (l:List Nat):Heap:=fun j=>if j∈l then H j else none
theorem bu {H:Heap} {l:List Nat} {j:Nat} (hj:j∈l):pick H l j=H j:=if_pos hj
theorem gJ {H h' :Heap} {l:List Nat} (hs:∀j∈l,h' j=H j):Sub (pick H l) h' :=fun j b hb=>by
 by_cases hj:j∈l
 ·rw [bu hj] at hb; rw [hs j hj]; exact hb
 ·rw [pick,if_neg hj] at hb; cases hb
theorem bJ {H:Heap} {l:List Nat}:Sub (pick H l) H:=gJ fun _ _=>rfl
end Go.Ab
namespace Go.Proofs.YtmlhcdeamjkpjaaGreatDoor
open Go Go.Ab Go.Bf
def bT (c:aK) (f l:AV):List AV:= [.s c.id, .s c.owner, .s c.state,f,l]
theorem pF {h0 h:Heap} {s:an} (y1 y2 y3 y4:AV) {k o:Nat} {A B:List AV} {t:TypeId} {c:aK} {f l:AV} (ho:o=A.length) (hk:h k=some (.obj (A++(bT c f l++B)) t)) (ht:t≠96)
  (hlo:OwE 96 h0 h 3 l (c.log.map gG)) (hs0:Ab.Sub h0 h) (hll:c.log.length≤1000000) (actor what:Txt):
  ak Tryz.prog 81 [.agg ([.v (.int .i64 s.tick),y1,y2,y3,y4]++fl s.policy++ [.v (.int .i64 s.version)]), .ptr k o, .s actor, .s what] h fun r h' =>∃l',OwE 96 h0 h' 3 l' ((c.log++ [(⟨s.tick,actor,what⟩:tW)]).map gG)∧h' k=some (.obj (A++(bT c f l' ++B)) t)∧(∀j,h j≠none→j≠k→nid l≠some j→h' j=h j)∧∀j,nid l' =some j→h j=none∨nid l=some j:=by
 cases hpp:s.policy with
 |mk pid pset palg ptgt prules pkids pobls=>
 have hcC:fl (.mk pid pset palg ptgt prules pkids pobls)= [.s pid, .v (.bool pset), .v (.int .i64 palg),aR ptgt, .sl (prules.map aA) .no, .sl (pkids.map aJ) .no,ax pobls]:=by simp [fl,aW]
 refine ak.body hU hm Tryz.func81 rfl (by kernel_rfl) 22 rfl [] rfl (Uf rfl) (fun hwf=> ?_)
 simp only [go_sem,hcC,List.cons_append,List.nil_append];intro i1 h1;simp only [go_sem];obtain ⟨H,eH⟩:∃H,upd h i1 (some (.obj [.v (.int .i64 s.tick),y1,y2,y3,y4, .s pid, .v (.bool pset), .v (.int .i64 palg),aR ptgt, .sl (prules.map aA) .no, .sl (pkids.map aJ) .no,ax pobls, .v (.int .i64 s.version)] 36))=H:=⟨_,rfl⟩;have n1k:k≠i1:=fun e=>by rw [e,h1] at hk; cases hk
 have g1:H i1=some (.obj [.v (.int .i64 s.tick),y1,y2,y3,y4, .s pid, .v (.bool pset), .v (.int .i64 palg),aR ptgt, .sl (prules.map aA) .no, .sl (pkids.map aJ) .no,ax pobls, .v (.int .i64 s.version)] 36):=by rw [←eH,ah]
 have gk:H k=some (.obj (A++(bT c f l++B)) t):=by rw [←eH,ag _ _ n1k]; exact hk
 have hH:Ab.Sub h H:=by rw [←eH]; exact (Sub.refl h).put h1 _
 have hoj:∀j,j≠i1→H j=h j:=fun j hj=>by rw [←eH]; exact ag _ _ hj
 rw [eH];clear eH;refine .stage (hm2 k (.obj (A++(bT c f l++B)) t) i1 (.obj [.v (.int .i64 s.tick),y1,y2,y3,y4, .s pid, .v (.bool pset), .v (.int .i64 palg),aR ptgt, .sl (prules.map aA) .no, .sl (pkids.map aJ) .no,ax pobls, .v (.int .i64 s.version)] 36)) [0,1,2,3,4,5,6,7,8,9,10,11,12,13] [14] (.hm2 gk g1) (by kernel_rfl) ?_
 have hc4:(A++(bT c f l++B))[o+4]? =some l:=by rw [ho,List.getElem?_append_right (by omega),Nat.add_sub_cancel_left]; rfl
 obtain ⟨CS,eCS⟩:∃CS,A++(bT c f l++B)=CS:=⟨_,rfl⟩;rw [eCS] at hc4 gk⊢;simp only [go_sem,qu,qt _ _ n1k,hc4];have hap1:Rd H 3 (.sl [gG ⟨s.tick,actor,what⟩] .full) [gG ⟨s.tick,actor,what⟩]:= .sl (by intro z hz; rw [List.mem_singleton.1 hz]; rfl) .full
 refine OwE.app (U:=U) (tb:=96) (hlo.sub hH) (hs0.trans hH) hap1 (by simp only [go_sem]) (by decide) (by simp only [go_sem,ne_eq,not_false_eq_true]) (by simp only [go_sem]) (by simp) (by simp only [go_sem,List.length_cons,List.length_nil,Ug]; omega) fun id2 y' h' g2 hor hw ho2=> ?_
 have hor' :H id2=none∨nid l=some id2:=by
  rcases hor with hor|⟨l,c,ey⟩
  ·exact .inl hor
  ·exact .inr (by rw [ey]; rfl)
 have k2:k≠id2:=by
  rcases hor' with hor|hor
  ·exact fun e=>by rw [←e,gk] at hor; cases hor
  ·exact (jV ((hlo.sub hH).nid hor).2.2 gk ht).symm
 have i2:i1≠id2:=by
  rcases hor' with hor|hor
  ·exact fun e=>by rw [←e,g1] at hor; cases hor
  ·exact fun e=>(hlo.nid hor).2.1 (by rw [←e]; exact h1)
 have gk' :=(ho2 k k2).trans gk;have gi' :=(ho2 i1 i2).trans g1;refine ⟨.hm2 gk' gi', ?_⟩;simp only [go_sem];refine ⟨cW,(fun _ _ e=>by cases e), ?_⟩
 simp only [go_sem,gk',hw.rd.fit,hw.rd.cells];have lCS:CS.length=A.length+(5+B.length):=by rw [←eCS]; simp [bT]; omega
 have e5:List.take (o+4) CS++ [y']++List.drop (o+4+1) CS=A++(bT c f y' ++B):=by
  have:=mc (A:=A++ [.s c.id, .s c.owner, .s c.state,f]) (B:= [l]) (C:=B) (X:= [y']) (k:=o+4) (m:=1) (by rw [ho]; simp) rfl rfl
  simp only [←eCS,bT,List.append_assoc,List.cons_append,List.nil_append] at this⊢;exact this
 rw [e5];refine ⟨by omega,(fun _ _ e=>by cases e), .same (.refl _) ⟨y', ?_,ah ..,fun j hj hjk hjl=> ?_,fun j hj=> ?_⟩⟩
 ·have hw' :Ow 96 (upd h' k (some (.obj (A++(bT c f y' ++B)) t))) 3 id2 y' (c.log.map gG++ [gG ⟨s.tick,actor,what⟩]):=hw.same (ag _ _ k2.symm)
  rw [List.map_append];exact .inr ⟨id2,g2,hw'⟩
 ·have hj2:j≠id2:=by
   rcases hor' with hor|hor
   ·intro e
    have:=hoj j (fun e' =>hj (by rw [e']; exact h1))
    rw [e,hor] at this;exact hj (by rw [e]; exact this.symm)
   ·exact fun e=>hjl (by rw [e]; exact hor)
  have hj1:j≠i1:=fun e=>hj (by rw [e]; exact h1)
  rw [ag _ _ hjk,ho2 j hj2,hoj j hj1]
 ·have:id2=j:=by have:=hw.nid; rw [hj] at this; exact (Option.some.inj this).symm
  rw [←this];rcases hor' with hor|hor
  ·refine .inl ?_
   cases hh:h id2 with
   |none=>rfl
   |some b=>rw [hH _ _ hh] at hor; cases hor
  ·exact .inr hor
theorem Ff {h:Heap} (f:cL) {k:Nat} {name:Txt} (hk:h k=some (.obj [.s name] 9)):ak Tryz.prog 131 [bE f, .ptr k 0] h fun r h' =>r= .v (.bool (geB f.name name))∧h' =h:=by
 refine ak.body hU hm Tryz.func131 rfl (by kernel_rfl) 8 rfl [.tmp 3] rfl (Uf rfl) (fun hwf=> ?_)
 simp only [go_sem,bE];intro i1 h1;have n1:k≠i1:=fun e=>by subst e; rw [hk] at h1; cases h1
 simp only [go_sem,aj,n1,hk];exact .mk _ (.refl _) (.ai h1) ⟨rfl,rfl⟩
theorem CC {fs:List cL} {name:Txt} {v:bR} (hx:¬fs.findIdx (fun f=>geB f.name name)<fs.length):dW fs name v=fs++ [⟨name,v⟩]:=by
 unfold dW;simp only [List.getElem?_eq_none (show fs.length≤fs.findIdx (fun f=>geB f.name name) by omega)]
theorem vQ {fs:List cL} {name:Txt} {v:bR} (hx:fs.findIdx (fun f=>geB f.name name)<fs.length) (he:fs[fs.findIdx (fun f=>geB f.name name)].name=name):dW fs name v=fs.set (fs.findIdx (fun f=>geB f.name name)) ⟨name,v⟩:=by
 unfold dW;simp only [List.getElem?_eq_getElem hx,he,if_true]
theorem CD {fs:List cL} {name:Txt} {v:bR} (hx:fs.findIdx (fun f=>geB f.name name)<fs.length) (he:fs[fs.findIdx (fun f=>geB f.name name)].name≠name):dW fs name v=fs.take (fs.findIdx (fun f=>geB f.name name))++ [⟨name,v⟩]++fs.drop (fs.findIdx (fun f=>geB f.name name)):=by
 unfold dW;simp only [List.getElem?_eq_getElem hx,he,if_false]
set_option maxRecDepth 100000 in
theorem HM {h0 h:Heap} {k o:Nat} {A B:List AV} {t:TypeId} {c:aK} {f l:AV} (ho:o=A.length) (hk:h k=some (.obj (A++(bT c f l++B)) t)) (ht:t≠131)
  (hfo:OwE 131 h0 h 4 f (c.fields.map bE)) (hs0:Ab.Sub h0 h) (hff:c.fields.length≤1000000) (name:Txt) (v:bR):
  ak Tryz.prog 83 [.ptr k o, .s name,aS v] h fun r h' =>∃f',OwE 131 h0 h' 4 f' ((dW c.fields name v).map bE)∧h' k=some (.obj (A++(bT c f' l++B)) t)∧(∀j,h j≠none→j≠k→nid f≠some j→h' j=h j)∧∀j,nid f' =some j→h j=none∨nid f=some j:=by
 have hc3:(A++(bT c f l++B))[o+3]? =some f:=by rw [ho,List.getElem?_append_right (by omega),Nat.add_sub_cancel_left]; rfl
 have lCS:(A++(bT c f l++B)).length=A.length+(5+B.length):=by simp [bT]; omega
 have e5:∀y',List.take (o+3) (A++(bT c f l++B))++ [y']++List.drop (o+3+1) (A++(bT c f l++B))=A++(bT c y' l++B):=fun y' =>by
  have:=mc (A:=A++ [.s c.id, .s c.owner, .s c.state]) (B:= [f]) (C:=l::B) (X:= [y']) (k:=o+3) (m:=1) (by rw [ho]; simp) rfl rfl
  simp only [bT,List.append_assoc,List.cons_append,List.nil_append] at this⊢;exact this
 obtain ⟨CS,eCS⟩:∃CS,A++(bT c f l++B)=CS:=⟨_,rfl⟩;rw [eCS] at hc3 hk lCS e5;refine ak.body hU hm Tryz.func83 rfl (by kernel_rfl) 60 rfl [] rfl (Uf rfl) (fun hwf=> ?_)
 simp only [go_sem,aS];intro i1 h1;simp only [go_sem];intro i2 h2;have n21:=aH h2;have n2:=aE h2;have nk1:k≠i1:=fun e=>by rw [e,h1] at hk; cases hk
 have nk2:k≠i2:=fun e=>by rw [e,n2] at hk; cases hk
 obtain ⟨H,eH⟩:∃H,upd (upd h i1 (some (.obj [.s name] 9))) i2 (some (.obj [.v (.int .i64 v.kind), .v (.int .i64 v.n), .s v.s] 42))=H:=⟨_,rfl⟩;have g1:H i1=some (.obj [.s name] 9):=by rw [←eH,ag _ _ n21.symm,ah]
 have g2:H i2=some (.obj [.v (.int .i64 v.kind), .v (.int .i64 v.n), .s v.s] 42):=by rw [←eH,ah]
 have gk:H k=some (.obj CS t):=by rw [←eH,ag _ _ nk2,ag _ _ nk1]; exact hk
 have hH:Ab.Sub h H:=by rw [←eH]; exact ((Sub.refl h).put h1 _).put n2 _
 have hoj:∀j,h j≠none→H j=h j:=fun j hj=>by rw [←eH,ag _ _ (fun e=>hj (by rw [e]; exact n2)),ag _ _ (fun e=>hj (by rw [e]; exact h1))]
 rw [eH];clear eH;simp only [go_sem,gk,hc3];refine (uN f _ c.fields (fun f=>geB f.name name) _ [.ptr i1 0] _ (hfo.sub hH).rd (by simp) (by simp; omega) (lY (fun _=>rfl) _) fun i a b=>by
  rw [Uh]; exact Ff _ g1).pthen ?_
 have hns:∀G,Ab.Sub cW G:=fun G _ _ e=>by cases e
 by_cases hx:c.fields.findIdx (fun f=>geB f.name name)<c.fields.length
 ·obtain ⟨i,ei⟩:∃i,c.fields.findIdx (fun f=>geB f.name name)=i:=⟨_,rfl⟩
  have hxm:i<(c.fields.map bE).length:=by rw [←ei]; simpa using hx
  have e1:ixD (fun f=>geB f.name name) c.fields=(i:Nat):=by rw [ixD,ei]; exact if_pos (by rw [←ei]; exact hx)
  have d1:decide (((i:Nat):Int)<0)=false:=decide_eq_false (by omega)
  rw [e1];simp only [go_sem,d1];refine ⟨.of (by kernel_rfl), ?_⟩
  simp only [go_sem,gk,hc3];refine (hfo.sub hH).rd.idx (e:=131) i rfl hxm Cz (by decide) fun p hp1=> ?_
  simp only [go_sem];refine hp1.field (f:=0) (off:=0) (t:=9) rfl E5 fun p2 hp2=> ?_
  have hld:=hp2.part (U:=U) (ty:=9) E5 (by rw [Uh,HD]; exact Uf rfl)
  simp only [go_sem,hld,Uh,bE,g1];have hxi:i<c.fields.length:=by rw [←ei]; exact hx
  cases d2:(c.fields[i].name==name)
  ·have hne:c.fields[i].name≠name:=by simpa using d2
   simp only [go_sem];refine .stage (pick H [k,i1,i2]) [0,1,2,3,4,5,6,7,8,9,10,11,12] [13] bJ (by kernel_rfl) ?_
   simp only [go_sem,bu (show k∈ [k,i1,i2] by simp),bu (show i1∈ [k,i1,i2] by simp),bu (show i2∈ [k,i1,i2] by simp),gk,g1,g2,hc3]
   refine (zY f _ (bE ⟨name,v⟩) i h0 H (hfo.sub hH) (hs0.trans hH) (by omega) (by simpa using hff) rfl (by simp [bE,Ab.fit])).mono fun f' H1 ⟨w1,fr,ap⟩=> ?_
   have nk:nid f≠some k:=fun e=>jV ((hfo.sub hH).nid e).2.2 gk ht rfl
   have n1' :nid f≠some i1:=fun e=>(hfo.nid e).2.1 h1
   have n2' :nid f≠some i2:=fun e=>(hfo.nid e).2.1 n2
   have gk' :H1 k=some (.obj CS t):=(fr k (by rw [gk]; simp) nk).trans gk
   refine ⟨gJ fun j hj=> ?_, ?_⟩
   ·simp only [List.mem_cons,List.not_mem_nil,or_false] at hj
    rcases hj with rfl|rfl|rfl
    ·exact fr _ (by rw [gk]; simp) nk
    ·exact fr _ (by rw [g1]; simp) n1'
    ·exact fr _ (by rw [g2]; simp) n2'
   simp only [go_sem];refine ⟨cW,hns _, ?_⟩;simp only [go_sem,gk',w1.rd.fit,w1.rd.cells];have hk2:nid f'≠some k:=fun e=>by
    rcases ap k e with h|h
    ·rw [gk] at h; cases h
    ·exact nk h
   have em:List.take i (c.fields.map bE)++([bE ⟨name,v⟩]++List.drop i (c.fields.map bE))=(dW c.fields name v).map bE:=by
    rw [CD hx (by simp only [ei]; exact hne),ei]
    simp [List.map_append,List.map_take,List.map_drop]
   rw [e5];rw [em] at w1;refine ⟨by omega,hns _, .same (.refl _) ⟨f',w1.keep fun id e=>ag _ _ fun e' =>hk2 (by rw [←e']; exact e),ah ..,fun j hj hjk hjl=> ?_,fun j hj=> ?_⟩⟩
   ·rw [ag _ _ hjk,fr j (by rw [hoj j hj]; exact hj) hjl,hoj j hj]
   ·rcases ap j hj with h|h
    ·exact .inl (hH.none h)
    ·exact .inr h
  ·have heq:c.fields[i].name=name:=by simpa using d2
   simp only [go_sem];refine ⟨.of (by kernel_rfl), ?_⟩
   simp only [go_sem,gk,g2,hc3];obtain ⟨id1,hg1,o1⟩:=(hfo.sub hH).ow (by intro e; rw [e] at hxm; cases hxm)
   have t1:id1≠k:=jV o1 gk ht;have o1' :=o1;obtain ⟨cap,rest,ey,hid,hr,hcap,hsz⟩:=o1';refine o1.idx (U:=U) (e:=131) i rfl hxm Cz (by decide) ?_
   simp only [go_sem,hid];have hxl:=Uh (f:=bE) (l:=c.fields) (i:=i) (h:=hxm);have e2:List.take (i*4+1) (aq (c.fields.map bE)++rest)++ [.v (.int .i64 v.kind), .v (.int .i64 v.n), .s v.s]++List.drop (i*4+1+3) (aq (c.fields.map bE)++rest)=aq ((dW c.fields name v).map bE)++rest:=by
    refine (jJ hsz i hxm 1 [.v (.int .i64 v.kind), .v (.int .i64 v.n), .s v.s] (Uf rfl)).trans ?_;rw [vQ hx (by simp only [ei]; exact heq),ei,List.map_set,hxl]
    have:AV.agg (over (bE c.fields[i]).cells 1 [.v (.int .i64 v.kind), .v (.int .i64 v.n), .s v.s])=bE ⟨name,v⟩:=by rw [←heq]; rfl
    rw [this]
   have lw:(dW c.fields name v).length=c.fields.length:=by rw [vQ hx (by simp only [ei]; exact heq),List.length_set]
   rw [e2];refine ⟨by rw [Uk,aU hsz]; omega, .same (.refl _) ⟨f, .inr ⟨id1,hg1,cap,rest,by rw [ey]; simp [lw],ah ..,by rw [hr]; simp [lw],by rw [Ug] at hcap⊢; omega,bh (f:=bE) (n:=4) (fun _=>rfl) _⟩,(ag _ _ t1.symm).trans (by rw [eCS]; exact gk),fun j hj hjk hjl=> ?_,fun j hj=> .inr hj⟩⟩
   have:j≠id1:=fun e=>hjl (by rw [e]; exact o1.nid)
   rw [ag _ _ this,hoj j hj]
 ·have e1:ixD (fun f=>geB f.name name) c.fields= -1:=by rw [ixD]; exact if_neg hx
  have d1:decide ((-1:Int)<0)=true:=rfl;rw [e1];simp only [go_sem,d1];refine .stage (pick H [k,i1,i2]) [0,1,2,3,4,5,6,7,8,9,10,11] [12] bJ (by kernel_rfl) ?_
  simp only [go_sem,bu (show k∈ [k,i1,i2] by simp),bu (show i1∈ [k,i1,i2] by simp),bu (show i2∈ [k,i1,i2] by simp),gk,g1,g2,hc3]
  have hap1:Rd H 4 (.sl [bE ⟨name,v⟩] .full) [bE ⟨name,v⟩]:= .sl (by intro z hz; rw [List.mem_singleton.1 hz]; rfl) .full
  refine OwE.app (U:=U) (tb:=131) (hfo.sub hH) (hs0.trans hH) hap1 (by simp only [go_sem]) (by decide) (by simp only [go_sem,ne_eq,not_false_eq_true]) (by simp only [go_sem]) (by simp) (by simp only [go_sem,List.length_cons,List.length_nil,Ug]; omega) fun id2 y' h' g3 hor hw ho2=> ?_
  have hor' :H id2=none∨nid f=some id2:=by
   rcases hor with hor|⟨l,c,ey⟩
   ·exact .inl hor
   ·exact .inr (by rw [ey]; rfl)
  have k2:k≠id2:=by
   rcases hor' with hor|hor
   ·exact fun e=>by rw [←e,gk] at hor; cases hor
   ·exact (jV ((hfo.sub hH).nid hor).2.2 gk ht).symm
  have j1:i1≠id2:=by
   rcases hor' with hor|hor
   ·exact fun e=>by rw [←e,g1] at hor; cases hor
   ·exact fun e=>(hfo.nid hor).2.1 (by rw [←e]; exact h1)
  have j2:i2≠id2:=by
   rcases hor' with hor|hor
   ·exact fun e=>by rw [←e,g2] at hor; cases hor
   ·exact fun e=>(hfo.nid hor).2.1 (by rw [←e]; exact n2)
  refine ⟨gJ fun j hj=>ho2 j ?_, ?_⟩
  ·simp only [List.mem_cons,List.not_mem_nil,or_false] at hj
   rcases hj with rfl|rfl|rfl
   ·exact k2
   ·exact j1
   ·exact j2
  have gk' :=(ho2 k k2).trans gk;simp only [go_sem];refine ⟨cW,hns _, ?_⟩;simp only [go_sem,gk',hw.rd.fit,hw.rd.cells];rw [e5,CC hx];refine ⟨by omega,hns _, .same (.refl _) ⟨y', ?_,ah ..,fun j hj hjk hjl=> ?_,fun j hj=> ?_⟩⟩
  ·have hw' :Ow 131 (upd h' k (some (.obj (A++(bT c y' l++B)) t))) 4 id2 y' (c.fields.map bE++ [bE ⟨name,v⟩]):=hw.same (ag _ _ k2.symm)
   rw [List.map_append];exact .inr ⟨id2,g3,hw'⟩
  ·have hj2:j≠id2:=by
    rcases hor' with hor|hor
    ·intro e
     have:=hoj j hj;rw [e,hor] at this;exact hj (by rw [e]; exact this.symm)
    ·exact fun e=>hjl (by rw [e]; exact hor)
   rw [ag _ _ hjk,ho2 j hj2,hoj j hj]
  ·have:id2=j:=by have:=hw.nid; rw [hj] at this; exact (Option.some.inj this).symm
   rw [←this];rcases hor' with hor|hor
   ·exact .inl (hH.none hor)
   ·exact .inr hor
theorem zi {cs:List aK} {id:Txt} (h:bG cs id=true):bl cs id=cs[findD cs id]'(gL h):=by
 unfold bl;rw [if_pos h,List.getD_eq_getElem?_getD,List.getElem?_eq_getElem (gL h)]; rfl
theorem zj {cs:List aK} {id:Txt} (h:bG cs id=false):bl cs id=kI:=by
 unfold bl;rw [if_neg (by simp [h])]
theorem j4 {g h:Heap} {p:Perm}:Frz g h (.sl [] p) (.sl [] .no):= .sl _ _ _ rfl (fun i h1=>by cases h1) (fun i h1=>by cases h1)
theorem zK {g h:Heap} (c:aK):Frz g h (bM c) (bM c):= .agg _ _ rfl fun j a b=>by
 rcases j with _|_|_|_|_|j
 ·exact .pure rfl
 ·exact .pure rfl
 ·exact .pure rfl
 ·exact .pure (show ct (fy c.fields)=true from bg (fun _=>rfl) c.fields)
 ·exact .pure (show ct (oQ c.log)=true from bg (fun _=>rfl) c.log)
 ·simp [ko] at a; omega
set_option maxRecDepth 100000 in
theorem tI {h:Heap} {x:AV} {s:an} (hb:RdS h x s) (id:Txt) (hf:Few s):ak Tryz.prog 27 [x, .s id] h fun r h' =>r= .tup [bM (bl s.cases id), .v (.bool (bG s.cases id))]∧h' =h:=
 ak.freeze fun g hg _=>by
 replace hb:=hb.sub hg;have hb0:=hb;obtain ⟨y1,y2,y3,y4,rfl,⟨xs,hc,hn,hcs⟩,h2,h3,h4⟩:=hb;cases hpp:s.policy with
 |mk pid pset palg ptgt prules pkids pobls=>
 have hcC:fl (.mk pid pset palg ptgt prules pkids pobls)= [.s pid, .v (.bool pset), .v (.int .i64 palg),aR ptgt, .sl (prules.map aA) .no, .sl (pkids.map aJ) .no,ax pobls]:=by simp [fl,aW]
 rw [hpp,hcC] at hb0;refine ak.body hU hm Tryz.func27 rfl (by kernel_rfl) 23 rfl [.cell 4 57, .tmp 5] rfl (Uf rfl) (fun hwf=> ?_)
 simp -implicitDefEqProofs only [go_sem,hcC,List.cons_append,List.nil_append];intro i1 h1;simp -implicitDefEqProofs only [go_sem];intro i2 h2';have n21:=aH h2';have n2:=aE h2';simp -implicitDefEqProofs only [go_sem,aj,n21.symm];have hs:∀a b,Ab.Sub g (upd (upd g i1 a) i2 b):=fun a b=>((Sub.refl g).put h1 a).put n2 b
 refine (yu (hb0.sub (hs _ _)) id hf.cases).pthen ?_;cases d1:bG s.cases id
 ·simp -implicitDefEqProofs only [go_sem]
  refine .mk _ (.refl _) (.refl _) ⟨hs _ _, .tup [.agg [.s [], .s [], .s [], .sl [] .no, .sl [] .no], .v (.bool false)], .tup _ _ rfl fun i a b=> ?_,by rw [zj d1]; rfl⟩
  rcases i with _|_|i
  ·refine .agg _ _ rfl fun j c d=> ?_
   rcases j with _|_|_|_|_|j
   ·exact .pure rfl
   ·exact .pure rfl
   ·exact .pure rfl
   ·exact j4
   ·exact j4
   ·simp at c; omega
  ·exact .pure rfl
  ·simp at a; omega
 ·have hlt:=gL d1
  have hltx:findD s.cases id<xs.length:=by omega
  obtain ⟨f,l,ex,hfl,hlg⟩:=hcs _ hltx hlt;simp -implicitDefEqProofs only [go_sem,aj,n21.symm];refine hc.idx (e:=57) (findD s.cases id) rfl hltx lp (by decide) fun p hp1=> ?_
  have hld:=fun a b=>(hp1.sub (hs a b)).all (U:=U) (ty:=57) (by simp only [go_sem]) (by rw [lp,ex]; rfl) (by simp only [go_sem]; rw [ex]; rfl)
  simp -implicitDefEqProofs only [go_sem,hld];refine (sR ((hcs _ hltx hlt).sub (hs _ _)) (hf.fields _ (Ul hlt)) (hf.log _ (Ul hlt))).pthen ?_;rw [←zi d1];simp -implicitDefEqProofs only [go_sem,bM,ko,fy,oQ];refine .mk _ (.refl _) (.refl _) ⟨hs _ _,_, .tup _ _ rfl fun i a b=> ?_,rfl⟩
  rcases i with _|_|i
  ·exact zK _
  ·exact .pure rfl
  ·simp at a; omega
set_option maxRecDepth 100000 in
theorem yN {h:Heap} {x:AV} {s:an} (hb:RdS h x s) (o:OpD) (hf:Few s):ak Tryz.prog 64 [x,opA o] h fun r h' =>r= .v (.int .i64 (bP s o))∧h' =h:=by
 have hb0:=hb;obtain ⟨y1,y2,y3,y4,rfl,⟨xs,hc,hn,hcs⟩,h2,h3,h4⟩:=hb;cases hpp:s.policy with
 |mk pid pset palg ptgt prules pkids pobls=>
 have hcC:fl (.mk pid pset palg ptgt prules pkids pobls)= [.s pid, .v (.bool pset), .v (.int .i64 palg),aR ptgt, .sl (prules.map aA) .no, .sl (pkids.map aJ) .no,ax pobls]:=by simp [fl,aW]
 rw [hpp,hcC] at hb0;refine ak.body hU hm Tryz.func64 rfl (by kernel_rfl) 67 rfl [.tmp 4] rfl (Uf rfl) (fun hwf=> ?_)
 simp -implicitDefEqProofs only [go_sem,hcC,opA,opC,List.cons_append,List.nil_append];intro i1 h1;simp -implicitDefEqProofs only [go_sem];intro i2 h2';have n21:=aH h2';have n2:=aE h2';simp -implicitDefEqProofs only [go_sem,aj,n21.symm];have hs:∀a b,Ab.Sub h (upd (upd h i1 a) i2 b):=fun a b=>((Sub.refl h).put h1 a).put n2 b
 refine (tI (hb0.sub (hs _ _)) o.case hf).pthen ?_;simp -implicitDefEqProofs only [go_sem,bM,ko,fy,oQ];intro i3 h3';have n32:=aH h3';have h3b:=aE h3';have n31:=aH h3b;have n3:=aE h3b;have hs3:∀a b d,Ab.Sub h (upd (upd (upd h i1 a) i2 b) i3 d):=fun a b d=>(((Sub.refl h).put h1 a).put n2 b).put n3 d
 have hA:=(fun a b d=>Sub.trans (Sub.refl h) (hs3 a b d))
 simp -implicitDefEqProofs only [go_sem,aj,n32.symm];have hfl:(bl s.cases o.case).fields.length≤1000000000:=by
  unfold bl;split
  ·rename_i ht
   have hlt:=gL ht;rw [List.getD_eq_getElem?_getD,List.getElem?_eq_getElem hlt];exact Nat.le_trans (hf.fields _ (Ul hlt)) (by decide)
  ·exact Nat.zero_le _
 cases d1:bG s.cases o.case
 ·simp -implicitDefEqProofs only [go_sem]
  exact .mk _ (.refl _) (hs3 _ _ _) ⟨by simp only [bP,d1]; rfl,rfl⟩
 ·simp -implicitDefEqProofs only [go_sem,aj,n32.symm]
  cases k3:(o.kind==3)
  ·have p3:o.kind≠3:=by simpa using k3
   simp -implicitDefEqProofs only [go_sem];cases k2:(o.kind==2)
   ·have p2:o.kind≠2:=by simpa using k2
    have k2n:(o.kind !=2)=true:=by simp [bne,k2]
    cases d256:decide ((256:Int)≤((bl s.cases o.case).log.length:Int))
    ·have p256:¬256≤(bl s.cases o.case).log.length:=by have:=Uj d256; omega
     simp -implicitDefEqProofs only [go_sem,aj,n32.symm,Ug,k3,k2n,d256];cases k4:(o.kind==4)
     ·have p4:o.kind≠4:=by simpa using k4
      simp -implicitDefEqProofs only [go_sem];exact .mk _ (.refl _) (hs3 _ _ _) ⟨by simp [bP,d1,p3,p2,p256,p4,au],rfl⟩
     ·have p4:o.kind=4:=by simpa using k4
      simp -implicitDefEqProofs only [go_sem,aj,n32.symm];refine (BM _ _ _).pthen ?_;cases dfo:jE (bl s.cases o.case).state o.to
      ·simp -implicitDefEqProofs only [go_sem]
       exact .mk _ (.refl _) (hs3 _ _ _) ⟨by simp [bP,d1,p256,p4,dfo,au],rfl⟩
      ·simp -implicitDefEqProofs only [go_sem]
       exact .mk _ (.refl _) (hs3 _ _ _) ⟨by simp [bP,d1,p256,p4,dfo,au],rfl⟩
    ·have p256:256≤(bl s.cases o.case).log.length:=by have:=Ui d256; omega
     simp -implicitDefEqProofs only [go_sem,Ug,k2n,d256];exact .mk _ (.refl _) (hs3 _ _ _) ⟨by simp [bP,d1,p3,p2,p256,au],rfl⟩
   ·have p2:o.kind=2:=by simpa using k2
    have k2n:(o.kind !=2)=false:=by simp [bne,k2]
    simp -implicitDefEqProofs only [go_sem,aj,n32.symm,k3,k2n];cases k4:(o.kind==4)
    ·have p4:o.kind≠4:=by simpa using k4
     simp -implicitDefEqProofs only [go_sem];exact .mk _ (.refl _) (hs3 _ _ _) ⟨by simp [bP,d1,p2,au],rfl⟩
    ·have p4:o.kind=4:=by simpa using k4
     omega
  ·have p3:o.kind=3:=by simpa using k3
   cases d16:decide ((16:Int)≤((bl s.cases o.case).fields.length:Int))
   ·have p16:¬16≤(bl s.cases o.case).fields.length:=by have:=Uj d16; omega
    simp -implicitDefEqProofs only [go_sem,Ug,d16];cases k2:(o.kind==2)
    ·have p2:o.kind≠2:=by simpa using k2
     have k2n:(o.kind !=2)=true:=by simp [bne,k2]
     cases d256:decide ((256:Int)≤((bl s.cases o.case).log.length:Int))
     ·have p256:¬256≤(bl s.cases o.case).log.length:=by have:=Uj d256; omega
      simp -implicitDefEqProofs only [go_sem,aj,n32.symm,Ug,k3,k2n,d256];cases dcl:((bl s.cases o.case).state==ga)
      ·have pcl:(bl s.cases o.case).state≠ga:=by simpa using dcl
       simp only [ga] at dcl;simp -implicitDefEqProofs only [go_sem,aj,n32.symm,dcl];cases k4:(o.kind==4)
       ·have p4:o.kind≠4:=by simpa using k4
        simp -implicitDefEqProofs only [go_sem];exact .mk _ (.refl _) (hs3 _ _ _) ⟨by simp [bP,d1,p3,p16,p256,pcl,au],rfl⟩
       ·have p4:o.kind=4:=by simpa using k4
        omega
      ·have pcl:(bl s.cases o.case).state=ga:=by simpa using dcl
       simp only [ga] at dcl;simp -implicitDefEqProofs only [go_sem,dcl];exact .mk _ (.refl _) (hs3 _ _ _) ⟨by simp [bP,d1,p3,p16,p256,pcl,au],rfl⟩
     ·have p256:256≤(bl s.cases o.case).log.length:=by have:=Ui d256; omega
      simp -implicitDefEqProofs only [go_sem,Ug,k2n,d256];exact .mk _ (.refl _) (hs3 _ _ _) ⟨by simp [bP,d1,p3,p16,p256,au],rfl⟩
    ·have p2:o.kind=2:=by simpa using k2
     omega
   ·have p16:16≤(bl s.cases o.case).fields.length:=by have:=Ui d16; omega
    simp -implicitDefEqProofs only [go_sem,aj,n32.symm,Ug,d16];refine (zF (show RdC _ (.agg [.s (bl s.cases o.case).id, .s (bl s.cases o.case).owner, .s (bl s.cases o.case).state,AV.sl ((bl s.cases o.case).fields.map bE) .no,AV.sl ((bl s.cases o.case).log.map gG) .no]) (bl s.cases o.case) from rdC _ _) o.field hfl).pthen ?_
    simp -implicitDefEqProofs only [go_sem,aS];cases dv:((dQ (bl s.cases o.case).fields o.field).kind==(0:Int) && ((dQ (bl s.cases o.case).fields o.field).n==(0:Int) && (dQ (bl s.cases o.case).fields o.field).s==([]:Txt)))
    ·have pv:eqV (dQ (bl s.cases o.case).fields o.field) az=false:=dv
     simp -implicitDefEqProofs only [go_sem];cases k2:(o.kind==2)
     ·have p2:o.kind≠2:=by simpa using k2
      have k2n:(o.kind !=2)=true:=by simp [bne,k2]
      cases d256:decide ((256:Int)≤((bl s.cases o.case).log.length:Int))
      ·have p256:¬256≤(bl s.cases o.case).log.length:=by have:=Uj d256; omega
       simp -implicitDefEqProofs only [go_sem,aj,n32.symm,Ug,k3,k2n,d256];cases dcl:((bl s.cases o.case).state==ga)
       ·have pcl:(bl s.cases o.case).state≠ga:=by simpa using dcl
        simp only [ga] at dcl;simp -implicitDefEqProofs only [go_sem,aj,n32.symm,dcl];cases k4:(o.kind==4)
        ·have p4:o.kind≠4:=by simpa using k4
         simp -implicitDefEqProofs only [go_sem];exact .mk _ (.refl _) (hs3 _ _ _) ⟨by simp [bP,d1,p3,p16,pv,p256,pcl,au],rfl⟩
        ·have p4:o.kind=4:=by simpa using k4
         omega
       ·have pcl:(bl s.cases o.case).state=ga:=by simpa using dcl
        simp only [ga] at dcl;simp -implicitDefEqProofs only [go_sem,dcl];exact .mk _ (.refl _) (hs3 _ _ _) ⟨by simp [bP,d1,p3,p16,pv,p256,pcl,au],rfl⟩
      ·have p256:256≤(bl s.cases o.case).log.length:=by have:=Ui d256; omega
       simp -implicitDefEqProofs only [go_sem,Ug,k2n,d256];exact .mk _ (.refl _) (hs3 _ _ _) ⟨by simp [bP,d1,p3,p16,pv,p256,au],rfl⟩
     ·have p2:o.kind=2:=by simpa using k2
      omega
    ·have pv:eqV (dQ (bl s.cases o.case).fields o.field) az=true:=dv
     simp -implicitDefEqProofs only [go_sem];exact .mk _ (.refl _) (hs3 _ _ _) ⟨by simp [bP,d1,p3,p16,pv,au],rfl⟩
set_option maxRecDepth 100000 in
theorem wz {h:Heap} {x:AV} {s:an} (hb:RdS h x s) (o:OpD) (hf:Few s) (h0:0<o.review) (hr:o.review≤9223372036854775807):ak Tryz.prog 65 [x,opA o] h fun r h' =>r= .v (.int .i64 (fj s o))∧h' =h:=by
 obtain ⟨y1,y2,y3,y4,rfl,⟨xs,hc,hn,hcs⟩,h2,h3,h4⟩:=hb;cases hpp:s.policy with
 |mk pid pset palg ptgt prules pkids pobls=>
 have hcC:fl (.mk pid pset palg ptgt prules pkids pobls)= [.s pid, .v (.bool pset), .v (.int .i64 palg),aR ptgt, .sl (prules.map aA) .no, .sl (pkids.map aJ) .no,ax pobls]:=by simp [fl,aW]
 have hfr:=hf.reviews;refine ak.body hU hm Tryz.func65 rfl (by kernel_rfl) 35 rfl [.tmp 4] rfl (Uf rfl) (fun hwf=> ?_)
 simp -implicitDefEqProofs only [go_sem,hcC,opA,opC,List.cons_append,List.nil_append];intro i1 h1;simp -implicitDefEqProofs only [go_sem];intro i2 h2';have n21:=aH h2';have n2:=aE h2';have hs:∀a b,Ab.Sub h (upd (upd h i1 a) i2 b):=fun a b=>((Sub.refl h).put h1 a).put n2 b
 simp -implicitDefEqProofs only [go_sem,aj,n21.symm,h2.len,Ug];obtain ⟨n,en⟩:∃n:Nat,o.review=((n:Nat):Int)+1:=⟨(o.review - 1).toNat,by omega⟩
 have e1:sU s.reviews o.review=s.reviews[n]? :=by
  unfold sU;rw [if_pos (by omega),show (o.review - 1).toNat=n by omega]
 have w1:IntKind.i64.wrap (o.review - 1)=((n:Nat):Int):=by rw [bz _ (by omega)]; omega
 cases dlt:decide ((s.reviews.length:Int)<o.review)
 ·have hlt:n<s.reviews.length:=by have:=Uj dlt; omega
  have hgl:sU s.reviews o.review=some s.reviews[n]:=by rw [e1,List.getElem?_eq_getElem hlt]
  simp -implicitDefEqProofs only [go_sem,aj,n21.symm,w1];refine h2.idx (e:=82) n rfl (by simpa using hlt) (by simp only [go_sem]) (by decide) fun p hp1=> ?_
  simp -implicitDefEqProofs only [go_sem];refine hp1.field (f:=6) (off:=6) (t:=4) rfl (by simp only [go_sem]) fun p2 hp2=> ?_
  have hld:=fun a b=>(hp2.sub (hs a b)).part (U:=U) (ty:=4) (by simp only [go_sem]) (by rw [Uh,show (U 4).sz=1 by simp only [go_sem]]; exact Uf rfl)
  simp -implicitDefEqProofs only [go_sem,hld,Uh,fP];cases dop:s.reviews[n].isOpen
  ·simp -implicitDefEqProofs only [go_sem]
   exact .mk _ (.refl _) (hs _ _) ⟨by simp [fj,hgl,dop,au],rfl⟩
  ·simp -implicitDefEqProofs only [go_sem,aj,n21.symm]
   refine ⟨.of (by kernel_rfl), ?_⟩
   simp -implicitDefEqProofs only [go_sem,w1];refine h2.idx (e:=82) n rfl (by simpa using hlt) (by simp only [go_sem]) (by decide) fun p hp1=> ?_
   simp -implicitDefEqProofs only [go_sem];refine hp1.field (f:=2) (off:=2) (t:=9) rfl E5 fun p2 hp2=> ?_
   have hld:=fun a b=>(hp2.sub (hs a b)).part (U:=U) (ty:=9) E5 (by rw [Uh,HD]; exact Uf rfl)
   simp -implicitDefEqProofs only [go_sem,hld,Uh,fP];cases dsu:(s.reviews[n].subj==o.subj)
   ·have psu:s.reviews[n].subj≠o.subj:=by simpa using dsu
    simp -implicitDefEqProofs only [go_sem];exact .mk _ (.refl _) (hs _ _) ⟨by simp [fj,hgl,dop,psu,au],rfl⟩
   ·have psu:s.reviews[n].subj=o.subj:=by simpa using dsu
    simp -implicitDefEqProofs only [go_sem];exact .mk _ (.refl _) (hs _ _) ⟨by simp [fj,hgl,dop,psu,au],rfl⟩
 ·have hge:¬n<s.reviews.length:=by have:=Ui dlt; omega
  have hgn:sU s.reviews o.review=none:=by rw [e1,List.getElem?_eq_none (by omega)]
  simp -implicitDefEqProofs only [go_sem];exact .mk _ (.refl _) (hs _ _) ⟨by simp [fj,hgn,au],rfl⟩
set_option maxRecDepth 100000 in
theorem AP {h:Heap} {x:AV} {s:an} (hb:RdS h x s) (o:OpD) (hf:Few s) (hr:i64 o.review) (ht:i64 s.tick):ak Tryz.prog 21 [x,opA o] h fun r h' =>r= .v (.int .i64 (bD s o))∧h' =h:=by
 have hb0:=hb;have hfo:=Iy o;have hrc:=fun (G:Heap) (hG:Ab.Sub h G)=>yN (hb.sub hG) o hf
 have hrl:=fun (G:Heap) (hG:Ab.Sub h G) (a:0<o.review)=>wz (hb.sub hG) o hf a hr.2
 have hfi:=fun (G:Heap) (hG:Ab.Sub h G)=>yu (hb.sub hG) o.case hf.cases
 have hha:=fun (G:Heap) (hG:Ab.Sub h G)=>BT (hb.sub hG) o.case o.field (Nat.le_trans hf.roles (by decide))
 obtain ⟨y1,y2,y3,y4,rfl,⟨xs,hc,hn,hcs⟩,h2,h3,h4⟩:=hb;cases hpp:s.policy with
 |mk pid pset palg ptgt prules pkids pobls=>
 have hcC:fl (.mk pid pset palg ptgt prules pkids pobls)= [.s pid, .v (.bool pset), .v (.int .i64 palg),aR ptgt, .sl (prules.map aA) .no, .sl (pkids.map aJ) .no,ax pobls]:=by simp [fl,aW]
 rw [hpp,hcC] at hb0 hrc hrl hfi hha;simp only [opA,opC,List.cons_append,List.nil_append] at hfo hrc hrl hfi hha;refine ak.body hU hm Tryz.func21 rfl (by kernel_rfl) 63 rfl [.tmp 4] rfl (Uf rfl) (fun hwf=> ?_)
 simp -implicitDefEqProofs only [go_sem,hcC,opA,opC,List.cons_append,List.nil_append];intro i1 h1;simp -implicitDefEqProofs only [go_sem];intro i2 h2';have n21:=aH h2';have n2:=aE h2';have hs:∀a b,Ab.Sub h (upd (upd h i1 a) i2 b):=fun a b=>((Sub.refl h).put h1 a).put n2 b
 simp -implicitDefEqProofs only [go_sem];refine (hfo _).pthen ?_;cases dform:fq o
 ·simp -implicitDefEqProofs only [go_sem]
  exact .mk _ (.refl _) (hs _ _) ⟨by simp [bD,dform,au],rfl⟩
 ·simp -implicitDefEqProofs only [go_sem]
  have hok:okD o=true:=by simp only [fq,cX,Bool.and_eq_true] at dform; exact dform.2.1.2
  by_cases p1:o.kind=1
  ·have k1:(o.kind==1)=true:=by simp [p1]
   simp -implicitDefEqProofs only [go_sem,aj,n21.symm,k1];refine (hfi _ (hs _ _)).pthen ?_;cases dth:bG s.cases o.case
   ·simp -implicitDefEqProofs only [go_sem,aj,n21.symm,hc.len,hn]
    cases d64:decide ((64:Int)≤(s.cases.length:Int))
    ·have p64:¬64≤s.cases.length:=by have:=Uj d64; omega
     simp -implicitDefEqProofs only [go_sem];exact .mk _ (.refl _) (hs _ _) ⟨by simp [bD,dform,p1,dth,p64,au],rfl⟩
    ·have p64:64≤s.cases.length:=by have:=Ui d64; omega
     simp -implicitDefEqProofs only [go_sem];exact .mk _ (.refl _) (hs _ _) ⟨by simp [bD,dform,p1,dth,p64,au],rfl⟩
   ·simp -implicitDefEqProofs only [go_sem]
    exact .mk _ (.refl _) (hs _ _) ⟨by simp [bD,dform,p1,dth,au],rfl⟩
  have k1:(o.kind==1)=false:=by simp [p1]
  simp -implicitDefEqProofs only [go_sem,k1]
  by_cases p2:o.kind=2
  ·have k2:(o.kind==2)=true:=by simp [p2]
   simp -implicitDefEqProofs only [go_sem,aj,n21.symm,k2];refine (hrc _ (hs _ _)).pthen ?_;simp -implicitDefEqProofs only [go_sem];exact .mk _ (.refl _) (hs _ _) ⟨by simp [bD,dform,p2,au],rfl⟩
  have k2:(o.kind==2)=false:=by simp [p2]
  simp -implicitDefEqProofs only [go_sem,k2]
  by_cases p3:o.kind=3
  ·have k3:(o.kind==3)=true:=by simp [p3]
   simp -implicitDefEqProofs only [go_sem,aj,n21.symm,k3];refine (hrc _ (hs _ _)).pthen ?_;simp -implicitDefEqProofs only [go_sem];exact .mk _ (.refl _) (hs _ _) ⟨by simp [bD,dform,p3,au],rfl⟩
  have k3:(o.kind==3)=false:=by simp [p3]
  simp -implicitDefEqProofs only [go_sem,k3]
  by_cases p4:o.kind=4
  ·have k4:(o.kind==4)=true:=by simp [p4]
   simp -implicitDefEqProofs only [go_sem,aj,n21.symm,k4];refine (hrc _ (hs _ _)).pthen ?_;simp -implicitDefEqProofs only [go_sem];exact .mk _ (.refl _) (hs _ _) ⟨by simp [bD,dform,p4,au],rfl⟩
  have k4:(o.kind==4)=false:=by simp [p4]
  simp -implicitDefEqProofs only [go_sem,k4]
  by_cases p5:o.kind=5
  ·have k5:(o.kind==5)=true:=by simp [p5]
   simp -implicitDefEqProofs only [go_sem,aj,n21.symm,k5];have hrv:0<o.review:=by simpa [okD,p5] using hok
   refine (hrl _ (hs _ _) hrv).pthen ?_;simp -implicitDefEqProofs only [go_sem];exact .mk _ (.refl _) (hs _ _) ⟨by simp [bD,dform,p5,au],rfl⟩
  have k5:(o.kind==5)=false:=by simp [p5]
  simp -implicitDefEqProofs only [go_sem,k5]
  by_cases p6:o.kind=6
  ·have k6:(o.kind==6)=true:=by simp [p6]
   simp -implicitDefEqProofs only [go_sem,aj,n21.symm,k6];simp -implicitDefEqProofs only [go_sem,h4.len,Ug];cases d64:decide ((64:Int)≤(s.roles.length:Int))
   ·have p64:¬64≤s.roles.length:=by have:=Uj d64; omega
    simp -implicitDefEqProofs only [go_sem];exact .mk _ (.refl _) (hs _ _) ⟨by simp [bD,dform,p6,p64,au],rfl⟩
   ·have p64:64≤s.roles.length:=by have:=Ui d64; omega
    simp -implicitDefEqProofs only [go_sem,aj,n21.symm];refine (hha _ (hs _ _)).pthen ?_;cases dha:uG s.roles ⟨o.case,o.field⟩
    ·simp -implicitDefEqProofs only [go_sem]
     exact .mk _ (.refl _) (hs _ _) ⟨by simp [bD,dform,p6,p64,dha,au],rfl⟩
    ·simp -implicitDefEqProofs only [go_sem]
     exact .mk _ (.refl _) (hs _ _) ⟨by simp [bD,dform,p6,p64,dha,au],rfl⟩
  have k6:(o.kind==6)=false:=by simp [p6]
  simp -implicitDefEqProofs only [go_sem,k6]
  by_cases p8:o.kind=8
  ·have k8:(o.kind==8)=true:=by simp [p8]
   simp -implicitDefEqProofs only [go_sem,aj,n21.symm,k8];have hrv:0<o.review∧o.review≤1099511627776:=by simpa [okD,p8] using hok
   have w1:IntKind.i64.wrap (1099511627776 - o.review)=1099511627776 - o.review:=bz _ (by omega)
   cases dt:decide (1099511627776 - o.review<s.tick)
   ·have pt:¬1099511627776 - o.review<s.tick:=Uj dt
    simp -implicitDefEqProofs only [go_sem,w1,dt];exact .mk _ (.refl _) (hs _ _) ⟨by simp [bD,dform,p8,pt,au],rfl⟩
   ·have pt:1099511627776 - o.review<s.tick:=Ui dt
    simp -implicitDefEqProofs only [go_sem,w1,dt];exact .mk _ (.refl _) (hs _ _) ⟨by simp [bD,dform,p8,pt,au],rfl⟩
  have k8:(o.kind==8)=false:=by simp [p8]
  simp -implicitDefEqProofs only [go_sem,k8];exact .mk _ (.refl _) (hs _ _) ⟨by have:¬(2≤o.kind∧o.kind≤4):=(by omega); simp only [bD,dform,p1,p5,p6,p8,this,if_false,Bool.true_eq_false,au],rfl⟩
end Go.Proofs.YtmlhcdeamjkpjaaGreatDoor
namespace Go.Bf
open Go Go.Ab
structure oN where
 kind:Int
 pos:Int
 n:Int
 s:Txt
def eY (t:oN):AV:= .agg [.v (.int .i64 t.kind), .v (.int .i64 t.pos), .v (.int .i64 t.n), .s t.s]
def wrd (c:UInt8):Bool:=ltr c||dgt c||(c.toNat:Int)==95
def mT (l:Txt):Nat:=l.foldl (fun n c=>n*10+(c.toNat - 48)) 0
def dV (neg:Bool) (s:Txt):Int×Nat:=
 let d:=s.takeWhile dgt
 if d= []∨(1<d.length∧s.head? =some 48) then (0,0) else
 let v:Int:=if neg then -(mT d:Int) else (mT d:Int)
 if -9223372036854775808≤v∧v≤9223372036854775807 then (v,d.length) else (0,0)
def iH (s:Txt):Txt:=if bn (s.takeWhile wrd) then s.takeWhile wrd else []
def ia (c:UInt8):Int:=if dgt c then (c.toNat:Int) - 48 else if 97≤(c.toNat:Int)∧(c.toNat:Int)≤102 then (c.toNat:Int) - 87 else -1
def qC:Txt→Option UInt8
 |b::x::y::_=>if b=92∧0≤ia x∧0≤ia y∧Ca (UInt8.ofNat (16*ia x+ia y).toNat)=true then some (UInt8.ofNat (16*ia x+ia y).toNat) else none
 |_=>none
def qS:Nat→Txt→Nat→Txt→Txt×Nat
 |0,_,_,_=>([],0)
 |_+1,[],_,_=>([],0)
 |f+1,c::r,at_,out=>
  if c=34 then (if 64<out.length then ([],0) else (out,at_+1))
  else if Ca c=false then qS f r (at_+1) (out++ [c])
  else match qC (c::r) with
   |some b=>qS f (r.drop 2) (at_+3) (out++ [b])
   |none=>([],0)
def vL (s:Txt):Txt×Nat:=qS s.length (s.drop 1) 1 []
def Aj (c:UInt8):Bool:=c∈([123,125,40,41,46,44,59,61,60,62,33]:Txt)
def bI (s:Txt):oN×Nat:=
 let c:=s.headD 0
 if ltr c then (⟨1,0,0,iH s⟩,(iH s).length)
 else if dgt c then (⟨2,0,(dV false s).1,[]⟩,(dV false s).2)
 else if c=45 then (⟨2,0,(dV true (s.drop 1)).1,[]⟩,if (dV true (s.drop 1)).1=0 then 0 else (dV true (s.drop 1)).2+1)
 else if c=64 then (⟨3,0,(dV false (s.drop 1)).1,[]⟩,if (dV false (s.drop 1)).2=0∨(dV false (s.drop 1)).1>1099511627776 then 0 else (dV false (s.drop 1)).2+1)
 else if c=35 then (⟨4,0,0,iH (s.drop 1)⟩,if iH (s.drop 1)= [] then 0 else (iH (s.drop 1)).length+1)
 else if c=34 then (⟨5,0,0,(vL s).1⟩,(vL s).2)
 else if Aj c then (⟨6,0,0,[c]⟩,1)
 else (⟨0,0,0,[]⟩,0)
inductive Lexed where
 |bad (e:Int) (at_:Int)
 |ok (l:List oN)
def mZ (c:UInt8):Bool:=(c.toNat:Int)==32||(c.toNat:Int)==10
def qA:Nat→Txt→Nat→List oN→Lexed
 |0,_,at_,_=> .bad 5 at_
 |_+1,[],at_,out=> .ok (out++ [⟨7,at_,0,[]⟩])
 |f+1,c::r,at_,out=>
  if mZ c then qA f r (at_+1) out
  else if (bI (c::r)).2=0 then .bad 5 at_
  else qA f ((c::r).drop (bI (c::r)).2) (at_+(bI (c::r)).2) (out++ [{(bI (c::r)).1 with pos:=at_}])
def pH (s:Txt):Lexed:=if s.length>4096 then .bad 6 4096 else qA (s.length+1) s 0 []
theorem gK (p:UInt8→Bool) (s:Txt):(s.takeWhile p).length≤s.length:=(List.takeWhile_prefix p).length_le
theorem om (p:UInt8→Bool) (s:Txt):s.take (s.takeWhile p).length=s.takeWhile p:=by
 obtain ⟨t,ht⟩:=List.takeWhile_prefix (l:=s) p;have:s.take (s.takeWhile p).length=(s.takeWhile p++t).take (s.takeWhile p).length:=by rw [ht]
 rw [this,List.take_left]
theorem mh (neg:Bool) (s:Txt):(dV neg s).2≤s.length:=by
 have:=gK dgt s;unfold dV;simp only;split
 ·exact Nat.zero_le _
 ·generalize (if neg=true then -(mT (s.takeWhile dgt):Int) else (mT (s.takeWhile dgt):Int))=v
  split
  ·exact this
  ·exact Nat.zero_le _
theorem qZ (s:Txt):(iH s).length≤s.length:=by
 have:=gK wrd s;unfold iH;split
 ·exact this
 ·simp
theorem Ap {s:Txt} {b:UInt8} (h:qC s=some b):3≤s.length:=by
 match s,h with
 |_::_::_::_,_=>simp
theorem vM:∀(f:Nat) (r:Txt) (at_:Nat) (out:Txt),(qS f r at_ out).2≤at_+r.length
 |0,_,_,_=>by simp [qS]
 |_+1,[],_,_=>by simp [qS]
 |f+1,c::r,at_,out=>by
  simp only [qS];split
  ·split<;>simp
  ·split
   ·have:=vM f r (at_+1) (out++ [c]); simp only [List.length_cons]; omega
   ·split
    ·rename_i b hb
     have h3:=Ap hb;have:=vM f (r.drop 2) (at_+3) (out++ [b]);simp only [List.length_cons,List.length_drop] at this h3⊢;omega
    ·simp
theorem pn (s:Txt) (hs:s≠ []):(bI s).2≤s.length:=by
 have h1:1≤s.length:=List.length_pos_iff.2 hs;have hd:(s.drop 1).length=s.length - 1:=by simp
 have k1:=qZ s;have k2:=qZ (s.drop 1);have k3:=mh false s;have k4:=mh false (s.drop 1);have k5:=mh true (s.drop 1);have k6:=vM s.length (s.drop 1) 1 [];unfold bI;simp only;split
 ·exact k1
 split
 ·exact k3
 split
 ·simp only; split<;>omega
 split
 ·simp only; split<;>omega
 split
 ·simp only; split<;>omega
 split
 ·simp only [vL]; omega
 split
 ·simp only; omega
 ·simp
structure PS where
 ts:List oN
 pos:Nat
 rules:Nat
 bad:Int
 place:Int
def aI (st:PS):oN:=st.ts.getD st.pos ⟨7,0,0,[]⟩
def bt (st:PS) (e p:Int):PS:=if st.bad=0 then {st with bad:=e,place:=p} else st
def aZ (st:PS):PS:=bt st 5 (aI st).pos
def bx (st:PS) (more:Bool):PS:=if more then bt st 6 (aI st).pos else st
def isD (st:PS) (s:Txt):Bool:=st.bad==0 && ((aI st).s==s && ((aI st).kind==1||(aI st).kind==6))
def aX (st:PS):PS:= {st with pos:=st.pos+1}
def cg (st:PS) (s:Txt):Bool×PS:=if isD st s=true then (true,aX st) else (false,st)
def dz (st:PS) (s:Txt):PS:=if isD st s=true then aX st else aZ st
def cc (st:PS):Txt×PS:=
 if (aI st).kind=1∧st.bad=0 then ((aI st).s,aX st) else ([],if (aI st).kind=1 then st else aZ st)
def rB (s:Txt):List Txt→Option Nat
 | []=>none
 |w::r=>if w=s then some 0 else (rB s r).map (· +1)
def aV (st:PS) (ws:List Txt):Int×PS:=match rB (aI st).s ws with
 |some i=>if (aI st).kind=1∧st.bad=0 then ((i:Int)+1,aX st) else (0,aZ st)
 |none=>(0,aZ st)
def WfP (st:PS):Prop:=st.pos<st.ts.length∧(∀i (h:i<st.ts.length),st.ts[i].kind≠7→i+1<st.ts.length)∧st.ts.length≤5000
theorem zW {st:PS} (h:st.pos<st.ts.length):aI st=st.ts[st.pos]:=by
 unfold aI; rw [List.getD_eq_getElem?_getD,List.getElem?_eq_getElem h]; rfl
theorem Fe {st:PS} (e p:Int) (h:WfP st):WfP (bt st e p):=by
 unfold bt; split<;>exact h
theorem HK {st:PS} (h:WfP st) (hk:(aI st).kind≠7):WfP (aX st):=by
 rw [zW h.1] at hk;exact ⟨h.2.1 _ h.1 hk,h.2⟩
theorem cy {st:PS} {s:Txt} (h:isD st s=true):(aI st).kind≠7:=by
 simp only [isD,Bool.and_eq_true,Bool.or_eq_true,beq_iff_eq] at h;obtain ⟨_,_,h|h⟩:=h<;>rw [h]<;>decide
def Ah (st st' :PS):Prop:=WfP st'∧st'.ts=st.ts∧st.pos≤st'.pos
theorem Ah.refl {st:PS} (h:WfP st):Ah st st:=⟨h,rfl,Nat.le_refl _⟩
theorem Ah.trans {a b c:PS} (x:Ah a b) (y:Ah b c):Ah a c:=⟨y.1,y.2.1.trans x.2.1,Nat.le_trans x.2.2 y.2.2⟩
theorem uc {st:PS} (e p:Int) (h:WfP st):Ah st (bt st e p):=⟨Fe e p h,by unfold bt; split<;>rfl,by unfold bt; split<;>exact Nat.le_refl _⟩
theorem dF {st:PS} (h:WfP st) (hk:(aI st).kind≠7):Ah st (aX st):=⟨HK h hk,rfl,Nat.le_succ _⟩
theorem kn {st:PS} (h:WfP st):Ah st (aZ st):=uc _ _ h
theorem jC {st:PS} (b:Bool) (h:WfP st):Ah st (bx st b):=by
 unfold bx; split
 ·exact uc _ _ h
 ·exact .refl h
theorem Ig {st:PS} (s:Txt) (h:WfP st):Ah st (cg st s).2:=by
 unfold cg; split
 ·rename_i hi; exact dF h (cy hi)
 ·exact .refl h
theorem gZ {st:PS} (s:Txt) (h:WfP st):Ah st (dz st s):=by
 unfold dz; split
 ·rename_i hi; exact dF h (cy hi)
 ·exact kn h
theorem kP {st:PS} (h:WfP st):Ah st (cc st).2:=by
 unfold cc; split
 ·rename_i hi; exact dF h (by rw [hi.1]; decide)
 ·simp only; split
  ·exact .refl h
  ·exact kn h
theorem fM {st:PS} (ws:List Txt) (h:WfP st):Ah st (aV st ws).2:=by
 unfold aV; split
 ·split
  ·rename_i hi; exact dF h (by rw [hi.1]; decide)
  ·exact kn h
 ·exact kn h
def so:List Txt:= [[115,117,98,106,101,99,116],[97,99,116,105,111,110],[99,97,115,101],[101,110,118]]
def fo (st:PS):mV×PS:=
 (⟨(aV st so).1,(cc (dz (aV st so).2 [46])).1,(cg (cc (dz (aV st so).2 [46])).2 [33]).1⟩,(cg (cc (dz (aV st so).2 [46])).2 [33]).2)
theorem yc {st:PS} (h:WfP st):Ah st (fo st).2:=by
 have h1:=fM so h;have h2:=gZ [46] h1.1;have h3:=kP h2.1;exact ((h1.trans h2).trans h3).trans (Ig [33] h3.1)
def tg:Txt:= [116,114,117,101]
def ny:Txt:= [102,97,108,115,101]
def fm (st:PS):bR×PS:=
 if (aI st).kind=2 then (⟨2,(aI st).n,(aI st).s⟩,st)
 else if (aI st).kind=3 then (⟨4,(aI st).n,(aI st).s⟩,st)
 else if (aI st).kind=4 then (⟨5,(aI st).n,(aI st).s⟩,st)
 else if (aI st).kind=5 then (⟨3,(aI st).n,(aI st).s⟩,st)
 else if isD st tg then (⟨1,1,[]⟩,st)
 else if isD st ny then (⟨1,0,[]⟩,st)
 else (⟨0,(aI st).n,(aI st).s⟩,aZ st)
def aB (st:PS):bR×PS:=if (fm st).2.bad=0 then ((fm st).1,aX (fm st).2) else (⟨0,0,[]⟩,(fm st).2)
theorem oK (st:PS):(aZ st).bad≠0:=by
 unfold aZ bt; split
 ·show (5:Int)≠0; decide
 ·assumption
theorem qW (st:PS):(fm st).2=st∧(aI st).kind≠7∨(fm st).2=aZ st:=by
 unfold fm;split
 ·rename_i h; exact .inl ⟨rfl,by rw [h]; decide⟩
 split
 ·rename_i h; exact .inl ⟨rfl,by rw [h]; decide⟩
 split
 ·rename_i h; exact .inl ⟨rfl,by rw [h]; decide⟩
 split
 ·rename_i h; exact .inl ⟨rfl,by rw [h]; decide⟩
 split
 ·rename_i h; exact .inl ⟨rfl,cy h⟩
 split
 ·rename_i h; exact .inl ⟨rfl,cy h⟩
 ·exact .inr rfl
theorem za {st:PS} (h:WfP st):Ah st (aB st).2:=by
 unfold aB;rcases qW st with ⟨e,hk⟩|e
 ·rw [e]; split
  ·exact dF h hk
  ·exact .refl h
 ·rw [e,if_neg (oK st)]; exact kn h
def opP (st:PS):Int×PS:=
 if isD st [61] then (1,aX st) else if isD st [60] then (2,aX st) else if isD st [62] then (3,aX st) else (0,aZ st)
theorem MV {st:PS} (h:WfP st):Ah st (opP st).2:=by
 unfold opP;split
 ·rename_i hi; exact dF h (cy hi)
 split
 ·rename_i hi; exact dF h (cy hi)
 split
 ·rename_i hi; exact dF h (cy hi)
 ·exact kn h
def fJ (st:PS):bH×PS:=(⟨(fo st).1,(opP (fo st).2).1,(aB (opP (fo st).2).2).1⟩,(aB (opP (fo st).2).2).2)
theorem mW {st:PS} (h:WfP st):Ah st (fJ st).2:=by
 have h1:=yc h;have h2:=MV h1.1;exact (h1.trans h2).trans (za h2.1)
def fh {α:Type} (one:PS→α×PS) (w:Txt) (most:Nat):Nat→PS→List α→List α×PS
 |0,st,l=>(l,st)
 |f+1,st,l=>if isD st w=true then fh one w most f (bx (one (aX st)).2 (decide (most<l.length+1))) (l++ [(one (aX st)).1]) else (l,st)
theorem pV {α:Type} {one:PS→α×PS} (ho:∀st,WfP st→Ah st (one st).2) (w:Txt) (most:Nat):∀(f:Nat) (st:PS) (l:List α),WfP st→Ah st (fh one w most f st l).2
 |0,st,l,h=> .refl h
 |f+1,st,l,h=>by
  unfold fh; split
  ·rename_i hi
   have h1:=dF h (cy hi);have h2:=ho _ h1.1;have h3:=jC (decide (most<l.length+1)) h2.1;exact ((h1.trans h2).trans h3).trans (pV ho w most f _ _ h3.1)
  ·exact .refl h
def orT:Txt:= [111,114]
def zc:Txt:= [97,110,100]
def Bb:Txt:= [119,104,101,110]
def mR (st:PS):List bH×PS:=fh fJ [44] 8 st.ts.length (fJ st).2 [(fJ st).1]
theorem ya {st:PS} (h:WfP st):Ah st (mR st).2:=(mW h).trans (pV (fun _ h=>mW h) _ _ _ _ _ (mW h).1)
def oO (st:PS):List (List bH)×PS:=
 let a:=mR (dz st [40])
 let m:=fh mR orT 8 st.ts.length a.2 [a.1]
 (m.1,dz m.2 [41])
theorem yb {st:PS} (h:WfP st):Ah st (oO st).2:=by
 have h0:=gZ [40] h;have h1:=ya h0.1;have h2:=pV (fun _ h=>ya h) orT 8 st.ts.length _ [(mR (dz st [40])).1] h1.1
 exact ((h0.trans h1).trans h2).trans (gZ [41] h2.1)
def fX (st:PS):fE×PS:=if isD st Bb=true then fh oO zc 8 st.ts.length (oO (aX st)).2 [(oO (aX st)).1] else ([],st)
theorem yg {st:PS} (h:WfP st):Ah st (fX st).2:=by
 unfold fX; split
 ·rename_i hi
  have h0:=dF h (cy hi);have h1:=yb h0.1;exact (h0.trans h1).trans (pV (fun _ h=>yb h) _ _ _ _ _ h1.1)
 ·exact .refl h
def jT:List Txt:= [[111,110,101],[115,105,122,101],[104,97,115],[101,113],[108,101,115,115],[97,100,100],[115,117,98],[109,117,108],[110,111,116],[97,110,100],[111,114]]
def opers (op:Int):List Bool:=if op=3∨op=4 then [true] else if op=5 then [true,false] else if op=11 then [false] else [false,false]
abbrev ExF:=PS→List aL→(List aL×Bool)×PS
def gx (ex:ExF) (st:PS) (l:List aL) (must:Bool):List aL×PS:=
 ((ex st l).1.1,if (ex st l).1.2=must then (ex st l).2 else bt (ex st l).2 5 (aI st).pos)
def iq (ex:ExF):List Bool→PS→List aL→List aL×PS
 | [],st,l=>(l,st)
 |b::bs,st,l=>if st.bad=0 then iq ex bs (gx ex st l b).2 (gx ex st l b).1 else (l,st)
def nD (ex:ExF) (st:PS) (l:List aL):(List aL×aL)×PS:=
 (((iq ex (opers (2+(aV st jT).1)) (aV st jT).2 l).1,⟨2+(aV st jT).1,⟨0,0,[]⟩,⟨0,[],false⟩⟩),dz (iq ex (opers (2+(aV st jT).1)) (aV st jT).2 l).2 [41])
def gW (ex:ExF) (st:PS) (l:List aL):(List aL×aL)×PS:=
 if isD st [40]=true then nD ex (aX st) l
 else if (aI st).kind=1∧(aI st).s≠tg∧(aI st).s≠ny then ((l,⟨2,⟨0,0,[]⟩,(fo st).1⟩),(fo st).2)
 else ((l,⟨1,(aB st).1,⟨0,[],false⟩⟩),(aB st).2)
def dM:Nat→ExF
 |0,st,l=>((l,false),st)
 |f+1,st,l=>(((gW (dM f) st l).1.1++ [(gW (dM f) st l).1.2],(gW (dM f) st l).1.2.op==2),bx (gW (dM f) st l).2 (decide (32<(gW (dM f) st l).1.1.length+1)))
def Be (ex:ExF):Prop:=∀st l,WfP st→Ah st (ex st l).2∧(ex st l).1.1.length+2*st.pos≤l.length+2*(ex st l).2.pos+1
theorem vh {ex:ExF} (he:Be ex) (st:PS) (l:List aL) (b:Bool) (h:WfP st):Ah st (gx ex st l b).2∧(gx ex st l b).1.length+2*st.pos≤l.length+2*(gx ex st l b).2.pos+1:=by
 obtain ⟨h1,h2⟩:=he st l h;unfold gx;simp only;split
 ·exact ⟨h1,h2⟩
 ·refine ⟨h1.trans (uc _ _ h1.1), ?_⟩
  have:(bt (ex st l).2 5 (aI st).pos).pos=(ex st l).2.pos:=by unfold bt; split<;>rfl
  rw [this]; exact h2
theorem xy {ex:ExF} (he:Be ex):∀(bs:List Bool) (st:PS) (l:List aL),WfP st→Ah st (iq ex bs st l).2∧(iq ex bs st l).1.length+2*st.pos≤l.length+2*(iq ex bs st l).2.pos+bs.length
 | [],st,l,h=>⟨.refl h,by simp [iq]⟩
 |b::bs,st,l,h=>by
  unfold iq; split
  ·obtain ⟨h1,h2⟩:=vh he st l b h
   obtain ⟨h3,h4⟩:=xy he bs (gx ex st l b).2 (gx ex st l b).1 h1.1;exact ⟨h1.trans h3,by simp only [List.length_cons]; omega⟩
  ·exact ⟨.refl h,by simp only [List.length_cons]; omega⟩
theorem Au (op:Int):(opers op).length≤2:=by
 unfold opers; repeat' split
 all_goals simp
theorem F3 {ex:ExF} (he:Be ex) (st:PS) (l:List aL) (h:WfP st):Ah st (nD ex st l).2∧(nD ex st l).1.1.length+2*st.pos≤l.length+2*(nD ex st l).2.pos+2:=by
 have h1:=fM jT h;obtain ⟨h2,h3⟩:=xy he (opers (2+(aV st jT).1)) _ l h1.1;have h4:=gZ [41] h2.1;have:=Au (2+(aV st jT).1);have p1:=h1.2.2;have p4:=h4.2.2;unfold nD;exact ⟨(h1.trans h2).trans h4,by simp only; omega⟩
theorem zV {ex:ExF} (he:Be ex) (st:PS) (l:List aL) (h:WfP st):Ah st (gW ex st l).2∧(gW ex st l).1.1.length+2*st.pos≤l.length+2*(gW ex st l).2.pos:=by
 unfold gW; split
 ·rename_i hi
  have h1:=dF h (cy hi);obtain ⟨h2,h3⟩:=F3 he _ l h1.1;have:(aX st).pos=st.pos+1:=rfl;exact ⟨h1.trans h2,by omega⟩
 ·split
  ·have h1:=yc h
   have:=h1.2.2;exact ⟨h1,by simp only; omega⟩
  ·have h1:=za h
   have:=h1.2.2;exact ⟨h1,by simp only; omega⟩
theorem nw:∀f,Be (dM f)
 |0=>fun st l h=>⟨.refl h,by simp [dM]⟩
 |f+1=>fun st l h=>by
  obtain ⟨h1,h2⟩:=zV (nw f) st l h;have h3:=jC (decide (32<(gW (dM f) st l).1.1.length+1)) h1.1;have:=h3.2.2;refine ⟨h1.trans h3, ?_⟩;simp only [dM,Uk,List.length_singleton];omega
def rK:List Txt:= [[112,101,114,109,105,116],[100,101,110,121]]
def kq:List Txt:= [[108,111,103],[114,101,100,97,99,116],[114,101,118,105,101,119],[110,111,116,105,102,121]]
def sP:Txt:= [111,110]
def vg (st:PS):cr×PS:=
 (⟨(aV st rK).1,(aV (aV st rK).2 kq).1,(cc (aV (aV st rK).2 kq).2).1⟩,(cc (aV (aV st rK).2 kq).2).2)
theorem FA {st:PS} (h:WfP st):Ah st (vg st).2:=by
 have h1:=fM rK h;have h2:=fM kq h1.1;exact (h1.trans h2).trans (kP h2.1)
def fG (st:PS):List cr×PS:=fh vg sP 8 st.ts.length st []
theorem ye {st:PS} (h:WfP st):Ah st (fG st).2:=pV (fun _ h=>FA h) _ _ _ _ _ h
inductive Rch (a:PS):PS→Prop where
 |refl:Rch a a
 |wrong {b:PS} (e p:Int):Rch a b→(e=5∨e=6)→(∃i,i≤b.pos∧p=(b.ts.getD i ⟨7,0,0,[]⟩).pos)→Rch a (bt b e p)
 |next {b:PS}:Rch a b→b.bad=0→(aI b).kind≠7→Rch a (aX b)
theorem Rch.trans {a b c:PS} (x:Rch a b) (y:Rch b c):Rch a c:=by
 induction y with
 |refl=>exact x
 |wrong e p _ h1 h2 ih=>exact .wrong e p ih h1 h2
 |next _ h1 h2 ih=>exact .next ih h1 h2
theorem jq (st:PS):Rch st (aZ st):= .wrong _ _ .refl (.inl rfl) ⟨st.pos,Nat.le_refl _,rfl⟩
theorem oI (st:PS) (b:Bool):Rch st (bx st b):=by
 unfold bx; split
 ·exact .wrong _ _ .refl (.inr rfl) ⟨st.pos,Nat.le_refl _,rfl⟩
 ·exact .refl
theorem yC {st:PS} {s:Txt} (h:isD st s=true):st.bad=0:=by
 simp only [isD,Bool.and_eq_true,beq_iff_eq] at h; exact h.1
theorem mC {st:PS} {s:Txt} (h:isD st s=true):Rch st (aX st):= .next .refl (yC h) (cy h)
theorem GX (st:PS) (s:Txt):Rch st (cg st s).2:=by
 unfold cg; split
 ·rename_i h; exact mC h
 ·exact .refl
theorem kG (st:PS) (s:Txt):Rch st (dz st s):=by
 unfold dz; split
 ·rename_i h; exact mC h
 ·exact jq _
theorem qO (st:PS):Rch st (cc st).2:=by
 unfold cc; split
 ·rename_i h; exact .next .refl h.2 (by rw [h.1]; decide)
 ·simp only; split
  ·exact .refl
  ·exact jq _
theorem j9 (st:PS) (ws:List Txt):Rch st (aV st ws).2:=by
 unfold aV; split
 ·split
  ·rename_i h; exact .next .refl h.2 (by rw [h.1]; decide)
  ·exact jq _
 ·exact jq _
theorem AI (st:PS):Rch st (fo st).2:=(((j9 st so).trans (kG _ [46])).trans (qO _)).trans (GX _ [33])
theorem xH (st:PS):Rch st (aB st).2:=by
 unfold aB;rcases qW st with ⟨e,hk⟩|e
 ·rw [e]; split
  ·rename_i h; exact .next .refl h hk
  ·exact .refl
 ·rw [e,if_neg (oK st)]; exact jq st
theorem Lt (st:PS):Rch st (opP st).2:=by
 unfold opP;split
 ·rename_i h; exact mC h
 split
 ·rename_i h; exact mC h
 split
 ·rename_i h; exact mC h
 ·exact jq _
theorem xF (st:PS):Rch st (fJ st).2:=((AI st).trans (Lt _)).trans (xH _)
theorem nZ {α:Type} {one:PS→α×PS} (ho:∀st,Rch st (one st).2) (w:Txt) (most:Nat):∀(f:Nat) (st:PS) (l:List α),Rch st (fh one w most f st l).2
 |0,st,l=> .refl
 |f+1,st,l=>by
  unfold fh; split
  ·rename_i h
   exact (((mC h).trans (ho _)).trans (oI _ _)).trans (nZ ho w most f _ _)
  ·exact .refl
theorem Dk (st:PS):Rch st (mR st).2:=(xF st).trans (nZ xF _ _ _ _ _)
theorem Dl (st:PS):Rch st (oO st).2:=(((kG st [40]).trans (Dk _)).trans (nZ Dk orT 8 st.ts.length _ [(mR (dz st [40])).1])).trans (kG _ [41])
theorem Dm (st:PS):Rch st (fX st).2:=by
 unfold fX; split
 ·rename_i h; exact ((mC h).trans (Dl _)).trans (nZ Dl _ _ _ _ _)
 ·exact .refl
theorem I3 (st:PS):Rch st (vg st).2:=((j9 st rK).trans (j9 _ kq)).trans (qO _)
theorem AM (st:PS):Rch st (fG st).2:=nZ I3 _ _ _ _ _
theorem oJ {a b:PS} (h:Rch a b):b.ts=a.ts∧a.pos≤b.pos∧b.rules=a.rules:=by
 induction h with
 |refl=>exact ⟨rfl,Nat.le_refl _,rfl⟩
 |wrong e p _ _ _ ih=>
  unfold bt; split
  ·exact ih
  ·exact ih
 |next _ _ _ ih=>exact ⟨ih.1,Nat.le_succ_of_le ih.2.1,ih.2.2⟩
theorem AN {ex:ExF} (he:∀st l,Rch st (ex st l).2) (st:PS) (l:List aL) (b:Bool):Rch st (gx ex st l b).2:=by
 unfold gx; simp only; split
 ·exact he st l
 ·have:=oJ (he st l)
  exact .wrong _ _ (he st l) (.inl rfl) ⟨st.pos,this.2.1,by rw [this.1]; rfl⟩
theorem xG {ex:ExF} (he:∀st l,Rch st (ex st l).2):∀(bs:List Bool) (st:PS) (l:List aL),Rch st (iq ex bs st l).2
 | [],st,l=> .refl
 |b::bs,st,l=>by
  unfold iq; split
  ·exact (AN he st l b).trans (xG he bs _ _)
  ·exact .refl
theorem AJ:∀(f:Nat) (st:PS) (l:List aL),Rch st (dM f st l).2
 |0,st,l=> .refl
 |f+1,st,l=>by
  refine Rch.trans ?_ (oI _ _);unfold gW; split
  ·rename_i h
   exact (mC h).trans (((j9 _ jT).trans (xG (AJ f) _ _ _)).trans (kG _ [41]))
  ·split
   ·exact AI st
   ·exact xH st
def ifT:Txt:= [105,102]
def mw:Txt:= [112,101,114,109,105,116]
def gT:Txt:= [100,101,110,121]
def mz:Txt:= [112,111,108,105,99,121]
def Cj:Txt:= [115,101,116]
def kC:List Txt:= [mz,Cj]
def ud:List Txt:= [[100,101,110,121,111,118,101,114],[112,101,114,109,105,116,111,118,101,114],[102,105,114,115,116],[111,110,108,121],[100,101,110,121,117,110,108,101,115,115],[112,101,114,109,105,116,117,110,108,101,115,115]]
def nq (st:PS):List aL×PS:=if isD st ifT=true then gx (dM st.ts.length) (aX st) [] false else ([],st)
theorem GW (st:PS):Rch st (nq st).2:=by
 unfold nq; split
 ·rename_i h; exact (mC h).trans (AN (AJ _) _ _ _)
 ·exact .refl
theorem CG {st:PS} (h:WfP st):Ah st (nq st).2:=by
 unfold nq; split
 ·rename_i hi
  have h1:=dF h (cy hi);exact h1.trans (vh (nw _) _ _ _ h1.1).1
 ·exact .refl h
def mQ (deny:Bool) (st:PS):cH×PS:=
 (⟨(cc st).1,deny,(fX (cc st).2).1,(nq (fX (cc st).2).2).1,(fG (nq (fX (cc st).2).2).2).1⟩,dz (fG (nq (fX (cc st).2).2).2).2 [59])
theorem vv (deny:Bool) (st:PS):Rch st (mQ deny st).2:=((((qO st).trans (Dm _)).trans (GW _)).trans (AM _)).trans (kG _ [59])
theorem yf (deny:Bool) {st:PS} (h:WfP st):Ah st (mQ deny st).2:=by
 have h1:=kP h;have h2:=yg h1.1;have h3:=CG h2.1;have h4:=ye h3.1;exact (((h1.trans h2).trans h3).trans h4).trans (gZ [59] h4.1)
inductive lB (a:PS):PS→Prop where
 |refl:lB a a
 |small {b c:PS}:lB a b→Rch b c→lB a c
 |rule {b:PS}:lB a b→b.bad=0→b.rules≠64→(aI b).kind≠7→lB a {aX b with rules:=b.rules+1}
theorem lB.trans {a b c:PS} (x:lB a b) (y:lB b c):lB a c:=by
 induction y with
 |refl=>exact x
 |small _ h1 ih=>exact .small ih h1
 |rule _ h1 h2 h3 ih=>exact .rule ih h1 h2 h3
theorem Rch.big {a b:PS} (h:Rch a b):lB a b:= .small .refl h
def iU:Nat→PS→List cH→List cH×PS
 |0,st,l=>(l,st)
 |f+1,st,l=>if isD st mw=true∨isD st gT=true then
   if l.length=16∨st.rules=64 then (l,bx st true)
   else iU f (mQ (isD st gT) {aX st with rules:=st.rules+1}).2 (l++ [(mQ (isD st gT) {aX st with rules:=st.rules+1}).1])
  else (l,st)
abbrev PoF:=PS→bB×PS
def iO (pol:PoF) (deep:Bool):Nat→PS→List bB→List bB×PS
 |0,st,l=>(l,st)
 |f+1,st,l=>if isD st mz=true∨isD st Cj=true then
   if l.length=16∨deep=true then (l,bx st true)
   else iO pol deep f (pol st).2 (l++ [(pol st).1])
  else (l,st)
def cJ (st:PS):(Bool×Txt×Int×fE)×PS:=
 (((aV st kC).1==2,(cc (aV st kC).2).1,(aV (cc (aV st kC).2).2 ud).1,(fX (aV (cc (aV st kC).2).2 ud).2).1),dz (fX (aV (cc (aV st kC).2).2 ud).2).2 [123])
theorem AK (st:PS):Rch st (cJ st).2:=((((j9 st kC).trans (qO _)).trans (j9 _ ud)).trans (Dm _)).trans (kG _ [123])
theorem Ie {st:PS} (h:WfP st):Ah st (cJ st).2:=by
 have h1:=fM kC h;have h2:=kP h1.1;have h3:=fM ud h2.1;have h4:=yg h3.1;exact (((h1.trans h2).trans h3).trans h4).trans (gZ [123] h4.1)
def mN (pol:PoF) (deep:Bool) (set:Bool) (st:PS):(List cH×List bB)×PS:=
 if set=true then (([],(iO pol deep 17 st []).1),(iO pol deep 17 st []).2) else (((iU 17 st []).1,[]),(iU 17 st []).2)
def fO:Nat→PoF
 |0,st=>(.mk [] false 0 [] [] [] [],st)
 |r+1,st=>(.mk (cJ st).1.2.1 (cJ st).1.1 (cJ st).1.2.2.1 (cJ st).1.2.2.2 (mN (fO r) (r==0) (cJ st).1.1 (cJ st).2).1.1 (mN (fO r) (r==0) (cJ st).1.1 (cJ st).2).1.2
   (fG (dz (mN (fO r) (r==0) (cJ st).1.1 (cJ st).2).2 [125])).1,(fG (dz (mN (fO r) (r==0) (cJ st).1.1 (cJ st).2).2 [125])).2)
theorem kr {st:PS} {a b:Txt} (h:isD st a=true∨isD st b=true):st.bad=0∧(aI st).kind≠7:=by
 rcases h with h|h
 ·exact ⟨yC h,cy h⟩
 ·exact ⟨yC h,cy h⟩
theorem ua {st:PS} (h:WfP st) (hk:(aI st).kind≠7):Ah st {aX st with rules:=st.rules+1}:=dF h hk
theorem CI:∀(f:Nat) (st:PS) (l:List cH),WfP st→Ah st (iU f st l).2
 |0,st,l,h=> .refl h
 |f+1,st,l,h=>by
  unfold iU; split
  ·rename_i hi
   split
   ·exact jC true h
   ·have h1:=ua h (kr hi).2
    have h2:=yf (isD st gT) h1.1;exact (h1.trans h2).trans (CI f _ _ h2.1)
  ·exact .refl h
theorem AO:∀(f:Nat) (st:PS) (l:List cH),lB st (iU f st l).2
 |0,st,l=> .refl
 |f+1,st,l=>by
  unfold iU; split
  ·rename_i hi
   split
   ·exact (oI st true).big
   ·rename_i hn
    have h1:lB st {aX st with rules:=st.rules+1}:= .rule .refl (kr hi).1 (fun e=>hn (.inr e)) (kr hi).2
    exact (h1.trans (vv (isD st gT) _).big).trans (AO f _ _)
  ·exact .refl
theorem CH {pol:PoF} (hp:∀st,WfP st→Ah st (pol st).2) (deep:Bool):∀(f:Nat) (st:PS) (l:List bB),WfP st→Ah st (iO pol deep f st l).2
 |0,st,l,h=> .refl h
 |f+1,st,l,h=>by
  unfold iO; split
  ·split
   ·exact jC true h
   ·have h1:=hp st h
    exact h1.trans (CH hp deep f _ _ h1.1)
  ·exact .refl h
theorem AL {pol:PoF} (hp:∀st,lB st (pol st).2) (deep:Bool):∀(f:Nat) (st:PS) (l:List bB),lB st (iO pol deep f st l).2
 |0,st,l=> .refl
 |f+1,st,l=>by
  unfold iO; split
  ·split
   ·exact (oI st true).big
   ·exact (hp st).trans (AL hp deep f _ _)
  ·exact .refl
theorem yd {pol:PoF} (hp:∀st,WfP st→Ah st (pol st).2) (deep set:Bool) {st:PS} (h:WfP st):Ah st (mN pol deep set st).2:=by
 unfold mN; split
 ·exact CH hp deep _ _ _ h
 ·exact CI _ _ _ h
theorem GV {pol:PoF} (hp:∀st,lB st (pol st).2) (deep set:Bool) (st:PS):lB st (mN pol deep set st).2:=by
 unfold mN; split
 ·exact AL hp deep _ _ _
 ·exact AO _ _ _
theorem tZ:∀(r:Nat) (st:PS),WfP st→Ah st (fO r st).2
 |0,st,h=> .refl h
 |r+1,st,h=>by
  have h1:=Ie h;have h2:=yd (tZ r) (r==0) (cJ st).1.1 h1.1;have h3:=gZ [125] h2.1;exact ((h1.trans h2).trans h3).trans (ye h3.1)
theorem yM:∀(r:Nat) (st:PS),lB st (fO r st).2
 |0,st=> .refl
 |r+1,st=>(((AK st).big.trans (GV (yM r) _ _ _)).trans (kG _ [125]).big).trans (AM _).big
theorem rQ {a b:PS} (h:lB a b) (h0:a.rules≤64):b.rules≤64:=by
 induction h with
 |refl=>exact h0
 |small _ h1 ih=>rw [(oJ h1).2.2]; exact ih
 |rule _ _ h2 _ ih=>show _+1≤64; omega
theorem rF:∀(f:Nat) (s:Txt) (a:Nat) (out l:List oN),qA f s a out= .ok l→∃pre,l=out++pre++ [⟨7,(a+s.length:Nat),0,[]⟩]∧pre.length≤s.length∧∀t∈pre,(a:Int)≤t.pos∧t.pos<((a+s.length:Nat):Int)
 |0,_,_,_,_,h=>by simp [qA] at h
 |f+1,[],a,out,l,h=>by
  simp only [qA,Lexed.ok.injEq] at h;exact ⟨[],by simp [←h],by simp,by simp⟩
 |f+1,c::r,a,out,l,h=>by
  simp only [qA] at h;split at h
  ·obtain ⟨pre,e1,e2,e3⟩:=rF f r (a+1) out l h
   have ee:((a+1+r.length:Nat):Int)=((a+(c::r).length:Nat):Int):=by simp only [List.length_cons]; omega
   refine ⟨pre,by rw [e1,ee],by simp only [List.length_cons]; omega,fun t ht=> ?_⟩
   have:=e3 t ht;rw [ee] at this;exact ⟨by omega,this.2⟩
  ·split at h
   ·cases h
   ·rename_i hn
    have hle:=pn (c::r) (by simp)
    obtain ⟨pre,e1,e2,e3⟩:=rF f _ _ _ l h;have ee:((a+(bI (c::r)).2+((c::r).drop (bI (c::r)).2).length:Nat):Int)=((a+(c::r).length:Nat):Int):=by rw [List.length_drop]; omega
    refine ⟨{(bI (c::r)).1 with pos:=a}::pre,by rw [e1,ee]; simp,by rw [List.length_drop] at e2; simp only [List.length_cons] at e2 hle⊢; omega,fun t ht=> ?_⟩
    rcases List.mem_cons.1 ht with rfl|ht
    ·refine ⟨Int.le_refl _, ?_⟩
     show (a:Int)<_
     simp only [List.length_cons]; omega
    ·have:=e3 t ht
     rw [ee] at this;exact ⟨by omega,this.2⟩
theorem xp {s:Txt} {ts:List oN} (h:pH s= .ok ts):∃pre,ts=pre++ [⟨7,s.length,0,[]⟩]∧pre.length≤s.length∧(∀t∈pre,0≤t.pos∧t.pos<(s.length:Int))∧s.length≤4096:=by
 unfold pH at h;split at h
 ·cases h
 ·rename_i hl
  obtain ⟨pre,e1,e2,e3⟩:=rF _ _ _ _ _ h;exact ⟨pre,by simpa using e1,e2,by simpa using e3,by omega⟩
theorem Fc {s:Txt} {ts:List oN} (h:pH s= .ok ts) (x:Nat) (e p:Int):WfP ⟨ts,0,x,e,p⟩:=by
 obtain ⟨pre,rfl,h2,_,h3⟩:=xp h;refine ⟨by simp,fun i hi hk=> ?_,by simp; omega⟩
 by_cases hl:i<pre.length
 ·simp; omega
 ·exfalso
  simp only [Uk,List.length_singleton] at hi;have:i=pre.length:=by omega
  subst this;apply hk;simp
theorem uX:∀(f:Nat) (s:Txt) (a:Nat) (out:List oN) (e p:Int),qA f s a out= .bad e p→e=5∧0≤p∧(s.length<f→p≤((a+s.length:Nat):Int))
 |0,s,a,out,e,p,h=>by
  simp only [qA,Lexed.bad.injEq] at h;obtain ⟨rfl,rfl⟩:=h;exact ⟨rfl,by omega,by omega⟩
 |f+1,[],a,out,e,p,h=>by simp [qA] at h
 |f+1,c::r,a,out,e,p,h=>by
  simp only [qA] at h;split at h
  ·obtain ⟨h1,h2,h3⟩:=uX f r (a+1) out e p h
   refine ⟨h1,h2,fun hl=> ?_⟩
   simp only [List.length_cons] at hl⊢;have:=h3 (by omega)
   omega
  ·split at h
   ·simp only [Lexed.bad.injEq] at h
    obtain ⟨rfl,rfl⟩:=h;exact ⟨rfl,by omega,fun _=>by omega⟩
   ·obtain ⟨h1,h2,h3⟩:=uX f _ _ _ e p h
    refine ⟨h1,h2,fun hl=> ?_⟩
    have hle:=pn (c::r) (by simp)
    rw [List.length_drop] at h3;have:=h3 (by omega)
    omega
theorem uW {s:Txt} {e a:Int} (h:pH s= .bad e a):(e=5∨e=6)∧0≤a∧a≤s.length:=by
 unfold pH at h;split at h
 ·simp only [Lexed.bad.injEq] at h
  obtain ⟨rfl,rfl⟩:=h;exact ⟨.inr rfl,by omega,by omega⟩
 ·obtain ⟨h1,h2,h3⟩:=uX _ _ _ _ _ _ h
  have:=h3 (by omega)
  exact ⟨.inl h1,h2,by omega⟩
def lV:bB:= .mk [] false 0 [] [] [] []
def mU (s:Txt) (x:bB×PS):PS:=
 if (if (aI x.2).kind=7 then x.2 else aZ x.2).bad=0∧fK x.1≠0 then bt (if (aI x.2).kind=7 then x.2 else aZ x.2) 5 s.length else (if (aI x.2).kind=7 then x.2 else aZ x.2)
def vj (s:Txt) (ts:List oN):bB×Int×Int:=
 if (mU s (fO 4 ⟨ts,0,0,0,0⟩)).bad=0 then ((fO 4 ⟨ts,0,0,0,0⟩).1,0,0) else (lV,(mU s (fO 4 ⟨ts,0,0,0,0⟩)).bad,(mU s (fO 4 ⟨ts,0,0,0,0⟩)).place)
def aN (s:Txt):bB×Int×Int:=match pH s with
 | .bad e a=>(lV,e,a)
 | .ok ts=>vj s ts
end Go.Bf
