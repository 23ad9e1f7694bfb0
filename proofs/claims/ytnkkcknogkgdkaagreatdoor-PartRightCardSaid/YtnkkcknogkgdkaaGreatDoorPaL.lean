/- Walk: the closure that the part language's Parse defers. Conditions: the three results lie in memory. -/
import Derived.Test.YtnkkcknogkgdkaaGreatDoorPaI
import Derived.Deep.RegionLaw
import Derived.Deep.RegionHeld3
import Derived.Deep.DeepCutAuto
import Derived.Recover
import Derived.Laws.Pointers

namespace Go.Proofs.YtnkkcknogkgdkaaGreatDoor.PaW
open Lib (hid)
open Go Go.RowKit Go.Proofs.YtnkkcknogkgdkaaGreatDoor.Mem Go.Proofs.YtnkkcknogkgdkaaGreatDoor.Pa
open Go.Proofs.YtnkkcknogkgdkaaGreatDoor.Ge (V)
open Go.Proofs.YtnkkcknogkgdkaaGreatDoor.Lex (Tok)
open Go.Proofs.YtnkkcknogkgdkaaGreatDoor.LexW (tokCells)
attribute [local go_sem ↓] Go.wp_at_zero Go.wp_at_succ

theorem step_append_row {P:Program} {w:World} {ops:Array Oper} {o:Oper} {a:Act} {K:Act→World→Prop} {Q:Exit→Act→World→Prop} {E:Prop} (hgd:o.guard=none) (s x:Operand) (t:TypeId)
  (ho:o.op=.call { callee:=.builtin .append,args:=#[s,x],argTypes:=#[t,t] })
  (base:Nat) (e:TypeId) (i:TypeInfo) (z:Value) (size bytes:Nat) (ht:P.underlying t=some (.slice e)) (hi:P.info? e=some i) (hz:i.zero=some z)
  (hsize:i.size=size) (hby:i.bytes=bytes) (hzs:z.cells.size=size) (hsz:0 < size)
  (v:Value) (n:Nat) (xs:List Value) (hs:a.eval s=v) (hown:w.ownsRow base e size v n xs)
  (A:Option Addr) (m c:Nat) (news:List Value) (hx:a.eval x=.slice A m c) (hr:Row w A news) (hl:news.length=m*size) (h1:∀ u∈news,u.oneCell'=true)
  (h63:n+m≤maxLen) (hbytes:(n+m)*bytes≤140737488355328) (hbase:base≤w.heap.size)
  (h:∀ v' w',w'.ownsRow base e size v' (n+m) (xs++news)→w.grownBy w' v.ownBlock→K (a.put o.dst v') w') :
  if Region.wanted o (yielded ops a.tmps)=true then Oper.wp P o a w K Q else E:=by
 have hw:Region.wanted o (yielded ops a.tmps)=true:=by simp [Region.wanted,hgd]
 rw [if_pos hw]
 exact wp_append_row w s x t ho base e i z size bytes ht hi hz hsize hby hzs hsz v n xs hs hown A m c news hx hr hl h1 h63 hbytes hbase h
/-- Cells written one behind the other. -/
def sets (w:World) (r:Nat):Nat→List Value→World
 | _,[]=>w
 | k,v::l=>sets (w.setCell ⟨r,k,none⟩ v) r (k+1) l
theorem sets_block {r:Nat} {T:TypeId} {fr:Nat×Nat} : ∀ (vs:List Value) (k:Nat) (w:World) (cs:List Value),w.heap[r]? = some (.cells cs.toArray T fr)→k+vs.length=cs.length→(sets w r k vs).heap[r]? = some (.cells (cs.take k++vs).toArray T fr)
 | [],k,_,cs,h,hl=>by
  have e:k=cs.length:=by simpa using hl
  subst e
  simpa [sets] using h
 | v::l,k,_,cs,h,hl=>by
  have hk:k < cs.length:=by rw [List.length_cons] at hl;omega
  have h1:=block_set h k v
  rw [List.setIfInBounds_toArray] at h1
  have h2:=sets_block l (k+1) _ (cs.set k v) h1 (by rw [List.length_set,← hl,List.length_cons];omega)
  rw [sets,h2]
  congr 3
  rw [List.take_succ_eq_append_getElem (by rw [List.length_set];exact hk),List.getElem_set_self,List.append_assoc]
  congr 1
  rw [List.take_set_of_le (Nat.le_refl k)]
theorem sets_grown {r:Nat} : ∀ (vs:List Value) (k:Nat) (w0 w:World),w0.grownBy w (some r)→w0.grownBy (sets w r k vs) (some r)
 | [],_,_,_,h=>h
 | v::l,k,w0,_,h=>sets_grown l (k+1) w0 _ (grown_set h k v)
structure OutM where
 o:Outline
 A:Option Addr
 d:Nat
def outCells (m:OutM):List Value:=[.bool m.o.circle,.int .i64 m.o.center.1,.int .i64 m.o.center.2,.int .i64 m.o.radius,.slice m.A m.o.steps.length m.d]
theorem out_len (m:OutM):(outCells m).length=5:=rfl
structure SrcM where
 name:List UInt8
 grade:List UInt8
 grain:Int
 turns:List Int
 tA:Option Addr
 tc:Nat
 tol:Int
 outer:OutM
 holes:List OutM
 hA:Option Addr
 hc:Nat
def SrcM.src (m:SrcM):Pa.Source:=⟨m.name,m.grade,m.grain,m.turns,m.tol,m.outer.o,m.holes.map OutM.o⟩
def srcCells (m:SrcM):List Value:=[strV m.name,strV m.grade,.int .i64 m.grain,.slice m.tA m.turns.length m.tc,.int .i64 m.tol,.bool m.outer.o.circle,.int .i64 m.outer.o.center.1,.int .i64 m.outer.o.center.2,.int .i64 m.outer.o.radius,.slice m.outer.A m.outer.o.steps.length m.outer.d,.slice m.hA m.holes.length m.hc]
theorem src_len (m:SrcM):(srcCells m).length=11:=rfl
/-- An outline's steps in memory: in blocks ahead of the base, or of steps. -/
def OutIn (TS:TypeId) (base:Nat) (w:World) (m:OutM):Prop:=At TS base w m.A (m.o.steps.flatMap stepCells)∧m.o.steps.length≤m.d∧m.o.steps.length≤1000000
theorem OutIn.keep {TS T:TypeId} {base:Nat} {w w':World} {m:OutM} {row:Option Nat} (h:OutIn TS base w m) (hg:w.grownBy w' row) (hr:RowW w base T row) (hne:T≠TS):OutIn TS base w' m:=⟨h.1.keep hg hr hne,h.2⟩
theorem OutIn.below {TS:TypeId} {base:Nat} {w w':World} {m:OutM} (h:OutIn TS base w m) (hb:Below w.heap.size w w'):OutIn TS base w' m:=⟨h.1.below hb,h.2⟩
/-- A source's rows in memory. -/
def SrcIn (TO TS:TypeId) (base:Nat) (w:World) (m:SrcM):Prop:=At 3 base w m.tA (m.turns.map (Value.int .i64))∧OutIn TS base w m.outer∧At TO base w m.hA (m.holes.flatMap outCells)∧(∀ h∈m.holes,OutIn TS base w h)∧m.turns.length≤1000000∧m.holes.length≤1000000
theorem SrcIn.keep {TO TS T:TypeId} {base:Nat} {w w':World} {m:SrcM} {row:Option Nat} (h:SrcIn TO TS base w m) (hg:w.grownBy w' row) (hr:RowW w base T row) (h1:T ≠ 3) (h2:T≠TO) (h3:T≠TS):SrcIn TO TS base w' m :=
 ⟨h.1.keep hg hr h1,h.2.1.keep hg hr h3,h.2.2.1.keep hg hr h2,fun x hx=>(h.2.2.2.1 x hx).keep hg hr h3,h.2.2.2.2⟩
theorem SrcIn.below {TO TS:TypeId} {base:Nat} {w w':World} {m:SrcM} (h:SrcIn TO TS base w m) (hb:Below w.heap.size w w'):SrcIn TO TS base w' m :=
 ⟨h.1.below hb,h.2.1.below hb,h.2.2.1.below hb,fun x hx=>(h.2.2.2.1 x hx).below hb,h.2.2.2.2⟩
/-- A source that a call has made. -/
def TurnsFrom (B:Nat) (m:SrcM):Prop:=∀ g off,m.tA=some ⟨g,off,none⟩→B≤g
def SrcP (B:Nat) (x:Pa.Source) (w:World) (v:Value):Prop:=∃ m:SrcM,m.src=x∧v=.agg (srcCells m).toArray∧SrcIn 55 153 0 w m∧TurnsFrom B m
theorem At.keepNe {T:TypeId} {base b:Nat} {w w':World} {A:Option Addr} {xs:List Value} (h:At T base w A xs) (hg:w.grownBy w' (some b)) (hne:∀ g off,A=some ⟨g,off,none⟩→g≠b):At T base w' A xs:=by
 refine ⟨row_grown h.1 hne hg,fun hl g off hA=>?_⟩
 rcases h.2 hl g off hA with h1 | ⟨cur,fz,h1⟩
 ·exact .inl h1
 ·exact .inr ⟨cur,fz,(hg.block g (Array.getElem?_eq_some_iff.1 h1).1 (fun e=>by injection e with e;exact hne g off hA e)).trans h1⟩
theorem SrcIn.keepInt {TO TS:TypeId} {base b:Nat} {w w':World} {m:SrcM} (h:SrcIn TO TS base w m) (hg:w.grownBy w' (some b)) (hr:RowW w base 3 (some b)) (hne:∀ g off,m.tA=some ⟨g,off,none⟩→g≠b) (h2 : 3≠TO) (h3 : 3≠TS):SrcIn TO TS base w' m :=
 ⟨h.1.keepNe hg hne,h.2.1.keep hg hr h3,h.2.2.1.keep hg hr h2,fun x hx=>(h.2.2.2.1 x hx).keep hg hr h3,h.2.2.2.2⟩
/-- The rows of a source that is being gathered. -/
def RowsS (B:Nat) (w:World) (m:SrcM):Prop:=w.ownsRow B 3 1 (.slice m.tA m.turns.length m.tc) m.turns.length (m.turns.map (Value.int .i64))∧w.ownsRow B 55 5 (.slice m.hA m.holes.length m.hc) m.holes.length (m.holes.flatMap outCells)∧OutIn 153 0 w m.outer∧∀ h∈m.holes,OutIn 153 0 w h
theorem RowsS.keep {B:Nat} {w w':World} {m:SrcM} {T:TypeId} {row:Option Nat} (h:RowsS B w m) (hg:w.grownBy w' row) (hr:RowW w 0 T row) (h1:T ≠ 3) (h2:T ≠ 55) (h3:T ≠ 153):RowsS B w' m :=
 ⟨own_keep hg hr h1 h.1,own_keep hg hr h2 h.2.1,h.2.2.1.keep hg hr h3,fun x hx=>(h.2.2.2 x hx).keep hg hr h3⟩
theorem RowsS.in_ {B:Nat} {w:World} {m:SrcM} (h:RowsS B w m) (h1:m.turns.length≤1000000) (h2:m.holes.length≤1000000):SrcIn 55 153 0 w m :=
 ⟨At.of_own h.1,h.2.2.1,At.of_own h.2.1,h.2.2.2,h1,h2⟩
theorem info_int:(Tryz.prog.info? 3).map (fun i=>(i.zero,i.size,i.bytes))=some (some (.int .i64 0),1,8):=by kernel_rfl
theorem info_out:(Tryz.prog.info? 55).map (fun i=>(i.zero,i.size,i.bytes))=some (some (.agg #[.bool false,.int .i64 0,.int .i64 0,.int .i64 0,.slice none 0 0]),5,56):=by kernel_rfl
structure SSt (w0 wr:World) (xb b:Nat) (A:Option Addr) (c:Nat) (L:List Tok) (E j:Nat) (m:SrcM):Prop where
 pc:Pc wr b A c L E j
 res:wr.heap[w0.heap.size]? = some (.cells #[.string ⟨#[]⟩,.string ⟨#[]⟩,.int .i64 0,.slice none 0 0,.int .i64 0,.bool false,.int .i64 0,.int .i64 0,.int .i64 0,.slice none 0 0,.slice none 0 0] 58)
 obj:wr.heap[xb]? = some (.cells (srcCells m).toArray 58 (0,0))
 rows:RowsS (w0.heap.size+1) wr m
 gr:w0.grownBy wr (some b)
 row:Row w0 A (L.flatMap tokCells)
 lt:b < w0.heap.size
 lx:w0.heap.size < xb
section
variable {w0 wr w1:World} {xb b:Nat} {A:Option Addr} {c:Nat} {L:List Tok} {E j j':Nat} {m m':SrcM}
theorem SSt.step (h:SSt w0 wr xb b A c L E j m) (hp:Pc w1 b A c L E j') (hg:wr.grownBy w1 (some b)):SSt w0 w1 xb b A c L E j' m:=by
 have hl:=h.lt
 have hx:=h.lx
 exact ⟨hp,(hg.block _ (blk_lt h.res) (fun e=>by injection e;omega)).trans h.res,(hg.block _ (blk_lt h.obj) (fun e=>by injection e;omega)).trans h.obj,h.rows.keep hg (RowW.at h.pc.obj (Nat.zero_le _)) (by decide) (by decide) (by decide),h.gr.trans hg,h.row,hl,hx⟩
theorem SSt.below (h:SSt w0 wr xb b A c L E j m) (hb:Below wr.heap.size wr w1):SSt w0 w1 xb b A c L E j m :=
 h.step (h.pc.below hb) (grown_below (grown_refl wr (some b)) hb)
/-- The source's own block is written. -/
theorem SSt.put (h:SSt w0 wr xb b A c L E j m) (hg:wr.grownBy w1 (some xb)) (ho:w1.heap[xb]? = some (.cells (srcCells m').toArray 58 (0,0))) (hr:RowsS (w0.heap.size+1) w1 m'):SSt w0 w1 xb b A c L E j m':=by
 have hl:=h.lt
 have hx:=h.lx
 exact ⟨h.pc.wide h.row hl hg (fun k e=>by cases e;omega),(hg.block _ (blk_lt h.res) (fun e=>by injection e;omega)).trans h.res,ho,hr,grown_wide h.gr hg (fun k e=>by cases e;omega),h.row,hl,hx⟩
theorem SSt.keepX (h:SSt w0 wr xb b A c L E j m) (hg:wr.grownBy w1 (some xb)):RowsS (w0.heap.size+1) w1 m :=
 h.rows.keep hg (RowW.at h.obj (Nat.zero_le _)) (by decide) (by decide) (by decide)
/-- A row of the call's own has grown. -/
theorem SSt.grown (h:SSt w0 wr xb b A c L E j m) {row:Option Nat} (hg:wr.grownBy w1 row) (hr:∀ k,row=some k→w0.heap.size+1≤k∧k≠xb) (hrows:RowsS (w0.heap.size+1) w1 m') (hc:srcCells m'=srcCells m):SSt w0 w1 xb b A c L E j m':=by
 have hl:=h.lt
 have hx:=h.lx
 refine ⟨h.pc.wide h.row hl hg (fun k e=>by have:=hr k e;omega),(hg.block _ (blk_lt h.res) (fun e=>by have:=hr _ e.symm;omega)).trans h.res,?_,hrows,grown_wide h.gr hg (fun k e=>by have:=hr k e;omega),h.row,hl,hx⟩
 rw [hc]
 exact (hg.block _ (blk_lt h.obj) (fun e=>(hr _ e.symm).2 rfl)).trans h.obj
end
theorem name_ok {L:List Tok} {j k:Nat} {t:Tok} (h:tokO 1 L j=.ok t k):nameO L j=.ok t.text k:=by
 unfold tokO at h
 unfold nameO
 cases hx:L[j]? with
 | none=>rw [hx] at h;cases h
 | some u =>
  rw [hx] at h
  simp only at h ⊢
  split at h
  ·rename_i hk
   rw [if_pos hk]
   cases h
   rfl
  ·cases h
theorem name_no {L:List Tok} {j k:Nat} {e:Int} (h:tokO 1 L j=.no k e):nameO L j=.no k e:=by
 unfold tokO at h
 unfold nameO
 cases hx:L[j]? with
 | none=>rw [hx] at h;cases h;rfl
 | some u =>
  rw [hx] at h
  simp only at h ⊢
  split at h
  ·cases h
  ·rename_i hk
   rw [if_neg hk]
   cases h
   rfl
theorem opt_yes {L:List Tok} {s:List UInt8} {j:Nat} (h:isT L s j=true):optO s L j=.ok true (j+1):=by unfold optO;rw [h,if_pos rfl]
theorem opt_no {L:List Tok} {s:List UInt8} {j:Nat} (h:isT L s j=false):optO s L j=.ok false j:=by unfold optO;rw [h,if_neg Bool.false_ne_true]
theorem two_law {β:Type} {s t:List UInt8} {G:Pa.Op β} {L:List Tok} {j:Nat} : bnd (need s) (fun _=>bnd (need t) fun _=>G) L j=bnd (needs [s,t]) (fun _=>G) L j:=by
 simp only [needs,bnd,ret]
 cases need s L j with
 | no k e=>rfl
 | ok u k =>
  simp only
  cases need t L k with
  | no k e=>rfl
  | ok u k=>rfl
theorem num_ok {lo hi n:Int} {L:List Tok} {j k:Nat} (h:numO lo hi L j=.ok n k):lo≤n∧n≤hi∧k=j+1:=by
 unfold numO at h
 cases hx:L[j]? with
 | none=>rw [hx] at h;cases h
 | some u =>
  rw [hx] at h
  simp only at h
  split at h
  ·split at h
   ·cases h
   ·cases h
    exact ⟨by omega,by omega,rfl⟩
  ·cases h
theorem turns_go {β:Type} {G:List Int→Pa.Op β} {f:Nat} {acc:List Int} {L:List Tok} {j:Nat} (h:isT L kComma j=true):bnd (turnsO (f+1) acc) G L j=bnd (numO (acc.getLastD 0+1) 7) (fun n=>bnd (turnsO f (acc++[n])) G) L (j+1):=by
 simp only [turnsO,bnd,optO,h,if_true]
 cases numO (acc.getLastD 0+1) 7 L (j+1)<;>rfl
theorem turns_end {β:Type} {G:List Int→Pa.Op β} {f:Nat} {acc:List Int} {L:List Tok} {j:Nat} (h:isT L kComma j=false):bnd (turnsO (f+1) acc) G L j=G acc L j:=by
 simp only [turnsO,bnd,optO,h,Bool.false_eq_true,if_false,ret]
theorem holes_go {β:Type} {G:List Outline→Pa.Op β} {f:Nat} {acc:List Outline} {L:List Tok} {j:Nat} (h:isT L kHole j=true):bnd (holesO (f+1) acc) G L j=bnd outlineO (fun o=>bnd (holesO f (acc++[o])) G) L (j+1):=by
 simp only [holesO,bnd,optO,h,if_true]
 cases outlineO L (j+1)<;>rfl
theorem holes_end {β:Type} {G:List Outline→Pa.Op β} {f:Nat} {acc:List Outline} {L:List Tok} {j:Nat} (h:isT L kHole j=false):bnd (holesO (f+1) acc) G L j=G acc L j:=by
 simp only [holesO,bnd,optO,h,Bool.false_eq_true,if_false,ret]
def srcH (nm gr:List UInt8) (g:Int) (ts:List Int) (tol:Int) (o:Outline) (hs:List Outline):Pa.Op Pa.Source:=bnd (need kEnd) fun _=>ret ⟨nm,gr,g,ts,tol,o,hs⟩
def srcT (nm gr:List UInt8) (g:Int) (ts:List Int):Pa.Op Pa.Source:=bnd (need kSemi) fun _=>bnd tolO fun tol=>bnd (need kRing) fun _=>bnd outlineO fun o=>bnd (holesO big []) (srcH nm gr g ts tol o)
def LastIs (ts:List Int) (n:Nat) (u:Int):Prop:=ts.length=n+1∧ts.getLastD 0=u∧ts[n]? = some u∧0≤u∧u≤7
theorem LastIs.one {t:Int} (h:0≤t∧t≤7):LastIs [t] 0 t:=⟨rfl,rfl,rfl,h⟩
theorem LastIs.snoc {ts:List Int} {n:Nat} {u v:Int} (h:LastIs ts n u) (hv:0≤v∧v≤7):LastIs (ts++[v]) (n+1) v :=
 ⟨by rw [List.length_append,h.1];rfl,by simp,by rw [List.getElem?_append_right (by rw [h.1];omega),h.1];simp,hv⟩
section
variable {w0 w4 w5:World} {xb b:Nat} {A:Option Addr} {c:Nat} {L:List Tok} {E j:Nat} {m:SrcM}
theorem SSt.pushT {v:Int} {B':Option Addr} {d':Nat} (h:SSt w0 w4 xb b A c L E j m) (hown:w5.ownsRow (w0.heap.size+1) 3 1 (.slice B' (m.turns.length+1) d') (m.turns.length+1) (m.turns.map (Value.int .i64)++[.int .i64 v])) (hg:w4.grownBy w5 (Value.slice m.tA m.turns.length m.tc).ownBlock) :
  SSt w0 (w5.setCell ⟨xb,3,none⟩ (.slice B' (m.turns.length+1) d')) xb b A c L E j { m with turns:=m.turns++[v],tA:=B',tc:=d' }:=by
 have hl:=h.lt
 have hx:=h.lx
 have hro:∀ k,(Value.slice m.tA m.turns.length m.tc).ownBlock=some k→w0.heap.size+1≤k:=fun k hk=>(h.rows.1.lt k hk).1
 have hro0:∀ k,(Value.slice m.tA m.turns.length m.tc).ownBlock=some k→w0.heap.size≤k:=fun k hk=>by have:=hro k hk;omega
 have hw:=(RowW.own h.rows.1).mono (Nat.zero_le _)
 have hob:=heap_keep hg hw (by decide) h.obj
 have hrs:=heap_keep hg hw (by decide) h.res
 have hgs:=grown_set (grown_refl w5 (some xb)) 3 (.slice B' (m.turns.length+1) d')
 have hws:=RowW.at hob (Nat.zero_le xb)
 have e1:(m.turns++[v]).length=m.turns.length+1:=by simp
 have e2:(m.turns++[v]).map (Value.int .i64)=m.turns.map (Value.int .i64)++[.int .i64 v]:=by simp
 refine ⟨(h.pc.wide h.row hl hg hro0).wide h.row hl hgs (fun k e=>by cases e;omega),(hgs.block _ (blk_lt hrs) (fun e=>by injection e;omega)).trans hrs,?_,⟨?_,own_keep hgs hws (by decide) (own_keep hg hw (by decide) h.rows.2.1),(h.rows.2.2.1.keep hg hw (by decide)).keep hgs hws (by decide),fun x hx=>((h.rows.2.2.2 x hx).keep hg hw (by decide)).keep hgs hws (by decide)⟩,grown_wide (grown_wide h.gr hg hro0) hgs (fun k e=>by cases e;omega),h.row,hl,hx⟩
 ·exact (block_set hob 3 (.slice B' (m.turns.length+1) d')).trans (by simp [srcCells])
 ·show World.ownsRow _ _ _ _ (.slice B' (m.turns++[v]).length d') (m.turns++[v]).length ((m.turns++[v]).map (Value.int .i64))
  rw [e1,e2]
  exact own_keep hgs hws (by decide) hown
theorem SSt.pushH {x:OutM} {B':Option Addr} {d':Nat} (h:SSt w0 w4 xb b A c L E j m) (hx1:OutIn 153 0 w4 x) (hown:w5.ownsRow (w0.heap.size+1) 55 5 (.slice B' (m.holes.length+1) d') (m.holes.length+1) (m.holes.flatMap outCells++outCells x)) (hg:w4.grownBy w5 (Value.slice m.hA m.holes.length m.hc).ownBlock) :
  SSt w0 (w5.setCell ⟨xb,10,none⟩ (.slice B' (m.holes.length+1) d')) xb b A c L E j { m with holes:=m.holes++[x],hA:=B',hc:=d' }:=by
 have hl:=h.lt
 have hx:=h.lx
 have hro:∀ k,(Value.slice m.hA m.holes.length m.hc).ownBlock=some k→w0.heap.size+1≤k:=fun k hk=>(h.rows.2.1.lt k hk).1
 have hro0:∀ k,(Value.slice m.hA m.holes.length m.hc).ownBlock=some k→w0.heap.size≤k:=fun k hk=>by have:=hro k hk;omega
 have hw:=(RowW.own h.rows.2.1).mono (Nat.zero_le _)
 have hob:=heap_keep hg hw (by decide) h.obj
 have hrs:=heap_keep hg hw (by decide) h.res
 have hgs:=grown_set (grown_refl w5 (some xb)) 10 (.slice B' (m.holes.length+1) d')
 have hws:=RowW.at hob (Nat.zero_le xb)
 have e1:(m.holes++[x]).length=m.holes.length+1:=by simp
 have e2:(m.holes++[x]).flatMap outCells=m.holes.flatMap outCells++outCells x:=by simp
 refine ⟨(h.pc.wide h.row hl hg hro0).wide h.row hl hgs (fun k e=>by cases e;omega),(hgs.block _ (blk_lt hrs) (fun e=>by injection e;omega)).trans hrs,?_,⟨own_keep hgs hws (by decide) (own_keep hg hw (by decide) h.rows.1),?_,(h.rows.2.2.1.keep hg hw (by decide)).keep hgs hws (by decide),fun y hy=>?_⟩,grown_wide (grown_wide h.gr hg hro0) hgs (fun k e=>by cases e;omega),h.row,hl,hx⟩
 ·exact (block_set hob 10 (.slice B' (m.holes.length+1) d')).trans (by simp [srcCells])
 ·show World.ownsRow _ _ _ _ (.slice B' (m.holes++[x]).length d') (m.holes++[x]).length ((m.holes++[x]).flatMap outCells)
  rw [e1,e2]
  exact own_keep hgs hws (by decide) hown
 ·rcases List.mem_append.1 hy with h1 | h1
  ·exact ((h.rows.2.2.2 y h1).keep hg hw (by decide)).keep hgs hws (by decide)
  ·rw [List.mem_singleton.1 h1]
   exact (hx1.keep hg hw (by decide)).keep hgs hws (by decide)
end
theorem outline_on {L:List Tok} {i j:Nat} {o:Outline} (h:outlineO L i=.ok o j):i≤j:=by
 have:=(good_outline.1 L i).1
 rw [h] at this
 exact this
attribute [local go_sem ↓] Go.wp_at_zero Go.wp_at_succ

set_option maxRecDepth 100000 in
set_option maxHeartbeats 8000000 in
theorem source_any (b:Nat) (A:Option Addr) (c:Nat) (L:List Tok) (E i:Nat) (w:World) (h:Pc w b A c L E i) :
  Calls Tryz.prog 40 #[.pointer (some ⟨b,0,none⟩)] w (ResP (SrcP w.heap.size) w b A c L E (sourceO L i)):=by
 have hlt:=blk_lt h.obj
 have HFEW:=hid h.few
 have HRW:=hid h.row
 have hB:=bel1 w (.cells #[.string ⟨#[]⟩,.string ⟨#[]⟩,.int .i64 0,.slice none 0 0,.int .i64 0,.bool false,.int .i64 0,.int .i64 0,.int .i64 0,.slice none 0 0,.slice none 0 0] 58)
 have HP0:=hid (h.below hB)
 have HZ0:=hid (heap_new w (.cells #[.string ⟨#[]⟩,.string ⟨#[]⟩,.int .i64 0,.slice none 0 0,.int .i64 0,.bool false,.int .i64 0,.int .i64 0,.int .i64 0,.slice none 0 0,.slice none 0 0] 58))
 have HG0:=hid (grown_below (grown_refl w (some b)) hB)
 have hsz0:(w.alloc (.cells #[.string ⟨#[]⟩,.string ⟨#[]⟩,.int .i64 0,.slice none 0 0,.int .i64 0,.bool false,.int .i64 0,.int .i64 0,.int .i64 0,.slice none 0 0,.slice none 0 0] 58)).heap.size=w.heap.size+1:=by simp
 have HSZ0:=hid hsz0
 clear h hB hsz0
 obtain ⟨RS,HRS⟩:∃ RS,Hid (sourceO L i=RS):=⟨_,hid rfl⟩
 rw [HRS.out]
 have HR0:Hid (_=RS):=hid ((show sourceO L i=bnd (need kPart) _ L i from rfl).symm.trans HRS.out)
 clear HRS
 go_enter Tryz.func40,Tryz.ntmps40
 go_upto_region 1 with fail
 generalize w.alloc (.cells #[.string ⟨#[]⟩,.string ⟨#[]⟩,.int .i64 0,.slice none 0 0,.int .i64 0,.bool false,.int .i64 0,.int .i64 0,.int .i64 0,.slice none 0 0,.slice none 0 0] 58)=W0 at *
 have HE1:Hid (Calls Tryz.prog 83 #[.pointer (some ⟨b,0,none⟩),.slice (some ⟨W0.heap.size,0,none⟩) 1 1] (W0.alloc (.cells #[.string ⟨#[112,97,114,116]⟩] 9)) (Res (fun _=>.tuple #[]) W0 b A c L E (need kPart L i))):=hid (expect_one kPart b A c L E i W0 HP0.out)
 go_wp2_with fail
 refine HE1.out.mono ?_
 rintro e w1 hres
 cases h1:need kPart L i with
 | no k er =>
  rw [h1] at hres
  obtain ⟨rfl,hg⟩:=hres
  have hrs:=(bnd_no h1).symm.trans HR0.out
  subst hrs
  go_wp2
  exact ⟨rfl,rfl,HG0.out.trans hg⟩
 | ok u1x j1 =>
 rw [h1] at hres
 obtain ⟨rfl,hp1,hg1⟩:=hres
 have HP1:=hid hp1
 have HG1:=hid (HG0.out.trans hg1)
 have HZ1:=hid ((hg1.block _ (blk_lt HZ0.out) (by intro e;cases e;omega)).trans HZ0.out)
 have HR1:Hid (_=RS):=hid ((bnd_ok h1).symm.trans HR0.out)
 clear hp1 hg1 HP0 HG0 HZ0 HE1 HR0 HSZ0
 have HE2:=hid (token_any 1 b A c L E j1 w1 HP1.out)
 go_wp2_with fail
 refine HE2.out.mono ?_
 rintro e w2 hres
 cases h2:tokO 1 L j1 with
 | no k er =>
  rw [h2] at hres
  obtain ⟨rfl,hg⟩:=hres
  have hrs:=(bnd_no (name_no h2)).symm.trans HR1.out
  subst hrs
  go_wp2
  exact ⟨rfl,rfl,HG1.out.trans hg⟩
 | ok t j2 =>
 rw [h2] at hres
 obtain ⟨rfl,hp2,hg2⟩:=hres
 have HP2:=hid hp2
 have HG2:=hid (HG1.out.trans hg2)
 have HZ2:=hid ((hg2.block _ (blk_lt HZ1.out) (by intro e;cases e;omega)).trans HZ1.out)
 have HR2:Hid (_=RS):=hid ((bnd_ok (name_ok h2)).symm.trans HR1.out)
 clear hp2 hg2 HP1 HG1 HZ1 HE2 HR1
 have hfl:∀ W,(Instr.field 69 (.agg #[.int .i64 t.kind,.string ⟨t.text.toArray⟩,.int .i64 t.n,.int .i64 (t.pos:Int)]) 1).run Tryz.prog W=.ok (.string ⟨t.text.toArray⟩) W:=fun W=>by kernel_rfl
 unfold tokV
 have hbx:=bel1 w2 (.cells #[.string ⟨t.text.toArray⟩,.string ⟨#[]⟩,.int .i64 0,.slice none 0 0,.int .i64 1,.bool false,.int .i64 0,.int .i64 0,.int .i64 0,.slice none 0 0,.slice none 0 0] 58)
 have HS2:Hid (SSt w (w2.alloc (.cells #[.string ⟨t.text.toArray⟩,.string ⟨#[]⟩,.int .i64 0,.slice none 0 0,.int .i64 1,.bool false,.int .i64 0,.int .i64 0,.int .i64 0,.slice none 0 0,.slice none 0 0] 58)) w2.heap.size b A c L E j2 ⟨t.text,[],0,[],none,0,1,⟨⟨false,(0,0),0,[]⟩,none,0⟩,[],none,0⟩):=hid ⟨HP2.out.below hbx,p_below HZ2.out hbx,heap_new w2 (.cells #[.string ⟨t.text.toArray⟩,.string ⟨#[]⟩,.int .i64 0,.slice none 0 0,.int .i64 1,.bool false,.int .i64 0,.int .i64 0,.int .i64 0,.slice none 0 0,.slice none 0 0] 58),⟨World.ownsRow_nil _ _ _ _,World.ownsRow_nil _ _ _ _,⟨At.nil _ _ _ _,Nat.le_refl _,by simp⟩,by simp⟩,grown_below HG2.out hbx,HRW.out,hlt,blk_lt HZ2.out⟩
 go_upto_region 3 with fail
 clear hfl hbx HZ2 HG2 HP2
 generalize w2.alloc (.cells #[.string ⟨t.text.toArray⟩,.string ⟨#[]⟩,.int .i64 0,.slice none 0 0,.int .i64 1,.bool false,.int .i64 0,.int .i64 0,.int .i64 0,.slice none 0 0,.slice none 0 0] 58)=W2 at *
 generalize w2.heap.size=xb at *
 generalize t.text=nm at *
 have HE3:Hid (Calls Tryz.prog 83 #[.pointer (some ⟨b,0,none⟩),.slice (some ⟨W2.heap.size,0,none⟩) 2 2] (W2.alloc (.cells #[.string ⟨#[123]⟩,.string ⟨#[103,114,97,100,101]⟩] 9)) (Res (fun _=>.tuple #[]) W2 b A c L E (needs [kBegin,kGrade] L j2))):=hid (expect_two kBegin kGrade b A c L E j2 W2 HS2.out.pc)
 have HRT3:=hid (two_law.symm.trans HR2.out)
 clear HR2
 go_wp2_with fail
 refine HE3.out.mono ?_
 rintro e w3 hres
 cases h3:needs [kBegin,kGrade] L j2 with
 | no k er =>
  rw [h3] at hres
  obtain ⟨rfl,hg⟩:=hres
  have hrs:=(bnd_no h3).symm.trans HRT3.out
  subst hrs
  go_wp2
  exact ⟨rfl,rfl,HS2.out.gr.trans hg⟩
 | ok u3x j3 =>
 rw [h3] at hres
 obtain ⟨rfl,hp3,hg3⟩:=hres
 have HS3:=hid (HS2.out.step hp3 hg3)
 have HR3:Hid (_=RS):=hid ((bnd_ok h3).symm.trans HRT3.out)
 clear hp3 hg3 HS2 HRT3 HE3
 have HE4:=hid (token_any 1 b A c L E j3 w3 HS3.out.pc)
 go_wp2_with fail
 refine HE4.out.mono ?_
 rintro e w4 hres
 cases h4:tokO 1 L j3 with
 | no k er =>
  rw [h4] at hres
  obtain ⟨rfl,hg⟩:=hres
  have hrs:=(bnd_no (name_no h4)).symm.trans HR3.out
  subst hrs
  go_wp2
  exact ⟨rfl,rfl,HS3.out.gr.trans hg⟩
 | ok t2 j4 =>
 rw [h4] at hres
 obtain ⟨rfl,hp4,hg4⟩:=hres
 have HS4:=hid (HS3.out.step hp4 hg4)
 have HR4:Hid (_=RS):=hid ((bnd_ok (name_ok h4)).symm.trans HR3.out)
 clear hp4 hg4 HS3 HR3 HE4
 have hfl4:∀ W,(Instr.field 69 (.agg #[.int .i64 t2.kind,.string ⟨t2.text.toArray⟩,.int .i64 t2.n,.int .i64 (t2.pos:Int)]) 1).run Tryz.prog W=.ok (.string ⟨t2.text.toArray⟩) W:=fun W=>by kernel_rfl
 unfold tokV
 have x1:=cell_of HS4.out.obj 1 _ rfl
 have y1:=free_of HS4.out.obj 1
 have HS5:Hid (SSt w (w4.setCell ⟨xb,1,none⟩ (.string ⟨t2.text.toArray⟩)) xb b A c L E j4 ⟨nm,t2.text,0,[],none,0,1,⟨⟨false,(0,0),0,[]⟩,none,0⟩,[],none,0⟩):=hid (HS4.out.put (grown_set (grown_refl w4 (some xb)) 1 (.string ⟨t2.text.toArray⟩)) (block_set HS4.out.obj 1 _) (HS4.out.keepX (grown_set (grown_refl w4 (some xb)) 1 (.string ⟨t2.text.toArray⟩))))
 go_upto_region 5 with fail
 clear x1 y1 HS4
 generalize w4.setCell ⟨xb,1,none⟩ (.string ⟨t2.text.toArray⟩)=W5 at *
 clear hfl4
 generalize t2.text=gr at *
 have HE6:Hid (Calls Tryz.prog 83 #[.pointer (some ⟨b,0,none⟩),.slice (some ⟨W5.heap.size,0,none⟩) 1 1] (W5.alloc (.cells #[.string ⟨#[59]⟩] 9)) (Res (fun _=>.tuple #[]) W5 b A c L E (need kSemi L j4))):=hid (expect_one kSemi b A c L E j4 W5 HS5.out.pc)
 go_wp2_with fail
 refine HE6.out.mono ?_
 rintro e w6 hres
 cases h6:need kSemi L j4 with
 | no k er =>
  rw [h6] at hres
  obtain ⟨rfl,hg⟩:=hres
  have hrs:=(bnd_no h6).symm.trans HR4.out
  subst hrs
  go_wp2
  exact ⟨rfl,rfl,HS5.out.gr.trans hg⟩
 | ok u6x j6 =>
 rw [h6] at hres
 obtain ⟨rfl,hp6,hg6⟩:=hres
 have HS6:=hid (HS5.out.step hp6 hg6)
 have HR6:Hid (_=RS):=hid ((bnd_ok h6).symm.trans HR4.out)
 clear hp6 hg6 HS5 HR4 HE6
 obtain ⟨q7,j7,h7⟩:∃ q j,optO kGrain L j6=.ok q j:=by
  unfold optO
  split
  ·exact ⟨_,_,rfl⟩
  ·exact ⟨_,_,rfl⟩
 have HE7:Hid (Calls Tryz.prog 85 #[.pointer (some ⟨b,0,none⟩),.string ⟨#[103,114,97,105,110]⟩] w6 (Res Value.bool w6 b A c L E (.ok q7 j7))):=hid (by
  have:=accept_any kGrain b A c L E j6 w6 HS6.out.pc
  rw [h7] at this
  exact this)
 go_wp2_with fail
 refine HE7.out.mono ?_
 rintro e w7 ⟨rfl,hp7,hg7⟩
 have HS7:=hid (HS6.out.step hp7 hg7)
 clear hp7 hg7 HS6 HE7
 go_upto_if 22 with (fail)
 go_cut [] (fun wc=>∃ (g:Int) (jg:Nat),grainO L j6=.ok g jg∧Hid (SSt w wc xb b A c L E jg ⟨nm,gr,g,[],none,0,1,⟨⟨false,(0,0),0,[]⟩,none,0⟩,[],none,0⟩))
 case first =>
  cases q7
  ·go_wp2_with fail
   go_meet
   exact ⟨0,j7,by simp only [grainO,bnd,h7,Bool.false_eq_true,if_false,ret],HS7⟩
  ·skip
   obtain ⟨q8,j8,h8⟩:∃ q j,optO kX L j7=.ok q j:=by
    unfold optO
    split
    ·exact ⟨_,_,rfl⟩
    ·exact ⟨_,_,rfl⟩
   have HE8:Hid (Calls Tryz.prog 85 #[.pointer (some ⟨b,0,none⟩),.string ⟨#[120]⟩] w7 (Res Value.bool w7 b A c L E (.ok q8 j8))):=hid (by
    have:=accept_any kX b A c L E j7 w7 HS7.out.pc
    rw [h8] at this
    exact this)
   go_wp2_with fail
   refine HE8.out.mono ?_
   rintro e w8 ⟨rfl,hp8,hg8⟩
   have HS8:=hid (HS7.out.step hp8 hg8)
   clear hp8 hg8 HS7 HE8
   cases q8
   ·skip
    obtain ⟨q9,j9,h9⟩:∃ q j,optO kY L j8=.ok q j:=by
     unfold optO
     split
     ·exact ⟨_,_,rfl⟩
     ·exact ⟨_,_,rfl⟩
    have HE9:Hid (Calls Tryz.prog 85 #[.pointer (some ⟨b,0,none⟩),.string ⟨#[121]⟩] w8 (Res Value.bool w8 b A c L E (.ok q9 j9))):=hid (by
     have:=accept_any kY b A c L E j8 w8 HS8.out.pc
     rw [h9] at this
     exact this)
    go_wp2_with fail
    refine HE9.out.mono ?_
    rintro e w9 ⟨rfl,hp9,hg9⟩
    have HS9:=hid (HS8.out.step hp9 hg9)
    clear hp9 hg9 HS8 HE9
    cases q9
    ·skip
     have HEF:=hid (fail_any 3 b A c L E j9 w9 HS9.out.pc)
     go_wp2_with fail
     refine HEF.out.mono ?_
     rintro e wf ⟨rfl,hbf⟩
     have hst:grainO L j6=.no j9 3:=by simp only [grainO,bnd,h7,if_true,h8,Bool.false_eq_true,if_false,h9,failO]
     have hrs:=(bnd_no hst).symm.trans HR6.out
     subst hrs
     go_wp2
     exact ⟨rfl,rfl,grown_below HS9.out.gr hbf⟩
    ·skip
     have x2:=cell_of HS9.out.obj 2 _ rfl
     have y2:=free_of HS9.out.obj 2
     have HS10:Hid (SSt w (w9.setCell ⟨xb,2,none⟩ (.int .i64 2)) xb b A c L E j9 ⟨nm,gr,2,[],none,0,1,⟨⟨false,(0,0),0,[]⟩,none,0⟩,[],none,0⟩):=hid (HS9.out.put (grown_set (grown_refl w9 (some xb)) 2 (.int .i64 2)) (block_set HS9.out.obj 2 _) (HS9.out.keepX (grown_set (grown_refl w9 (some xb)) 2 (.int .i64 2))))
     go_upto_region 12 with fail
     clear x2 y2 HS9
     generalize w9.setCell ⟨xb,2,none⟩ (.int .i64 2)=W10 at *
     have HE11:Hid (Calls Tryz.prog 83 #[.pointer (some ⟨b,0,none⟩),.slice (some ⟨W10.heap.size,0,none⟩) 1 1] (W10.alloc (.cells #[.string ⟨#[59]⟩] 9)) (Res (fun _=>.tuple #[]) W10 b A c L E (need kSemi L j9))):=hid (expect_one kSemi b A c L E j9 W10 HS10.out.pc)
     go_wp2_with fail
     refine HE11.out.mono ?_
     rintro e w11 hres
     cases h11:need kSemi L j9 with
     | no k er =>
      rw [h11] at hres
      obtain ⟨rfl,hg⟩:=hres
      have hst:grainO L j6=.no k er:=by simp only [grainO,bnd,h7,if_true,h8,Bool.false_eq_true,if_false,h9,h11]
      have hrs:=(bnd_no hst).symm.trans HR6.out
      subst hrs
      go_wp2
      exact ⟨rfl,rfl,HS10.out.gr.trans hg⟩
     | ok u11x j11 =>
     rw [h11] at hres
     obtain ⟨rfl,hp11,hg11⟩:=hres
     have HS11:=hid (HS10.out.step hp11 hg11)
     clear hp11 hg11 HS10 HE11
     go_wp2_with fail
     go_meet
     exact ⟨2,j11,by simp only [grainO,bnd,h7,if_true,h8,Bool.false_eq_true,if_false,h9,h11,ret],HS11⟩
   ·skip
    have x2:=cell_of HS8.out.obj 2 _ rfl
    have y2:=free_of HS8.out.obj 2
    have HS9:Hid (SSt w (w8.setCell ⟨xb,2,none⟩ (.int .i64 1)) xb b A c L E j8 ⟨nm,gr,1,[],none,0,1,⟨⟨false,(0,0),0,[]⟩,none,0⟩,[],none,0⟩):=hid (HS8.out.put (grown_set (grown_refl w8 (some xb)) 2 (.int .i64 1)) (block_set HS8.out.obj 2 _) (HS8.out.keepX (grown_set (grown_refl w8 (some xb)) 2 (.int .i64 1))))
    go_upto_region 12 with fail
    clear x2 y2 HS8
    generalize w8.setCell ⟨xb,2,none⟩ (.int .i64 1)=W9 at *
    have HE10:Hid (Calls Tryz.prog 83 #[.pointer (some ⟨b,0,none⟩),.slice (some ⟨W9.heap.size,0,none⟩) 1 1] (W9.alloc (.cells #[.string ⟨#[59]⟩] 9)) (Res (fun _=>.tuple #[]) W9 b A c L E (need kSemi L j8))):=hid (expect_one kSemi b A c L E j8 W9 HS9.out.pc)
    go_wp2_with fail
    refine HE10.out.mono ?_
    rintro e w10 hres
    cases h10:need kSemi L j8 with
    | no k er =>
     rw [h10] at hres
     obtain ⟨rfl,hg⟩:=hres
     have hst:grainO L j6=.no k er:=by simp only [grainO,bnd,h7,if_true,h8,h10]
     have hrs:=(bnd_no hst).symm.trans HR6.out
     subst hrs
     go_wp2
     exact ⟨rfl,rfl,HS9.out.gr.trans hg⟩
    | ok u10x j10 =>
    rw [h10] at hres
    obtain ⟨rfl,hp10,hg10⟩:=hres
    have HS10:=hid (HS9.out.step hp10 hg10)
    clear hp10 hg10 HS9 HE10
    go_wp2_with fail
    go_meet
    exact ⟨1,j10,by simp only [grainO,bnd,h7,if_true,h8,h10,ret],HS10⟩
 obtain ⟨g,jg,hgr,HSg⟩:=hcut
 have HRg:Hid (_=RS):=hid ((bnd_ok hgr).symm.trans HR6.out)
 clear hgr HS7 HR6 h7
 have HE21:Hid (Calls Tryz.prog 83 #[.pointer (some ⟨b,0,none⟩),.slice (some ⟨wc.heap.size,0,none⟩) 1 1] (wc.alloc (.cells #[.string ⟨#[116,117,114,110,115]⟩] 9)) (Res (fun _=>.tuple #[]) wc b A c L E (need kTurns L jg))):=hid (expect_one kTurns b A c L E jg wc HSg.out.pc)
 go_wp2_with fail
 refine HE21.out.mono ?_
 rintro e w21 hres
 cases h21:need kTurns L jg with
 | no k er =>
  rw [h21] at hres
  obtain ⟨rfl,hg⟩:=hres
  have hrs:=(bnd_no h21).symm.trans HRg.out
  subst hrs
  go_wp2
  exact ⟨rfl,rfl,HSg.out.gr.trans hg⟩
 | ok u21x j21 =>
 rw [h21] at hres
 obtain ⟨rfl,hp21,hg21⟩:=hres
 have HS21:=hid (HSg.out.step hp21 hg21)
 have HR21:Hid (_=RS):=hid ((bnd_ok h21).symm.trans HRg.out)
 clear hp21 hg21 HSg HRg HE21
 have HE22:=hid (number_any 0 7 b A c L E j21 w21 HS21.out.pc)
 go_wp2_with fail
 refine HE22.out.mono ?_
 rintro e w22 hres
 cases h22:numO 0 7 L j21 with
 | no k er =>
  rw [h22] at hres
  obtain ⟨rfl,hg⟩:=hres
  have hrs:=(bnd_no h22).symm.trans HR21.out
  subst hrs
  go_wp2
  exact ⟨rfl,rfl,HS21.out.gr.trans hg⟩
 | ok t0 j22 =>
 rw [h22] at hres
 obtain ⟨rfl,hp22,hg22⟩:=hres
 have HS22:=hid (HS21.out.step hp22 hg22)
 have HR22:Hid (_=RS):=hid ((bnd_ok h22).symm.trans HR21.out)
 clear hp22 hg22 HS21 HR21 HE22
 have HN0:=hid (num_ok h22)
 have hb14:=bel1 w22 (.cells #[.int .i64 t0] 3)
 have HSb:=hid (HS22.out.below hb14)
 have x3:=cell_of HSb.out.obj 3 _ rfl
 have y3:=free_of HSb.out.obj 3
 have HS14:Hid (SSt w ((w22.alloc (.cells #[.int .i64 t0] 3)).setCell ⟨xb,3,none⟩ (.slice (some ⟨w22.heap.size,0,none⟩) 1 1)) xb b A c L E j22 ⟨nm,gr,g,[t0],(some ⟨w22.heap.size,0,none⟩),1,1,⟨⟨false,(0,0),0,[]⟩,none,0⟩,[],none,0⟩):=hid (HSb.out.put (grown_set (grown_refl (w22.alloc (.cells #[.int .i64 t0] 3)) (some xb)) 3 (.slice (some ⟨w22.heap.size,0,none⟩) 1 1)) (block_set HSb.out.obj 3 _) ⟨own_keep (grown_set (grown_refl (w22.alloc (.cells #[.int .i64 t0] 3)) (some xb)) 3 (.slice (some ⟨w22.heap.size,0,none⟩) 1 1)) (RowW.at HSb.out.obj (Nat.zero_le _)) (by decide) (World.ownsRow_lit w22 #[.int .i64 t0] 1 (by have:=blk_lt HS22.out.res;omega) (by decide) rfl),(HSb.out.keepX (grown_set (grown_refl (w22.alloc (.cells #[.int .i64 t0] 3)) (some xb)) 3 (.slice (some ⟨w22.heap.size,0,none⟩) 1 1))).2⟩)
 have HRT:Hid (bnd (turnsO 20001 [t0]) (srcT nm gr g) L j22=RS):=HR22
 go_upto_region 15 with fail
 clear x3 y3 hb14 HSb HS22 HR22 h22
 generalize (w22.alloc (.cells #[.int .i64 t0] 3)).setCell ⟨xb,3,none⟩ (.slice (some ⟨w22.heap.size,0,none⟩) 1 1)=W14 at *
 generalize hAD:(some ⟨w22.heap.size,0,none⟩:Option Addr)=AD at *
 clear hAD
 have HL0:=hid (LastIs.one ⟨HN0.out.1,HN0.out.2.1⟩)
 have HJ0:Hid (1≤j22):=hid (by have:=HN0.out.2.2;omega)
 obtain ⟨i0,ia,ib,ic,id⟩:=info_parts info_int
 go_loopg [] 20001 (fun f wr=>∃ (ts:List Int) (n:Nat) (u:Int) (tA:Option Addr) (tc j:Nat),Hid (bnd (turnsO f ts) (srcT nm gr g) L j=RS)∧L.length < f+j∧ts.length≤j∧Hid (LastIs ts n u)∧Hid (SSt w wr xb b A c L E j ⟨nm,gr,g,ts,tA,tc,1,⟨⟨false,(0,0),0,[]⟩,none,0⟩,[],none,0⟩))
 case atStart=>exact ⟨[t0],0,t0,AD,1,j22,HRT,by have:=HFEW.out;omega,by have:=HJ0.out;simpa using this,HL0,HS14⟩
 case round =>
  obtain ⟨ts,n,u,tA,tc,j,HR,hfj,htj,HL,HS⟩:=hrel
  rcases gk with _ | f
  ·have:=HS.out.pc.ix
   omega
  clear HRT HS14 HJ0 HL0 HN0
  cases hq:isT L kComma j
  ·skip
   have HR40:Hid (_=RS):=hid ((show srcT nm gr g ts L j=bnd (need kSemi) _ L j from rfl).symm.trans ((turns_end hq).symm.trans HR.out))
   have HTL:Hid (ts.length≤20000):=hid (by have:=HS.out.pc.ix;have:=HFEW.out;omega)
   have HE40:Hid (Calls Tryz.prog 85 #[.pointer (some ⟨b,0,none⟩),.string ⟨#[44]⟩] wr (Res Value.bool wr b A c L E (.ok false j))):=hid (by
    have:=accept_any kComma b A c L E j wr HS.out.pc
    rw [opt_no hq] at this
    exact this)
   go_wp2_with fail
   refine HE40.out.mono ?_
   rintro e w40 ⟨rfl,hp40,hg40⟩
   have HS40:=hid (HS.out.step hp40 hg40)
   clear hp40 hg40 HE40 HS HR HL i0 ia ib ic id hfj htj hq
   have HE41:Hid (Calls Tryz.prog 83 #[.pointer (some ⟨b,0,none⟩),.slice (some ⟨w40.heap.size,0,none⟩) 1 1] (w40.alloc (.cells #[.string ⟨#[59]⟩] 9)) (Res (fun _=>.tuple #[]) w40 b A c L E (need kSemi L j))):=hid (expect_one kSemi b A c L E j w40 HS40.out.pc)
   go_wp2_with fail
   refine HE41.out.mono ?_
   rintro e w41 hres
   cases h41:need kSemi L j with
   | no k er =>
    rw [h41] at hres
    obtain ⟨rfl,hg⟩:=hres
    have hrs:=(bnd_no h41).symm.trans HR40.out
    subst hrs
    go_wp2
    exact ⟨rfl,rfl,HS40.out.gr.trans hg⟩
   | ok u41x j41 =>
   rw [h41] at hres
   obtain ⟨rfl,hp41,hg41⟩:=hres
   have HS41:=hid (HS40.out.step hp41 hg41)
   have HR41:Hid (_=RS):=hid ((bnd_ok h41).symm.trans HR40.out)
   clear hp41 hg41 HS40 HR40 HE41
   obtain ⟨q42,j42,h42⟩:∃ q j,optO kTol L j41=.ok q j:=by
    unfold optO
    split
    ·exact ⟨_,_,rfl⟩
    ·exact ⟨_,_,rfl⟩
   have HE42:Hid (Calls Tryz.prog 85 #[.pointer (some ⟨b,0,none⟩),.string ⟨#[116,111,108,101,114,97,110,99,101]⟩] w41 (Res Value.bool w41 b A c L E (.ok q42 j42))):=hid (by
    have:=accept_any kTol b A c L E j41 w41 HS41.out.pc
    rw [h42] at this
    exact this)
   go_wp2_with fail
   refine HE42.out.mono ?_
   rintro e w42 ⟨rfl,hp42,hg42⟩
   have HS42:=hid (HS41.out.step hp42 hg42)
   clear hp42 hg42 HS41 HE42
   go_upto_if 65 with (fail)
   go_cut [] (fun wc=>∃ (tl:Int) (jt:Nat),tolO L j41=.ok tl jt∧Hid (SSt w wc xb b A c L E jt ⟨nm,gr,g,ts,tA,tc,tl,⟨⟨false,(0,0),0,[]⟩,none,0⟩,[],none,0⟩))
   case first =>
    cases q42
    ·go_wp2_with fail
     go_meet
     exact ⟨1,j42,by simp only [tolO,bnd,h42,Bool.false_eq_true,if_false,ret],HS42⟩
    ·skip
     have HE43:=hid (number_any 1 50 b A c L E j42 w42 HS42.out.pc)
     go_wp2_with fail
     refine HE43.out.mono ?_
     rintro e w43 hres
     cases h43:numO 1 50 L j42 with
     | no k er =>
      rw [h43] at hres
      obtain ⟨rfl,hg⟩:=hres
      have hst:tolO L j41=.no k er:=by simp only [tolO,bnd,h42,if_true,h43]
      have hrs:=(bnd_no hst).symm.trans HR41.out
      subst hrs
      go_wp2
      exact ⟨rfl,rfl,HS42.out.gr.trans hg⟩
     | ok tl j43 =>
     rw [h43] at hres
     obtain ⟨rfl,hp43,hg43⟩:=hres
     have HS43:=hid (HS42.out.step hp43 hg43)
     clear hp43 hg43 HS42 HE43
     have x4:=cell_of HS43.out.obj 4 _ rfl
     have y4:=free_of HS43.out.obj 4
     have HS44:Hid (SSt w (w43.setCell ⟨xb,4,none⟩ (.int .i64 tl)) xb b A c L E j43 ⟨nm,gr,g,ts,tA,tc,tl,⟨⟨false,(0,0),0,[]⟩,none,0⟩,[],none,0⟩):=hid (HS43.out.put (grown_set (grown_refl w43 (some xb)) 4 (.int .i64 tl)) (block_set HS43.out.obj 4 _) (HS43.out.keepX (grown_set (grown_refl w43 (some xb)) 4 (.int .i64 tl))))
     go_upto_region 20 with fail
     clear x4 y4 HS43
     generalize w43.setCell ⟨xb,4,none⟩ (.int .i64 tl)=W44 at *
     have HE45:Hid (Calls Tryz.prog 83 #[.pointer (some ⟨b,0,none⟩),.slice (some ⟨W44.heap.size,0,none⟩) 1 1] (W44.alloc (.cells #[.string ⟨#[59]⟩] 9)) (Res (fun _=>.tuple #[]) W44 b A c L E (need kSemi L j43))):=hid (expect_one kSemi b A c L E j43 W44 HS44.out.pc)
     go_wp2_with fail
     refine HE45.out.mono ?_
     rintro e w45 hres
     cases h45:need kSemi L j43 with
     | no k er =>
      rw [h45] at hres
      obtain ⟨rfl,hg⟩:=hres
      have hst:tolO L j41=.no k er:=by simp only [tolO,bnd,h42,if_true,h43,h45]
      have hrs:=(bnd_no hst).symm.trans HR41.out
      subst hrs
      go_wp2
      exact ⟨rfl,rfl,HS44.out.gr.trans hg⟩
     | ok u45x j45 =>
     rw [h45] at hres
     obtain ⟨rfl,hp45,hg45⟩:=hres
     have HS45:=hid (HS44.out.step hp45 hg45)
     clear hp45 hg45 HS44 HE45
     go_wp2_with fail
     go_meet
     exact ⟨tl,j45,by simp only [tolO,bnd,h42,if_true,h43,h45,ret],HS45⟩
   obtain ⟨tl,jt,htl,HSt⟩:=hcut
   have HRt:Hid (_=RS):=hid ((bnd_ok htl).symm.trans HR41.out)
   clear htl HS42 HR41 h42
   have HE61:Hid (Calls Tryz.prog 83 #[.pointer (some ⟨b,0,none⟩),.slice (some ⟨wc.heap.size,0,none⟩) 1 1] (wc.alloc (.cells #[.string ⟨#[114,105,110,103]⟩] 9)) (Res (fun _=>.tuple #[]) wc b A c L E (need kRing L jt))):=hid (expect_one kRing b A c L E jt wc HSt.out.pc)
   go_wp2_with fail
   refine HE61.out.mono ?_
   rintro e w61 hres
   cases h61:need kRing L jt with
   | no k er =>
    rw [h61] at hres
    obtain ⟨rfl,hg⟩:=hres
    have hrs:=(bnd_no h61).symm.trans HRt.out
    subst hrs
    go_wp2
    exact ⟨rfl,rfl,HSt.out.gr.trans hg⟩
   | ok u61x j61 =>
   rw [h61] at hres
   obtain ⟨rfl,hp61,hg61⟩:=hres
   have HS61:=hid (HSt.out.step hp61 hg61)
   have HR61:Hid (_=RS):=hid ((bnd_ok h61).symm.trans HRt.out)
   clear hp61 hg61 HSt HRt HE61
   have HE62:=hid (outline_any b A c L E j61 w61 HS61.out.pc)
   go_wp2_with fail
   refine HE62.out.mono ?_
   rintro e w62 hres
   cases h62:outlineO L j61 with
   | no k er =>
    rw [h62] at hres
    obtain ⟨rfl,hg⟩:=hres
    have hrs:=(bnd_no h62).symm.trans HR61.out
    subst hrs
    go_wp2
    exact ⟨rfl,rfl,HS61.out.gr.trans hg⟩
   | ok o j62 =>
   rw [h62] at hres
   obtain ⟨⟨_,rfl,oA,od,rfl,hat,hod,hol⟩,hp62,hg62⟩:=hres
   have HOIo:Hid (OutIn 153 0 w62 ⟨o,oA,od⟩):=hid ⟨hat,hod,Nat.le_trans hol (by decide)⟩
   clear hat hod hol
   have HS62:=hid (HS61.out.step hp62 hg62)
   have HR62:Hid (_=RS):=hid ((bnd_ok h62).symm.trans HR61.out)
   clear hp62 hg62 HS61 HR61 HE62
   unfold outV
   have x5:=cell_of HS62.out.obj 5 _ rfl
   have y5:=free_of HS62.out.obj 5
   have x6:=cell_of HS62.out.obj 6 _ rfl
   have y6:=free_of HS62.out.obj 6
   have x7:=cell_of HS62.out.obj 7 _ rfl
   have y7:=free_of HS62.out.obj 7
   have x8:=cell_of HS62.out.obj 8 _ rfl
   have y8:=free_of HS62.out.obj 8
   have x9:=cell_of HS62.out.obj 9 _ rfl
   have y9:=free_of HS62.out.obj 9
   have HG5:=hid (grown_set (grown_set (grown_set (grown_set (grown_set (grown_refl w62 (some xb)) 5 (.bool o.circle)) 6 (.int .i64 o.center.1)) 7 (.int .i64 o.center.2)) 8 (.int .i64 o.radius)) 9 (.slice oA o.steps.length od))
   have HS70:Hid (SSt w (((((w62.setCell ⟨xb,5,none⟩ (.bool o.circle)).setCell ⟨xb,6,none⟩ (.int .i64 o.center.1)).setCell ⟨xb,7,none⟩ (.int .i64 o.center.2)).setCell ⟨xb,8,none⟩ (.int .i64 o.radius)).setCell ⟨xb,9,none⟩ (.slice oA o.steps.length od)) xb b A c L E j62 ⟨nm,gr,g,ts,tA,tc,tl,⟨o,oA,od⟩,[],none,0⟩):=hid (HS62.out.put HG5.out (block_set (block_set (block_set (block_set (block_set HS62.out.obj 5 _) 6 _) 7 _) 8 _) 9 _) ⟨(HS62.out.keepX HG5.out).1,(HS62.out.keepX HG5.out).2.1,HOIo.out.keep HG5.out (RowW.at HS62.out.obj (Nat.zero_le _)) (by decide),(HS62.out.keepX HG5.out).2.2.2⟩)
   have HRH:Hid (bnd (holesO 20001 ([]:List Outline)) (srcH nm gr g ts tl o) L j62=RS):=HR62
   have HJH:Hid (0≤j62):=hid (Nat.zero_le _)
   go_upto_region 23 with fail
   clear x5 y5 x6 y6 x7 y7 x8 y8 x9 y9 HG5 HS62 HR62 HOIo h62
   generalize (((((w62.setCell ⟨xb,5,none⟩ (.bool o.circle)).setCell ⟨xb,6,none⟩ (.int .i64 o.center.1)).setCell ⟨xb,7,none⟩ (.int .i64 o.center.2)).setCell ⟨xb,8,none⟩ (.int .i64 o.radius)).setCell ⟨xb,9,none⟩ (.slice oA o.steps.length od))=W70 at *
   obtain ⟨i0,ia,ib,ic,id⟩:=info_parts info_out
   go_loopg [] 20001 (fun f wr=>∃ (hs:List OutM) (hA:Option Addr) (hc j:Nat),Hid (bnd (holesO f (hs.map OutM.o)) (srcH nm gr g ts tl o) L j=RS)∧L.length < f+j∧hs.length≤j∧Hid (SSt w wr xb b A c L E j ⟨nm,gr,g,ts,tA,tc,tl,⟨o,oA,od⟩,hs,hA,hc⟩))
   case atStart=>exact ⟨[],none,0,j62,HRH,by have:=HFEW.out;omega,by simp,HS70⟩
   case round =>
    obtain ⟨hs,hA,hc,j,HR,hfj,htj,HS⟩:=hrel
    rcases gk with _ | f
    ·have:=HS.out.pc.ix
     omega
    clear HRH HS70 HJH
    cases hq:isT L kHole j
    ·skip
     have HR90:Hid (_=RS):=hid ((show srcH nm gr g ts tl o (hs.map OutM.o) L j=bnd (need kEnd) _ L j from rfl).symm.trans ((holes_end hq).symm.trans HR.out))
     have HHL:Hid (hs.length≤20000):=hid (by have:=HS.out.pc.ix;have:=HFEW.out;omega)
     have HE90:Hid (Calls Tryz.prog 85 #[.pointer (some ⟨b,0,none⟩),.string ⟨#[104,111,108,101]⟩] wr (Res Value.bool wr b A c L E (.ok false j))):=hid (by
      have:=accept_any kHole b A c L E j wr HS.out.pc
      rw [opt_no hq] at this
      exact this)
     go_wp2_with fail
     refine HE90.out.mono ?_
     rintro e w90 ⟨rfl,hp90,hg90⟩
     have HS90:=hid (HS.out.step hp90 hg90)
     clear hp90 hg90 HE90 HS HR i0 ia ib ic id hfj htj hq
     have HE91:Hid (Calls Tryz.prog 83 #[.pointer (some ⟨b,0,none⟩),.slice (some ⟨w90.heap.size,0,none⟩) 1 1] (w90.alloc (.cells #[.string ⟨#[125]⟩] 9)) (Res (fun _=>.tuple #[]) w90 b A c L E (need kEnd L j))):=hid (expect_one kEnd b A c L E j w90 HS90.out.pc)
     go_wp2_with fail
     refine HE91.out.mono ?_
     rintro e w91 hres
     cases h91:need kEnd L j with
     | no k er =>
      rw [h91] at hres
      obtain ⟨rfl,hg⟩:=hres
      have hrs:=(bnd_no h91).symm.trans HR90.out
      subst hrs
      go_wp2
      exact ⟨rfl,rfl,HS90.out.gr.trans hg⟩
     | ok u91x j91 =>
     rw [h91] at hres
     obtain ⟨rfl,hp91,hg91⟩:=hres
     have HS91:=hid (HS90.out.step hp91 hg91)
     have HR91:Hid (_=RS):=hid ((bnd_ok h91).symm.trans HR90.out)
     clear hp91 hg91 HS90 HR90 HE91
     have hrs:R.ok (⟨nm,gr,g,ts,tl,o,hs.map OutM.o⟩:Pa.Source) j91=RS:=HR91.out
     subst hrs
     have x0:=cell_of HS91.out.obj 0 (.string ⟨nm.toArray⟩) rfl
     have z0:=cell_of HS91.out.res 0 _ rfl
     have q0:=free_of HS91.out.res 0
     have x1:=cell_of HS91.out.obj 1 (.string ⟨gr.toArray⟩) rfl
     have z1:=cell_of HS91.out.res 1 _ rfl
     have q1:=free_of HS91.out.res 1
     have x2:=cell_of HS91.out.obj 2 (.int .i64 g) rfl
     have z2:=cell_of HS91.out.res 2 _ rfl
     have q2:=free_of HS91.out.res 2
     have x3:=cell_of HS91.out.obj 3 (.slice tA ts.length tc) rfl
     have z3:=cell_of HS91.out.res 3 _ rfl
     have q3:=free_of HS91.out.res 3
     have x4:=cell_of HS91.out.obj 4 (.int .i64 tl) rfl
     have z4:=cell_of HS91.out.res 4 _ rfl
     have q4:=free_of HS91.out.res 4
     have x5:=cell_of HS91.out.obj 5 (.bool o.circle) rfl
     have z5:=cell_of HS91.out.res 5 _ rfl
     have q5:=free_of HS91.out.res 5
     have x6:=cell_of HS91.out.obj 6 (.int .i64 o.center.1) rfl
     have z6:=cell_of HS91.out.res 6 _ rfl
     have q6:=free_of HS91.out.res 6
     have x7:=cell_of HS91.out.obj 7 (.int .i64 o.center.2) rfl
     have z7:=cell_of HS91.out.res 7 _ rfl
     have q7:=free_of HS91.out.res 7
     have x8:=cell_of HS91.out.obj 8 (.int .i64 o.radius) rfl
     have z8:=cell_of HS91.out.res 8 _ rfl
     have q8:=free_of HS91.out.res 8
     have x9:=cell_of HS91.out.obj 9 (.slice oA o.steps.length od) rfl
     have z9:=cell_of HS91.out.res 9 _ rfl
     have q9:=free_of HS91.out.res 9
     have x10:=cell_of HS91.out.obj 10 (.slice hA hs.length hc) rfl
     have z10:=cell_of HS91.out.res 10 _ rfl
     have q10:=free_of HS91.out.res 10
     have HGF:Hid (w91.grownBy (((((((((((w91.setCell ⟨w.heap.size,0,none⟩ (.string ⟨nm.toArray⟩)).setCell ⟨w.heap.size,1,none⟩ (.string ⟨gr.toArray⟩)).setCell ⟨w.heap.size,2,none⟩ (.int .i64 g)).setCell ⟨w.heap.size,3,none⟩ (.slice tA ts.length tc)).setCell ⟨w.heap.size,4,none⟩ (.int .i64 tl)).setCell ⟨w.heap.size,5,none⟩ (.bool o.circle)).setCell ⟨w.heap.size,6,none⟩ (.int .i64 o.center.1)).setCell ⟨w.heap.size,7,none⟩ (.int .i64 o.center.2)).setCell ⟨w.heap.size,8,none⟩ (.int .i64 o.radius)).setCell ⟨w.heap.size,9,none⟩ (.slice oA o.steps.length od)).setCell ⟨w.heap.size,10,none⟩ (.slice hA hs.length hc)) (some w.heap.size)):=hid (sets_grown [.string ⟨nm.toArray⟩,.string ⟨gr.toArray⟩,.int .i64 g,.slice tA ts.length tc,.int .i64 tl,.bool o.circle,.int .i64 o.center.1,.int .i64 o.center.2,.int .i64 o.radius,.slice oA o.steps.length od,.slice hA hs.length hc] 0 _ _ (grown_refl w91 (some w.heap.size)))
     have HWF:Hid ((((((((((((w91.setCell ⟨w.heap.size,0,none⟩ (.string ⟨nm.toArray⟩)).setCell ⟨w.heap.size,1,none⟩ (.string ⟨gr.toArray⟩)).setCell ⟨w.heap.size,2,none⟩ (.int .i64 g)).setCell ⟨w.heap.size,3,none⟩ (.slice tA ts.length tc)).setCell ⟨w.heap.size,4,none⟩ (.int .i64 tl)).setCell ⟨w.heap.size,5,none⟩ (.bool o.circle)).setCell ⟨w.heap.size,6,none⟩ (.int .i64 o.center.1)).setCell ⟨w.heap.size,7,none⟩ (.int .i64 o.center.2)).setCell ⟨w.heap.size,8,none⟩ (.int .i64 o.radius)).setCell ⟨w.heap.size,9,none⟩ (.slice oA o.steps.length od)).setCell ⟨w.heap.size,10,none⟩ (.slice hA hs.length hc)).heap[w.heap.size]? = some (.cells #[.string ⟨nm.toArray⟩,.string ⟨gr.toArray⟩,.int .i64 g,.slice tA ts.length tc,.int .i64 tl,.bool o.circle,.int .i64 o.center.1,.int .i64 o.center.2,.int .i64 o.radius,.slice oA o.steps.length od,.slice hA hs.length hc] 58 (0,0))):=hid (sets_block [.string ⟨nm.toArray⟩,.string ⟨gr.toArray⟩,.int .i64 g,.slice tA ts.length tc,.int .i64 tl,.bool o.circle,.int .i64 o.center.1,.int .i64 o.center.2,.int .i64 o.radius,.slice oA o.steps.length od,.slice hA hs.length hc] 0 w91 [.string ⟨#[]⟩,.string ⟨#[]⟩,.int .i64 0,.slice none 0 0,.int .i64 0,.bool false,.int .i64 0,.int .i64 0,.int .i64 0,.slice none 0 0,.slice none 0 0] HS91.out.res rfl)
     have HX:=hid (And.intro HGF.out HWF.out)
     clear HGF HWF
     go_wp2_with fail
     clear x0 z0 q0 x1 z1 q1 x2 z2 q2 x3 z3 q3 x4 z4 q4 x5 z5 q5 x6 z6 q6 x7 z7 q7 x8 z8 q8 x9 z9 q9 x10 z10 q10
     generalize (((((((((((w91.setCell ⟨w.heap.size,0,none⟩ (.string ⟨nm.toArray⟩)).setCell ⟨w.heap.size,1,none⟩ (.string ⟨gr.toArray⟩)).setCell ⟨w.heap.size,2,none⟩ (.int .i64 g)).setCell ⟨w.heap.size,3,none⟩ (.slice tA ts.length tc)).setCell ⟨w.heap.size,4,none⟩ (.int .i64 tl)).setCell ⟨w.heap.size,5,none⟩ (.bool o.circle)).setCell ⟨w.heap.size,6,none⟩ (.int .i64 o.center.1)).setCell ⟨w.heap.size,7,none⟩ (.int .i64 o.center.2)).setCell ⟨w.heap.size,8,none⟩ (.int .i64 o.radius)).setCell ⟨w.heap.size,9,none⟩ (.slice oA o.steps.length od)).setCell ⟨w.heap.size,10,none⟩ (.slice hA hs.length hc))=WF at HX ⊢
     have z0:=cell_of HX.out.2 0 _ rfl
     have z1:=cell_of HX.out.2 1 _ rfl
     have z2:=cell_of HX.out.2 2 _ rfl
     have z3:=cell_of HX.out.2 3 _ rfl
     have z4:=cell_of HX.out.2 4 _ rfl
     have z5:=cell_of HX.out.2 5 _ rfl
     have z6:=cell_of HX.out.2 6 _ rfl
     have z7:=cell_of HX.out.2 7 _ rfl
     have z8:=cell_of HX.out.2 8 _ rfl
     have z9:=cell_of HX.out.2 9 _ rfl
     have z10:=cell_of HX.out.2 10 _ rfl
     refine bodyPost_ret (v:=.agg #[.string ⟨nm.toArray⟩,.string ⟨gr.toArray⟩,.int .i64 g,.slice tA ts.length tc,.int .i64 tl,.bool o.circle,.int .i64 o.center.1,.int .i64 o.center.2,.int .i64 o.radius,.slice oA o.steps.length od,.slice hA hs.length hc]) (by simp [results,Tryz.results40,go_sem,z0,z1,z2,z3,z4,z5,z6,z7,z8,z9,z10]) rfl ?_
     have hl:=HS91.out.lt
     exact ⟨⟨_,rfl,⟨nm,gr,g,ts,tA,tc,tl,⟨o,oA,od⟩,hs,hA,hc⟩,rfl,rfl,(HS91.out.rows.in_ (Nat.le_trans HTL.out (by decide)) (Nat.le_trans HHL.out (by decide))).keep HX.out.1 (RowW.at HS91.out.res (Nat.zero_le _)) (by decide) (by decide) (by decide),fun g off e=>by have:=(HS91.out.rows.1.lt g (by show (Value.slice tA _ _).ownBlock=_;rw [show tA=_ from e];rfl)).1;omega⟩,HS91.out.pc.wide HRW.out hl HX.out.1 (fun k e=>by cases e;omega),grown_wide HS91.out.gr HX.out.1 (fun k e=>by cases e;omega)⟩
    ·skip
     have HRN:=hid ((holes_go hq).symm.trans HR.out)
     have HE80:Hid (Calls Tryz.prog 85 #[.pointer (some ⟨b,0,none⟩),.string ⟨#[104,111,108,101]⟩] wr (Res Value.bool wr b A c L E (.ok true (j+1)))):=hid (by
      have:=accept_any kHole b A c L E j wr HS.out.pc
      rw [opt_yes hq] at this
      exact this)
     go_wp2_with fail
     refine HE80.out.mono ?_
     rintro e w80 ⟨rfl,hp80,hg80⟩
     have HS80:=hid (HS.out.step hp80 hg80)
     clear hp80 hg80 HE80 HS HR
     have HSD:=hid (HS80.out.below (show Below _ w80 w80.drew from below_drewN (Below.refl _ _) 1))
     have HNB:=hid (outline_any b A c L E (j+1) w80.drew HSD.out.pc)
     have x3:w80.drew.cell? ⟨xb,10,none⟩=some (.slice hA hs.length hc):=cell_of HSD.out.obj 10 _ rfl
     go_upto_region 24 with fail
     refine wp_region_tillK (k:=7) (S1:=fun w'=>True) (S2:=fun w'=>w'.cell? ⟨xb,10,none⟩=some (.slice hA hs.length hc)) (by kernel_rfl) ?_ (fun hHeld=>?_)
     ·exact ⟨trivial,x3⟩
     refine tK (i:=0) (v:=?_) rfl (Or.inl ⟨by rfl,?_⟩) ?_
     rotate_left
     ·intro w' hSw
      (try dsimp only at hSw)
      go_simp<;>with_reducible rfl
     try simp only [Act.put,sA]
     refine tK (i:=1) (v:=?_) rfl (Or.inl ⟨by rfl,?_⟩) ?_
     rotate_left
     ·intro w' hSw
      (try dsimp only at hSw)
      go_simp<;>with_reducible rfl
     try simp only [Act.put]
     refine tK (i:=2) (v:=?_) rfl (Or.inl ⟨by rfl,?_⟩) ?_
     rotate_left
     ·intro w' hSw
      (try dsimp only at hSw)
      go_simp<;>with_reducible rfl
     try simp only [Act.put]
     refine wpAnyK_one (i:=3) (o:=_) (by kernel_rfl) rfl (fun K hK=>?_)
     go_simp
     go_at_call 88
     refine HNB.out.mono ?_
     rintro e w81 hres
     cases h81:outlineO L (j+1) with
     | no k er =>
      rw [h81] at hres
      obtain ⟨rfl,hg⟩:=hres
      have hrs:=(bnd_no h81).symm.trans HRN.out
      subst hrs
      exact ⟨rfl,rfl,HSD.out.gr.trans hg⟩
     | ok p j81 =>
     rw [h81] at hres
     obtain ⟨⟨_,rfl,pA,pd,rfl,hat,hod,hol⟩,hp81,hg81⟩:=hres
     have HOIp:Hid (OutIn 153 0 w81 ⟨p,pA,pd⟩):=hid ⟨hat,hod,Nat.le_trans hol (by decide)⟩
     have HS81:=hid (HSD.out.step hp81 hg81)
     have HR81:Hid (bnd (holesO f (hs.map OutM.o++[p])) (srcH nm gr g ts tl o) L j81=RS):=hid ((bnd_ok h81).symm.trans HRN.out)
     have HN81:=hid (outline_on h81)
     clear hat hod hol hp81 hg81 h81 x3
     unfold outV
     have x3:w81.cell? ⟨xb,10,none⟩=some (.slice hA hs.length hc):=cell_of HS81.out.obj 10 _ rfl
     refine hK.out _ _ ?_ (fun _=>?_) (fun hHeld=>?_)
     ·trivial
     ·exact x3
     replace hHeld:=And.intro hHeld.1 (hHeld.2 (by decide))
     clear hK K
     try simp only [Act.put,sA,sB,sC]
     refine wpAnyK_one (i:=4) (o:=_) (by kernel_rfl) rfl (fun K hK=>?_)
     go_simp
     have HS82:=hid (HS81.out.below (bel1 w81 (.cells #[.bool p.circle,.int .i64 p.center.1,.int .i64 p.center.2,.int .i64 p.radius,.slice pA p.steps.length pd] 55)))
     have HOI2:=hid (HOIp.out.below (bel1 w81 (.cells #[.bool p.circle,.int .i64 p.center.1,.int .i64 p.center.2,.int .i64 p.radius,.slice pA p.steps.length pd] 55)))
     have HNW:=hid (newN_row w81 [.bool p.circle,.int .i64 p.center.1,.int .i64 p.center.2,.int .i64 p.radius,.slice pA p.steps.length pd] 55)
     have z3:(w81.alloc (.cells #[.bool p.circle,.int .i64 p.center.1,.int .i64 p.center.2,.int .i64 p.radius,.slice pA p.steps.length pd] 55)).cell? ⟨xb,10,none⟩=some (.slice hA hs.length hc):=cell_of HS82.out.obj 10 _ rfl
     have HO82:Hid ((w81.alloc (.cells #[.bool p.circle,.int .i64 p.center.1,.int .i64 p.center.2,.int .i64 p.radius,.slice pA p.steps.length pd] 55)).ownsRow (w.heap.size+1) 55 5 (.slice hA hs.length hc) hs.length (hs.flatMap outCells)):=hid HS82.out.rows.2.1
     have C3:Hid (hs.length+1≤maxLen∧(hs.length+1)*56≤140737488355328):=hid (by have:=HS82.out.pc.ix;have:=HFEW.out;have:=HN81.out;unfold maxLen;omega)
     have C5:Hid (w.heap.size+1≤(w81.alloc (.cells #[.bool p.circle,.int .i64 p.center.1,.int .i64 p.center.2,.int .i64 p.radius,.slice pA p.steps.length pd] 55)).heap.size):=hid (by have:=blk_lt HS82.out.res;omega)
     refine hK.out _ _ ?_ (fun _=>?_) (fun hHeld=>?_)
     ·trivial
     ·exact z3
     replace hHeld:=And.intro hHeld.1 (hHeld.2 (by decide))
     clear hK K
     try simp only [Act.put,sA,sB,sC]
     refine wpAnyK_one (i:=5) (o:=_) (by kernel_rfl) rfl (fun K hK=>?_)
     refine step_append_row (by rfl) _ _ _ (by rfl) (w.heap.size+1) 55 i0 _ 5 56 Tryz.underlying56 ia ib ic id rfl (by omega) (.slice hA hs.length hc) hs.length (hs.flatMap outCells) (by rfl) HO82.out (some ⟨w81.heap.size,0,none⟩) 1 1 [.bool p.circle,.int .i64 p.center.1,.int .i64 p.center.2,.int .i64 p.radius,.slice pA p.steps.length pd] (by rfl) HNW.out rfl (by intro uu hu;simp at hu;rcases hu with rfl | rfl | rfl | rfl | rfl<;>rfl) C3.out.1 C3.out.2 C5.out ?_
     intro v5 w5 hown5 hg5
     obtain ⟨B5,d5,rfl,_⟩:=own_shape hown5
     have HP5:Hid (SSt w (w5.setCell ⟨xb,10,none⟩ (.slice B5 (hs.length+1) d5)) xb b A c L E j81 ⟨nm,gr,g,ts,tA,tc,tl,⟨o,oA,od⟩,(hs++[⟨p,pA,pd⟩]),B5,d5⟩):=hid (SSt.pushH (x:=⟨p,pA,pd⟩) (B':=B5) (d':=d5) HS82.out HOI2.out (w5:=w5) hown5 hg5)
     have HO5:=hid (heap_keep hg5 ((RowW.own HO82.out).mono (Nat.zero_le _)) (by decide) HS82.out.obj)
     have y5:w5.cell? ⟨xb,10,none⟩=some (.slice hA hs.length hc):=cell_of HO5.out 10 _ rfl
     have q5:=free_of HO5.out 10
     clear hown5 hg5 z3
     refine hK.out _ _ ?_ (fun _=>?_) (fun hHeld=>?_)
     ·trivial
     ·exact y5
     replace hHeld:=And.intro hHeld.1 (hHeld.2 (by decide))
     clear hK K
     try simp only [Act.put,sA]
     refine wpAnyK_one (i:=6) (o:=_) (by kernel_rfl) rfl (fun K hK=>?_)
     go_simp
     refine hK.out _ _ ?_ (fun _=>?_) (fun hHeld=>?_)
     ·trivial
     ·exact y5
     replace hHeld:=And.intro hHeld.1 (hHeld.2 (by decide))
     clear hK K
     try simp only [Act.put,sA,sB,sC]
     refine wpAnyK_one (i:=7) (o:=_) (by kernel_rfl) rfl (fun K hK=>?_)
     go_simp
     refine hK.out _ _ ?_ (fun hne=>?_) (fun hHeld=>?_)
     ·trivial
     ·exact absurd rfl hne
     clear hK K
     try simp only [Act.put,sA,sB,sC]
     refine wpAnyK_done (by kernel_rfl) ?_ _
     go_wp2_with fail
     go_roundg f
     case measure=>omega
     case rel=>exact ⟨hs++[⟨p,pA,pd⟩],B5,d5,j81,by rw [List.map_append];exact HR81,by have:=HN81.out;omega,by rw [List.length_append];simp only [List.length_singleton];have:=HN81.out;omega,HP5⟩
  ·skip
   have HRN:=hid ((turns_go hq).symm.trans HR.out)
   have HE30:Hid (Calls Tryz.prog 85 #[.pointer (some ⟨b,0,none⟩),.string ⟨#[44]⟩] wr (Res Value.bool wr b A c L E (.ok true (j+1)))):=hid (by
    have:=accept_any kComma b A c L E j wr HS.out.pc
    rw [opt_yes hq] at this
    exact this)
   go_wp2_with fail
   refine HE30.out.mono ?_
   rintro e w30 ⟨rfl,hp30,hg30⟩
   have HS30:=hid (HS.out.step hp30 hg30)
   clear hp30 hg30 HE30 HS HR
   have HSD:=hid (HS30.out.below (show Below _ w30 w30.drew from below_drewN (Below.refl _ _) 1))
   have elen:Hid (ts.length=n+1):=hid HL.out.1
   have HOW:Hid (w30.drew.ownsRow (w.heap.size+1) 3 1 (.slice tA ts.length tc) ts.length (ts.map (Value.int .i64))):=hid HSD.out.rows.1
   obtain ⟨tg,tc2,eta,htc,htg,htl,hcell⟩:∃ tg tc2,tA=some ⟨tg,0,none⟩∧tc2=tc∧tg < w30.drew.heap.size∧n < ts.length∧w30.drew.cell? ⟨tg,n,none⟩=some (.int .i64 u):=by
    have h1:=HOW.out
    have h2:=elen.out
    rcases h1.2 with ⟨h3,_⟩ | ⟨tg,cap,cur,hv,hb,hh,hn',hc,hs,ht⟩
    ·injection h3 with _ h4 _
     omega
    ·injection hv with e1 e2 e3
     refine ⟨tg,cap,e1,e3.symm,blk_lt hh,by omega,?_⟩
     have hv2:(Value.slice tA ts.length tc)=.slice (some ⟨tg,0,none⟩) ts.length tc:=by rw [e1]
     have h5:w30.drew.ownsRow (w.heap.size+1) 3 1 (.slice (some ⟨tg,0,none⟩) ts.length tc) ts.length (ts.map (Value.int .i64)):=by rw [← hv2];exact h1
     have h6:=h5.cellAt n (by omega)
     rw [h6,List.getElem?_map,HL.out.2.2.1]
     rfl
   subst eta htc
   have HNU:=hid HL.out
   have HRM:Hid (bnd (numO (u+1) 7) (fun v=>bnd (turnsO f (ts++[v])) (srcT nm gr g)) L (j+1)=RS):=hid (by have:=HRN.out;rw [HL.out.2.1] at this;exact this)
   clear HRN
   have HNB:=hid (number_any (u+1) 7 b A c L E (j+1) w30.drew HSD.out.pc)
   have hu0:=HL.out.2.2.2.1
   have hu7:=HL.out.2.2.2.2
   have hx0:IntKind.i64.wrap ((n:Int)+1 - 1)=(n:Int):=by have:=HFEW.out;have:=HSD.out.pc.ix;rw [wrapEq];unfold wrap64;omega
   have hx9:IntKind.i64.wrap (n:Int)=(n:Int):=by have:=HFEW.out;have:=HSD.out.pc.ix;rw [wrapEq];unfold wrap64;omega
   have hx1:(n:Int) < (n:Int)+1:=by omega
   have hx2:(0:Int)≤(n:Int):=by omega
   have hx3:IntKind.i64.wrap (u+1)=u+1:=by rw [wrapEq];unfold wrap64;omega
   have x3:w30.drew.cell? ⟨xb,3,none⟩=some (.slice (some ⟨tg,0,none⟩) (n+1) tc2):=by
    have:=cell_of HSD.out.obj 3 (.slice (some ⟨tg,0,none⟩) ts.length tc2) rfl
    rw [elen.out] at this
    exact this
   clear hu0 hu7
   go_upto_region 16 with fail
   refine wp_region_tillK (k:=16) (S1:=fun w'=>True) (S2:=fun w'=>w'.cell? ⟨xb,3,none⟩=some (.slice (some ⟨tg,0,none⟩) (n+1) tc2)) (by kernel_rfl) ?_ (fun hHeld=>?_)
   ·exact ⟨trivial,x3⟩
   refine tK (i:=0) (v:=?_) rfl (Or.inl ⟨by rfl,?_⟩) ?_
   rotate_left
   ·intro w' hSw
    (try dsimp only at hSw)
    go_simp<;>with_reducible rfl
   try simp only [Act.put,sA]
   refine tK (i:=1) (v:=?_) rfl (Or.inl ⟨by rfl,?_⟩) ?_
   rotate_left
   ·intro w' hSw
    (try dsimp only at hSw)
    go_simp<;>with_reducible rfl
   try simp only [Act.put]
   refine tK (i:=2) (v:=?_) rfl (Or.inl ⟨by rfl,?_⟩) ?_
   rotate_left
   ·intro w' hSw
    (try dsimp only at hSw)
    go_simp<;>with_reducible rfl
   try simp only [Act.put]
   refine tK (i:=3) (v:=?_) rfl (Or.inl ⟨by rfl,?_⟩) ?_
   rotate_left
   ·intro w' hSw
    (try dsimp only at hSw)
    go_simp<;>with_reducible rfl
   try simp only [Act.put]
   refine tK (i:=4) (v:=?_) rfl (Or.inl ⟨by rfl,?_⟩) ?_
   rotate_left
   ·intro w' hSw
    (try dsimp only at hSw)
    go_simp<;>with_reducible rfl
   try simp only [Act.put]
   refine tK (i:=5) (v:=?_) rfl (Or.inl ⟨by rfl,?_⟩) ?_
   rotate_left
   ·intro w' hSw
    (try dsimp only at hSw)
    go_simp<;>with_reducible rfl
   try simp only [Act.put]
   refine tK (i:=6) (v:=?_) rfl (Or.inl ⟨by rfl,?_⟩) ?_
   rotate_left
   ·intro w' hSw
    (try dsimp only at hSw)
    go_simp<;>with_reducible rfl
   try simp only [Act.put]
   refine tK (i:=7) (v:=?_) rfl (Or.inl ⟨by rfl,?_⟩) ?_
   rotate_left
   ·intro w' hSw
    (try dsimp only at hSw)
    go_simp<;>with_reducible rfl
   try simp only [Act.put]
   refine tK (i:=8) (v:=?_) rfl (Or.inl ⟨by rfl,?_⟩) ?_
   rotate_left
   ·intro w' hSw
    (try dsimp only at hSw)
    go_simp<;>with_reducible rfl
   try simp only [Act.put]
   refine tK (i:=9) (v:=?_) rfl (Or.inl ⟨by rfl,?_⟩) ?_
   rotate_left
   ·intro w' hSw
    (try dsimp only at hSw)
    go_simp<;>with_reducible rfl
   try simp only [Act.put]
   refine wpAnyK_one (i:=10) (o:=_) (by kernel_rfl) rfl (fun K hK=>?_)
   go_simp
   refine hK.out _ _ ?_ (fun _=>?_) (fun hHeld=>?_)
   ·trivial
   ·exact x3
   replace hHeld:=And.intro hHeld.1 (hHeld.2 (by decide))
   clear hK K
   try simp only [Act.put,sA,sB,sC]
   refine tK (i:=11) (v:=?_) rfl (Or.inl ⟨by rfl,?_⟩) ?_
   rotate_left
   ·intro w' hSw
    (try dsimp only at hSw)
    go_simp<;>with_reducible rfl
   try simp only [Act.put,sA]
   refine wpAnyK_one (i:=12) (o:=_) (by kernel_rfl) rfl (fun K hK=>?_)
   go_simp
   go_at_call 87
   refine HNB.out.mono ?_
   rintro e w31 hres
   cases h31:numO (u+1) 7 L (j+1) with
   | no k er =>
    rw [h31] at hres
    obtain ⟨rfl,hg⟩:=hres
    have hrs:=(bnd_no h31).symm.trans HRM.out
    subst hrs
    exact ⟨rfl,rfl,HSD.out.gr.trans hg⟩
   | ok v j31 =>
   rw [h31] at hres
   obtain ⟨rfl,hp31,hg31⟩:=hres
   have HS31:=hid (HSD.out.step hp31 hg31)
   have HR31:Hid (bnd (turnsO f (ts++[v])) (srcT nm gr g) L j31=RS):=hid ((bnd_ok h31).symm.trans HRM.out)
   have HN31:=hid (num_ok h31)
   clear hp31 hg31 h31 x3
   have x3:w31.cell? ⟨xb,3,none⟩=some (.slice (some ⟨tg,0,none⟩) (n+1) tc2):=by
    have:=cell_of HS31.out.obj 3 (.slice (some ⟨tg,0,none⟩) ts.length tc2) rfl
    rw [elen.out] at this
    exact this
   refine hK.out _ _ ?_ (fun _=>?_) (fun hHeld=>?_)
   ·trivial
   ·exact x3
   replace hHeld:=And.intro hHeld.1 (hHeld.2 (by decide))
   clear hK K
   try simp only [Act.put,sA,sB,sC]
   refine wpAnyK_one (i:=13) (o:=_) (by kernel_rfl) rfl (fun K hK=>?_)
   go_simp
   have HS32:=hid (HS31.out.below (bel1 w31 (.cells #[.int .i64 v] 3)))
   have HNW:=hid (newN_row w31 [.int .i64 v] 3)
   have z3:(w31.alloc (.cells #[.int .i64 v] 3)).cell? ⟨xb,3,none⟩=some (.slice (some ⟨tg,0,none⟩) (n+1) tc2):=by
    have:=cell_of HS32.out.obj 3 (.slice (some ⟨tg,0,none⟩) ts.length tc2) rfl
    rw [elen.out] at this
    exact this
   have HO32:Hid ((w31.alloc (.cells #[.int .i64 v] 3)).ownsRow (w.heap.size+1) 3 1 (.slice (some ⟨tg,0,none⟩) (n+1) tc2) (n+1) (ts.map (Value.int .i64))):=hid (by
    have:=HS32.out.rows.1
    dsimp only at this
    rw [elen.out] at this
    exact this)
   have C3:Hid (n+1+1≤maxLen∧(n+1+1)*8≤140737488355328):=hid (by have:=HS32.out.pc.ix;have:=HFEW.out;have:=elen.out;have:=HN31.out.2.2;unfold maxLen;omega)
   have C5:Hid (w.heap.size+1≤(w31.alloc (.cells #[.int .i64 v] 3)).heap.size):=hid (by have:=blk_lt HS32.out.res;omega)
   refine hK.out _ _ ?_ (fun _=>?_) (fun hHeld=>?_)
   ·trivial
   ·exact z3
   replace hHeld:=And.intro hHeld.1 (hHeld.2 (by decide))
   clear hK K
   try simp only [Act.put,sA,sB,sC]
   refine wpAnyK_one (i:=14) (o:=_) (by kernel_rfl) rfl (fun K hK=>?_)
   refine step_append_row (by rfl) _ _ _ (by rfl) (w.heap.size+1) 3 i0 _ 1 8 Tryz.underlying33 ia ib ic id rfl (by omega) (.slice (some ⟨tg,0,none⟩) (n+1) tc2) (n+1) (ts.map (Value.int .i64)) (by rfl) HO32.out (some ⟨w31.heap.size,0,none⟩) 1 1 [.int .i64 v] (by rfl) HNW.out rfl (by intro uu hu;simp at hu;rcases hu with rfl;rfl) C3.out.1 C3.out.2 C5.out ?_
   intro v5 w5 hown5 hg5
   obtain ⟨B5,d5,rfl,_⟩:=own_shape hown5
   have HP5:Hid (SSt w (w5.setCell ⟨xb,3,none⟩ (.slice B5 (n+1+1) d5)) xb b A c L E j31 ⟨nm,gr,g,(ts++[v]),B5,d5,1,⟨⟨false,(0,0),0,[]⟩,none,0⟩,[],none,0⟩):=hid (by
    have:=SSt.pushT (v:=v) (B':=B5) (d':=d5) HS32.out (w5:=w5) (by dsimp only;rw [elen.out];exact hown5) (by dsimp only;rw [elen.out];exact hg5)
    dsimp only at this
    rw [elen.out] at this
    exact this)
   have HO5:=hid (heap_keep hg5 ((RowW.own HO32.out).mono (Nat.zero_le _)) (by decide) HS32.out.obj)
   have y5:w5.cell? ⟨xb,3,none⟩=some (.slice (some ⟨tg,0,none⟩) (n+1) tc2):=by
    have:=cell_of HO5.out 3 (.slice (some ⟨tg,0,none⟩) ts.length tc2) rfl
    rw [elen.out] at this
    exact this
   have q5:=free_of HO5.out 3
   clear hown5 hg5 z3
   refine hK.out _ _ ?_ (fun _=>?_) (fun hHeld=>?_)
   ·trivial
   ·exact y5
   replace hHeld:=And.intro hHeld.1 (hHeld.2 (by decide))
   clear hK K
   try simp only [Act.put,sA]
   refine wpAnyK_one (i:=15) (o:=_) (by kernel_rfl) rfl (fun K hK=>?_)
   go_simp
   refine hK.out _ _ ?_ (fun _=>?_) (fun hHeld=>?_)
   ·trivial
   ·exact y5
   replace hHeld:=And.intro hHeld.1 (hHeld.2 (by decide))
   clear hK K
   try simp only [Act.put,sA,sB,sC]
   refine wpAnyK_one (i:=16) (o:=_) (by kernel_rfl) rfl (fun K hK=>?_)
   go_simp
   refine hK.out _ _ ?_ (fun hne=>?_) (fun hHeld=>?_)
   ·trivial
   ·exact absurd rfl hne
   clear hK K
   try simp only [Act.put,sA,sB,sC]
   refine wpAnyK_done (by kernel_rfl) ?_ _
   go_wp2_with fail
   go_roundg f
   case measure=>omega
   case rel=>exact ⟨ts++[v],n+1,v,B5,d5,j31,HR31,by have:=HN31.out.2.2;omega,by rw [List.length_append];simp only [List.length_singleton];have:=HN31.out.2.2;omega,hid (HL.out.snoc ⟨by have:=HN31.out.1;have:=HL.out.2.2.2.1;omega,HN31.out.2.1⟩),HP5⟩
attribute [local go_sem ↓] Go.wp_at_zero Go.wp_at_succ

section
variable {P:Program} {ops:Array Oper} {Q:Exit→Act→List Frame→World→Prop} {i:Nat} {rest:List Nat} {a:Act} {cs cs':List Frame} {w w':World} {o:Oper} {v:Value}
end
set_option maxRecDepth 100000 in
theorem catch_wrong (k:Nat) (er:Int) (b0 b1 b2:Nat) (x0 x1 x2:Value) (w:World) (h0:w.heap[b0]? = some (.cells #[x0] 23 (0,0))) (h1:w.heap[b1]? = some (.cells #[x1] 3 (0,0))) (h2:w.heap[b2]? = some (.cells #[x2] 24 (0,0))) (h01:b0 < b1) (h12:b1 < b2) :
  CallsD Tryz.prog 39 #[.pointer (some ⟨b0,0,none⟩),.pointer (some ⟨b1,0,none⟩),.pointer (some ⟨b2,0,none⟩)] (.panicking [wrongV k er]) w fun e u' w' =>
   e=.returned (.tuple #[])∧u'=.panicking [{ v:=.iface 90 (.agg #[.int .i64 (k:Int),.int .i64 er]),recovered:=true }]∧w'.heap[b0]? = some (.cells #[.slice none 0 0] 23 (0,0))∧w'.heap[b1]? = some (.cells #[.int .i64 (k:Int)] 3 (0,0))∧w'.heap[b2]? = some (.cells #[.int .i64 er] 24 (0,0))∧Below b0 w w':=by
 have hl0:=blk_lt h0
 have hl1:=blk_lt h1
 have hl2:=blk_lt h2
 refine callsD_of_wpS Tryz.func39 rfl fun c₀ cs hu=>?_
 unfold wrongV at hu
 rw [show ((#[.pointer (some ⟨b0,0,none⟩),.pointer (some ⟨b1,0,none⟩),.pointer (some ⟨b2,0,none⟩)]:Array Value)++Array.replicate (Tryz.f39.ntmps - (#[.pointer (some ⟨b0,0,none⟩),.pointer (some ⟨b1,0,none⟩),.pointer (some ⟨b2,0,none⟩)]:Array Value).size) undef)=#[.pointer (some ⟨b0,0,none⟩),.pointer (some ⟨b1,0,none⟩),.pointer (some ⟨b2,0,none⟩),undef,undef,undef,undef,undef,undef,undef,undef,undef,undef,undef,undef] from by rw [Tryz.ntmps39];rfl]
 apply wpS_seq
 apply wpS_region
 have hta:∀ W,(Instr.typeAssert (.iface 90 (.agg #[.int .i64 (k:Int),.int .i64 er])) 20 90 true).run Tryz.prog W=.ok (.tuple #[.agg #[.int .i64 (k:Int),.int .i64 er],.bool true]) W:=fun W=>by kernel_rfl
 simp [wpOpsS,go_sem,recoverD,hu,Exit.thenS,hta,Act.put,Act.eval]
 apply wpS_seq
 apply wpS_region
 simp [wpOpsS,go_sem,Exit.thenS,Act.put,Act.eval]
 refine wpS_cond (t:=true) rfl ?_
 simp only [if_true]
 refine wpS_of_wp ?_
 have HA1:=heap_new w (.cells #[.int .i64 (k:Int),.int .i64 er] 90)
 have hb:=bel1 w (.cells #[.int .i64 (k:Int),.int .i64 er] 90)
 generalize w.alloc (.cells #[.int .i64 (k:Int),.int .i64 er] 90)=W1 at *
 have HN0:Hid (W1.heap[w.heap.size]? = some (.cells #[.int .i64 (k:Int),.int .i64 er] 90 (0,0))):=hid HA1
 have H00:Hid (W1.heap[b0]? = some (.cells #[x0] 23 (0,0))):=hid (p_below h0 hb)
 have H01:Hid (W1.heap[b1]? = some (.cells #[x1] 3 (0,0))):=hid (p_below h1 hb)
 have H02:Hid (W1.heap[b2]? = some (.cells #[x2] 24 (0,0))):=hid (p_below h2 hb)
 have k0:=cell_of HN0.out 0 _ rfl
 have k1:=cell_of HN0.out 1 _ rfl
 have f0:=free_of H00.out 0
 have f1:=free_of H01.out 0
 have f2:=free_of H02.out 0
 have e0:=cell_of H00.out 0 _ rfl
 have e1:=cell_of H01.out 0 _ rfl
 have e2:=cell_of H02.out 0 _ rfl
 have n01 : ¬ b0=b1:=by omega
 have n02 : ¬ b0=b2:=by omega
 have n12 : ¬ b1=b2:=by omega
 refine wp_region_held_drew (S:=fun w'=>w'.cell? ⟨w.heap.size,0,none⟩=some (.int .i64 (k:Int))∧w'.cell? ⟨w.heap.size,1,none⟩=some (.int .i64 er)) (by kernel_rfl) ?_ (fun hHeld=>?_)
 ·exact ⟨k0,k1⟩
 refine tH (i:=0) (v:=?_) rfl (Or.inl ⟨by rfl,?_⟩) ?_
 rotate_left
 ·intro w' hSw
  (try dsimp only at hSw)
  go_simp<;>with_reducible rfl
 try simp only [Act.put,sA]
 refine tH (i:=1) (v:=?_) rfl (Or.inl ⟨by rfl,?_⟩) ?_
 rotate_left
 ·intro w' hSw
  (try dsimp only at hSw)
  go_simp<;>with_reducible rfl
 try simp only [Act.put]
 refine tH (i:=2) (v:=?_) rfl (Or.inl ⟨by rfl,?_⟩) ?_
 rotate_left
 ·intro w' hSw
  (try dsimp only at hSw)
  go_simp<;>with_reducible rfl
 try simp only [Act.put]
 refine tH (i:=3) (v:=?_) rfl (Or.inl ⟨by rfl,?_⟩) ?_
 rotate_left
 ·intro w' hSw
  (try dsimp only at hSw)
  go_simp<;>with_reducible rfl
 try simp only [Act.put]
 refine wpAnyH_ready (rs:=[4]) (by kernel_rfl) (by simp) ?_
 refine AllReadyH.cons (o := { dst:=none,op:=Op.store 23 (Operand.tmp 0) (Operand.const (Value.slice none 0 0)),type:=0,pos := "part.go:192",after:=#[{ on:=0,ground:=Ground.textOnly Departure.lateStores },{ on:=1,ground:=Ground.textOnly Departure.lateStores },{ on:=2,ground:=Ground.textOnly Departure.lateStores },{ on:=3,ground:=Ground.textOnly Departure.lateStores }],guard:=none }) rfl (fun K hK=>?_) AllReadyH.nil
 go_simp
 have H0x:Hid ((W1.setCell ⟨b0,0,none⟩ (.slice none 0 0)).drew.heap[w.heap.size]? = some (.cells #[.int .i64 (k:Int),.int .i64 er] 90 (0,0))):=hid ((block_other _ _ _ _ (by omega)).trans HN0.out)
 refine hK.out _ _ ?_ (fun hHeld=>?_)
 ·exact ⟨cell_of H0x.out 0 _ rfl,cell_of H0x.out 1 _ rfl⟩
 clear hK K
 try simp only [Act.put,sA,sB,sC]
 refine wpAnyH_ready (rs:=[5]) (by kernel_rfl) (by simp) ?_
 refine AllReadyH.cons (o := { dst:=none,op:=Op.store 3 (Operand.tmp 1) (Operand.tmp 12),type:=0,pos := "part.go:192",after:=#[{ on:=1,ground:=Ground.data },{ on:=4,ground:=Ground.chain },{ on:=0,ground:=Ground.phase },{ on:=1,ground:=Ground.phase },{ on:=2,ground:=Ground.textOnly Departure.lateStores },{ on:=3,ground:=Ground.textOnly Departure.lateStores },{ on:=4,ground:=Ground.phase }],guard:=none }) rfl (fun K hK=>?_) AllReadyH.nil
 go_simp
 have H1x:Hid (((W1.setCell ⟨b0,0,none⟩ (.slice none 0 0)).setCell ⟨b1,0,none⟩ (.int .i64 (k:Int))).drew.heap[w.heap.size]? = some (.cells #[.int .i64 (k:Int),.int .i64 er] 90 (0,0))):=hid ((block_other _ _ _ _ (by omega)).trans H0x.out)
 refine hK.out _ _ ?_ (fun hHeld=>?_)
 ·exact ⟨cell_of H1x.out 0 _ rfl,cell_of H1x.out 1 _ rfl⟩
 clear hK K
 try simp only [Act.put,sA,sB,sC]
 refine wpAnyH_ready (rs:=[6]) (by kernel_rfl) (by simp) ?_
 refine AllReadyH.cons (o := { dst:=none,op:=Op.store 24 (Operand.tmp 2) (Operand.tmp 14),type:=0,pos := "part.go:192",after:=#[{ on:=3,ground:=Ground.data },{ on:=5,ground:=Ground.chain },{ on:=0,ground:=Ground.phase },{ on:=1,ground:=Ground.phase },{ on:=2,ground:=Ground.phase },{ on:=3,ground:=Ground.phase },{ on:=4,ground:=Ground.phase },{ on:=5,ground:=Ground.phase }],guard:=none }) rfl (fun K hK=>?_) AllReadyH.nil
 go_simp
 have H2x:Hid ((((W1.setCell ⟨b0,0,none⟩ (.slice none 0 0)).setCell ⟨b1,0,none⟩ (.int .i64 (k:Int))).setCell ⟨b2,0,none⟩ (.int .i64 er)).drew.heap[w.heap.size]? = some (.cells #[.int .i64 (k:Int),.int .i64 er] 90 (0,0))):=hid ((block_other _ _ _ _ (by omega)).trans H1x.out)
 refine hK.out _ _ ?_ (fun hHeld=>?_)
 ·exact ⟨cell_of H2x.out 0 _ rfl,cell_of H2x.out 1 _ rfl⟩
 clear hK K
 try simp only [Act.put,sA,sB,sC]
 refine wpAnyH_done (by kernel_rfl) ?_ _
 refine ⟨rfl,_,rfl,_,by simp [results,Tryz.results39,go_sem],rfl,rfl,?_,?_,?_,?_⟩
 ·change (((W1.setCell ⟨b0,0,none⟩ (.slice none 0 0)).setCell ⟨b1,0,none⟩ (.int .i64 (k:Int))).setCell ⟨b2,0,none⟩ (.int .i64 er)).heap[b0]? = _
  rw [block_other _ _ _ _ (by omega),block_other _ _ _ _ (by omega)]
  exact block_set H00.out 0 _
 ·change (((W1.setCell ⟨b0,0,none⟩ (.slice none 0 0)).setCell ⟨b1,0,none⟩ (.int .i64 (k:Int))).setCell ⟨b2,0,none⟩ (.int .i64 er)).heap[b1]? = _
  rw [block_other _ _ _ _ (by omega)]
  exact block_set ((block_other _ _ _ _ (by omega)).trans H01.out) 0 _
 ·change (((W1.setCell ⟨b0,0,none⟩ (.slice none 0 0)).setCell ⟨b1,0,none⟩ (.int .i64 (k:Int))).setCell ⟨b2,0,none⟩ (.int .i64 er)).heap[b2]? = _
  exact block_set ((block_other _ _ _ _ (by omega)).trans ((block_other _ _ _ _ (by omega)).trans H02.out)) 0 _
 ·exact below_drewN (((((hb.mono (show b0≤w.heap.size by omega))).setCell (p:=⟨b0,0,none⟩) (Nat.le_refl _) _).setCell (p:=⟨b1,0,none⟩) (by show b0≤b1;omega) _).setCell (p:=⟨b2,0,none⟩) (by show b0≤b2;omega) _) 1
set_option maxRecDepth 100000 in
theorem catch_idle (b0 b1 b2:Nat) (w:World) :
  CallsD Tryz.prog 39 #[.pointer (some ⟨b0,0,none⟩),.pointer (some ⟨b1,0,none⟩),.pointer (some ⟨b2,0,none⟩)] .returning w fun e u' w'=>e=.returned (.tuple #[])∧u'=.returning∧Below w.heap.size w w':=by
 refine callsD_of_wpS Tryz.func39 rfl fun c₀ cs hu=>?_
 rw [show ((#[.pointer (some ⟨b0,0,none⟩),.pointer (some ⟨b1,0,none⟩),.pointer (some ⟨b2,0,none⟩)]:Array Value)++Array.replicate (Tryz.f39.ntmps - (#[.pointer (some ⟨b0,0,none⟩),.pointer (some ⟨b1,0,none⟩),.pointer (some ⟨b2,0,none⟩)]:Array Value).size) undef)=#[.pointer (some ⟨b0,0,none⟩),.pointer (some ⟨b1,0,none⟩),.pointer (some ⟨b2,0,none⟩),undef,undef,undef,undef,undef,undef,undef,undef,undef,undef,undef,undef] from by rw [Tryz.ntmps39];rfl]
 apply wpS_seq
 apply wpS_region
 have hta:∀ W,(Instr.typeAssert .nilIface 20 90 true).run Tryz.prog W=.ok (.tuple #[.agg #[.int .i64 0,.int .i64 0],.bool false]) W:=fun W=>by kernel_rfl
 simp [wpOpsS,go_sem,recoverD,hu,Exit.thenS,hta,Act.put,Act.eval]
 apply wpS_seq
 apply wpS_region
 simp [wpOpsS,go_sem,Exit.thenS,Act.put,Act.eval]
 refine wpS_cond (t:=false) rfl ?_
 simp only [Bool.false_eq_true,if_false]
 refine wpS_of_wp (wp_skip ?_)
 refine ⟨rfl,.returning,?_,_,by simp [results,Tryz.results39,go_sem],rfl,rfl,bel1 w _⟩
 cases c₀
 simp_all
end Go.Proofs.YtnkkcknogkgdkaaGreatDoor.PaW
