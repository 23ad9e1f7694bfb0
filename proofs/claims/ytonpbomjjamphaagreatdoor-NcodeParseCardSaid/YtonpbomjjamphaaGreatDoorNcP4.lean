/- Walks: the program's Parse. Conditions: the library's variables hold what a start lays; the text has at most a million bytes. -/
import Derived.Test.YtonpbomjjamphaaGreatDoorNcP3
import Derived.Test.YtonpbomjjamphaaGreatDoorNcO
namespace Go.Proofs.YtonpbomjjamphaaGreatDoor.NcW
open Go Go.RowKit Go.Proofs.YtonpbomjjamphaaGreatDoor.Mem

/-- The lines of a text read one by one, behind the moves acc: the program, the wrong line's index, the error. -/
def parseL : List (List UInt8 × Bool) → List Nc.Mv → List Nc.Mv × Nat × Int
  | [], acc => (acc, 0, 0)
  | x :: rest, acc =>
    if Lib.hasPrefix x.1 (Nc.number acc.length) = false ∨ x.2 = false then ([], acc.length, 3)
    else if (rdW (words (Lib.trimPrefix x.1 (Nc.number acc.length)))).2 ≠ 0 then ([], acc.length, (rdW (words (Lib.trimPrefix x.1 (Nc.number acc.length)))).2)
    else if acc.length = 2000 then ([], acc.length, 9)
    else parseL rest (acc ++ [(rdW (words (Lib.trimPrefix x.1 (Nc.number acc.length)))).1])

theorem parseL_true {ln : List UInt8} {acc : List Nc.Mv} {post : List (List UInt8 × Bool)} (hp : Lib.hasPrefix ln (Nc.number acc.length) = true) :
    parseL ((ln, true) :: post) acc = if (rdW (words (Lib.trimPrefix ln (Nc.number acc.length)))).2 ≠ 0 then ([], acc.length, (rdW (words (Lib.trimPrefix ln (Nc.number acc.length)))).2) else if acc.length = 2000 then ([], acc.length, 9) else parseL post (acc ++ [(rdW (words (Lib.trimPrefix ln (Nc.number acc.length)))).1]) := by
  rw [parseL, if_neg (by simp [hp])]

theorem cutLF_len : ∀ s : List UInt8, (cutLF s).1.length ≤ s.length ∧ (cutLF s).2.1.length ≤ s.length
  | [] => by simp [cutLF]
  | c :: l => by
    have := cutLF_len l
    unfold cutLF
    split
    · simp
    · simp; omega

theorem lines_len (s : List UInt8) : ∀ x ∈ linesOf s, x.1.length ≤ s.length := by
  intro x hx
  by_cases h : s = []
  · subst h; rw [linesOf_nil] at hx; cases hx
  · rw [linesOf_cons h] at hx
    have hl := cutLF_len s
    have hsh := cutLF_short s h
    rcases List.mem_cons.1 hx with rfl | hx
    · exact hl.1
    · exact Nat.le_trans (lines_len _ x hx) hl.2
termination_by s.length

theorem results_cells3 {fn : Func} {p q u : Tmp} {ty1 ty2 ty3 : TypeId} (h : fn.results = #[.cell p ty1, .cell q ty2, .cell u ty3]) (tmps : Array Value) (P : Program) (w : World) :
    (results fn tmps).run P w =
      ((asAddr (tmps.getD p undef)).run P w).andThen fun a w₁ => ((loadVar ty1 a).run P w₁).andThen fun v w₂ => ((asAddr (tmps.getD q undef)).run P w₂).andThen fun a w₁ => ((loadVar ty2 a).run P w₁).andThen fun v2 w₂ => ((asAddr (tmps.getD u undef)).run P w₂).andThen fun a w₁ => ((loadVar ty3 a).run P w₁).andThen fun v3 w₂ => .ok (.tuple #[v, v2, v3]) w₂ := by
  simp only [results, h]
  simp [Sem.run_bind, Result.andThen]

/-- The three results' variables. -/
structure Cells3 (r : Nat) (W : World) (v : Value) (i j : Int) : Prop where
  h0 : W.heap[r]? = some (.cells #[v] 23)
  h1 : W.heap[r + 1]? = some (.cells #[.int .i64 i] 3)
  h2 : W.heap[r + 1 + 1]? = some (.cells #[.int .i64 j] 24)

theorem Cells3.below {r : Nat} {W W' : World} {v : Value} {i j : Int} (h : Cells3 r W v i j) (hb : Below W.heap.size W W') : Cells3 r W' v i j :=
  ⟨(hb.block _ (block_lt' h.h0)).trans h.h0, (hb.block _ (block_lt' h.h1)).trans h.h1, (hb.block _ (block_lt' h.h2)).trans h.h2⟩
theorem Cells3.turn {r : Nat} {W W' : World} {v : Value} {i j : Int} (h : Cells3 r W v i j) (hb : Turn (r + 1 + 1 + 1) W W') : Cells3 r W' v i j :=
  ⟨(hb.block _ (block_lt' h.h0) (by omega)).trans h.h0, (hb.block _ (block_lt' h.h1) (by omega)).trans h.h1, (hb.block _ (block_lt' h.h2) (by omega)).trans h.h2⟩
theorem Cells3.put {r : Nat} {W : World} {v : Value} {i j : Int} (h : Cells3 r W v i j) {l : Nat} (hl : r + 1 + 1 + 1 ≤ l) (o : Obj) : Cells3 r (W.putObj l o) v i j :=
  ⟨(World.putObj_heap_other (by omega)).trans h.h0, (World.putObj_heap_other (by omega)).trans h.h1, (World.putObj_heap_other (by omega)).trans h.h2⟩
theorem Cells3.set {r : Nat} {W : World} {v : Value} {i j : Int} (h : Cells3 r W v i j) (v' : Value) (i' j' : Int) :
    Cells3 r (((W.setCell ⟨r, 0, none⟩ v').setCell ⟨r + 1, 0, none⟩ (.int .i64 i')).setCell ⟨r + 1 + 1, 0, none⟩ (.int .i64 j')) v' i' j' := by
  have a0 := block_set h.h0 0 v'
  have a1 : (W.setCell ⟨r, 0, none⟩ v').heap[r + 1]? = _ := (block_other W r 0 v' (by omega)).trans h.h1
  have a2 : (W.setCell ⟨r, 0, none⟩ v').heap[r + 1 + 1]? = _ := (block_other W r 0 v' (by omega)).trans h.h2
  have b1 := block_set a1 0 (.int .i64 i')
  have b0 := (block_other (W.setCell ⟨r, 0, none⟩ v') (r + 1) 0 (.int .i64 i') (b := r) (by omega)).trans a0
  have b2 := (block_other (W.setCell ⟨r, 0, none⟩ v') (r + 1) 0 (.int .i64 i') (b := r + 1 + 1) (by omega)).trans a2
  exact ⟨(block_other _ (r + 1 + 1) 0 _ (by omega)).trans b0, (block_other _ (r + 1 + 1) 0 _ (by omega)).trans b1, block_set b2 0 _⟩

theorem below_set3 {r : Nat} {w W : World} (h : Below r w W) (v' : Value) (i' j' : Value) :
    Below r w (((W.setCell ⟨r, 0, none⟩ v').setCell ⟨r + 1, 0, none⟩ i').setCell ⟨r + 1 + 1, 0, none⟩ j') :=
  ((h.setCell (p := ⟨r, 0, none⟩) (Nat.le_refl _) _).setCell (p := ⟨r + 1, 0, none⟩) (by simp) _).setCell (p := ⟨r + 1 + 1, 0, none⟩) (by simp; omega) _
theorem others_set3 {r : Nat} {A W : World} (h : KeepsOthers A W) (v' : Value) (i' j' : Value) :
    KeepsOthers A (((W.setCell ⟨r, 0, none⟩ v').setCell ⟨r + 1, 0, none⟩ i').setCell ⟨r + 1 + 1, 0, none⟩ j') :=
  ((h.trans (KeepsOthers.setCell _ _ _)).trans (KeepsOthers.setCell _ _ _)).trans (KeepsOthers.setCell _ _ _)
theorem others_below {A B : World} (h : Below A.heap.size A B) : KeepsOthers A B :=
  ⟨h.size, fun k _ hk _ => (h.block k (block_lt' hk)).trans hk⟩
theorem below_turn {r b : Nat} {w A B : World} (h : Below r w A) (hr : r ≤ A.heap.size) (hb : r ≤ b) (ht : Turn b A B) : Below r w B :=
  ⟨ht.os.trans h.os, ht.tape.trans h.tape, ht.output.trans h.output, Nat.le_trans h.size ht.size, fun k hk => (ht.block k (by omega) (by omega)).trans (h.block k hk)⟩
theorem row_turn {base b : Nat} {e : TypeId} {size n : Nat} {v : Value} {xs : List Value} {A B : World} (h : A.ownsRow base e size v n xs) (hb : b < base) (ht : Turn b A B) : B.ownsRow base e size v n xs := by
  refine ⟨h.1, ?_⟩
  rcases h.2 with h0 | ⟨g, cap, cur, hv, hg, hh, rest⟩
  · exact .inl h0
  · exact .inr ⟨g, cap, cur, hv, hg, (ht.block g (block_lt' hh) (by omega)).trans hh, rest⟩
theorem row_cells {base : Nat} {e : TypeId} {size n : Nat} {v : Value} {xs : List Value} {A : World} (h : A.ownsRow base e size v n xs) : ∀ (j : Nat) (o : Obj), v.ownBlock = some j → A.heap[j]? = some o → o.isCells = true := by
  intro j o hj ho
  rcases h.2 with ⟨rfl, _⟩ | ⟨g, cap, cur, rfl, _, hh, _⟩
  · cases hj
  · simp [Value.ownBlock] at hj
    subst hj
    rw [hh] at ho; cases ho; rfl
theorem row_put {base l : Nat} {e : TypeId} {size n : Nat} {v : Value} {xs : List Value} {A : World} {o o' : Obj} (h : A.ownsRow base e size v n xs) (ho : A.heap[l]? = some o) (hc : o.isCells = false) : (A.putObj l o').ownsRow base e size v n xs := by
  refine ⟨h.1, ?_⟩
  rcases h.2 with h0 | ⟨g, cap, cur, hv, hg, hh, rest⟩
  · exact .inl h0
  · refine .inr ⟨g, cap, cur, hv, hg, (World.putObj_heap_other ?_).trans hh, rest⟩
    intro e
    subst e
    rw [hh] at ho; cases ho; cases hc

/-- Between two rounds. -/
def PI (w : World) (r : Nat) (pre : List (List UInt8 × Bool)) (W : World) : Prop :=
  ∃ acc v, (∀ post, parseL (pre ++ post) [] = parseL post acc) ∧ acc.length ≤ 2000 ∧ Cells3 r W v 0 0 ∧ W.ownsRow (r + 1 + 1 + 1 + 1) 38 3 v acc.length (acc.flatMap mvCells) ∧ Below r w W ∧ r + 1 + 1 + 1 + 1 ≤ W.heap.size
/-- A round has left. -/
def PX (w : World) (r : Nat) (c : Code) (pre : List (List UInt8 × Bool)) (W : World) : Prop :=
  c = .ret ∧ ∃ (i : Nat) (j : Int), (∀ post, parseL (pre ++ post) [] = ([], i, j)) ∧ Cells3 r W (.slice none 0 0) i j ∧ Below r w W

theorem result3 {r : Nat} {W : World} {A : Option Addr} {n c : Nat} {i j : Int} (h : Cells3 r W (.slice A n c) i j) (tmps : Array Value) (t2 : tmps.getD 2 undef = .pointer (some ⟨r, 0, none⟩)) (t3 : tmps.getD 3 undef = .pointer (some ⟨r + 1, 0, none⟩)) (t4 : tmps.getD 4 undef = .pointer (some ⟨r + 1 + 1, 0, none⟩)) :
    (results Tryz.f5 tmps).run Tryz.prog W = .ok (.tuple #[.slice A n c, .int .i64 i, .int .i64 j]) W := by
  have c0 : W.cell? ⟨r, 0, none⟩ = some (.slice A n c) := by rw [Lib.cell_of_heap h.h0]; rfl
  have c1 : W.cell? ⟨r + 1, 0, none⟩ = some (.int .i64 i) := by rw [Lib.cell_of_heap h.h1]; rfl
  have c2 : W.cell? ⟨r + 1 + 1, 0, none⟩ = some (.int .i64 j) := by rw [Lib.cell_of_heap h.h2]; rfl
  rw [results_cells3 rfl, t2, t3, t4]
  go_simp

attribute [local go_sem] Oper.semAt_some

set_option maxRecDepth 100000 in
set_option maxHeartbeats 1000000 in
theorem lines_in (n : Nat) (s : ByteArray) (w : World) :
    CallsIn Fence.wide n Tryz.prog 11 #[.string s] w fun e w' => e = .returned (.func (.func 23) #[] #[.pointer (some ⟨w.heap.size, 0, none⟩)]) ∧ w' = w.alloc (.cells #[.string s] 9) := by
  refine callsIn_of_wp Tryz.func11 rfl trivial ?_ rfl
  simp only [Tryz.ntmps11, List.size_toArray, List.length_cons, List.length_nil, Nat.reduceAdd, Nat.reduceSub, Array.replicate_succ, Array.replicate_zero, List.push_toArray, List.append_toArray, List.nil_append, List.cons_append]
  gi_wp2
  go_ret
  exact ⟨rfl, rfl⟩

set_option maxRecDepth 100000 in
set_option maxHeartbeats 4000000 in
theorem parse_any (s : List UInt8) (w : World) (hs : s.length ≤ 1000000) (hG : Glob w) :
    Calls Tryz.prog 5 #[.string ⟨s.toArray⟩] w fun e w' => (∃ v, e = .returned (.tuple #[v, .int .i64 ((parseL (linesOf s) []).2.1 : Nat), .int .i64 (parseL (linesOf s) []).2.2]) ∧ w'.ownsRow w.heap.size 38 3 v (parseL (linesOf s) []).1.length ((parseL (linesOf s) []).1.flatMap mvCells)) ∧ Below w.heap.size w w' := by
  have HLL := Lib.hid (lines_len s)
  have HS := Lib.hid hs
  obtain ⟨mx, hmx⟩ := hG.max
  have hbel := (((((Below.refl w.heap.size w).alloc (Nat.le_refl _) (.cells #[.slice none 0 0] 23)).alloc (by simp) (.cells #[.int .i64 0] 3)).alloc (by simp; omega) (.cells #[.int .i64 0] 24)).alloc (by simp; omega) (.cells #[.string ⟨s.toArray⟩] 9))
  have hsz : ((((w.alloc (.cells #[.slice none 0 0] 23)).alloc (.cells #[.int .i64 0] 3)).alloc (.cells #[.int .i64 0] 24)).alloc (.cells #[.string ⟨s.toArray⟩] 9)).heap.size = w.heap.size + 1 + 1 + 1 + 1 := by simp
  have hc0 := block_old (o' := (.cells #[.string ⟨s.toArray⟩] 9)) (block_old (o' := .cells #[.int .i64 0] 24) (block_old (o' := .cells #[.int .i64 0] 3) (heap_alloc_new w (.cells #[.slice none 0 0] 23))))
  have hc1 := block_old (o' := (.cells #[.string ⟨s.toArray⟩] 9)) (block_old (o' := .cells #[.int .i64 0] 24) (heap_alloc_new (w.alloc (.cells #[.slice none 0 0] 23)) (.cells #[.int .i64 0] 3)))
  have hc2 := block_old (o' := (.cells #[.string ⟨s.toArray⟩] 9)) (heap_alloc_new ((w.alloc (.cells #[.slice none 0 0] 23)).alloc (.cells #[.int .i64 0] 3)) (.cells #[.int .i64 0] 24))
  have hc3 := heap_alloc_new (((w.alloc (.cells #[.slice none 0 0] 23)).alloc (.cells #[.int .i64 0] 3)).alloc (.cells #[.int .i64 0] 24)) (.cells #[.string ⟨s.toArray⟩] 9)
  simp only [World.size_alloc] at hc1 hc2 hc3
  have HBEL := Lib.hid hbel
  have HSZ := Lib.hid hsz
  have HC := Lib.hid (⟨hc0, hc1, hc2⟩ : Cells3 w.heap.size _ (.slice none 0 0) 0 0)
  have HC3 := Lib.hid hc3
  have HG := Lib.hid hG
  have HMX := Lib.hid hmx
  clear hbel hsz hc0 hc1 hc2 hc3 hG hmx hs
  have hG0 := HG.out
  refine (callsIn_wide (n := 9)).1 ?_
  refine callsIn_of_wp_marks Tryz.func5 rfl trivial ?_ rfl
  simp only [Tryz.ntmps5, List.size_toArray, List.length_cons, List.length_nil, Nat.reduceAdd, Nat.reduceSub, Array.replicate_succ, Array.replicate_zero, List.push_toArray, List.append_toArray, List.nil_append, List.cons_append]
  gi_wp2
  refine ⟨trivial, ?_⟩
  refine (lines_in _ _ _).mono ?_
  rintro e w1 ⟨rfl, rfl⟩
  gi_wp2
  generalize ((((w.alloc (.cells #[.slice none 0 0] 23)).alloc (.cells #[.int .i64 0] 3)).alloc (.cells #[.int .i64 0] 24)).alloc (.cells #[.string ⟨s.toArray⟩] 9)) = W4 at *
  generalize hr : w.heap.size = r at *
  have HR := Lib.hid hr
  clear hr
  refine wpIn_rangeFunc_box rfl (by decide) (gf := 23) (lb := #[.pointer (some ⟨r + 1 + 1 + 1, 0, none⟩)]) rfl trivial (enters_of Tryz.func23 (by kernel_rfl) rfl)
    (b := r + 1 + 1 + 1) (by rw [HSZ.out]; omega)
    (lines1_gives _ (r + 1 + 1 + 1) s mx W4 HC3.out ((HBEL.out.cell (p := ⟨0, 0, none⟩) (by rw [← HR.out]; have := HG.out.lt; show 0 < _; omega)).trans HMX.out) (by omega) (by have := HS.out; omega) (by decide))
    (fun _ => rfl) (PI w r) (PX w r) ?hI ?hI2 ?hX ?hX2 ?h0
    (fun x => { tmps := #[.string ⟨s.toArray⟩, undef, .pointer (some ⟨r, 0, none⟩), .pointer (some ⟨r + 1, 0, none⟩), .pointer (some ⟨r + 1 + 1, 0, none⟩), .string ⟨x.1.toArray⟩, .bool x.2, undef, undef, undef, undef, .string ⟨s.toArray⟩, .func (.func 23) #[] #[.pointer (some ⟨r + 1 + 1 + 1, 0, none⟩)], .string ⟨x.1.toArray⟩, .bool x.2, undef, undef, undef, undef, undef, undef, undef, undef, undef, undef, undef, undef, undef, undef, undef, undef, undef, undef, undef, undef, undef, undef, undef, undef, undef, undef, undef, undef, undef, undef, undef, undef, undef, undef, undef, undef], defers := [] }) ?assign ?body ?done ?stop
  case hI =>
    rintro pre A B ⟨acc, v, h1, h2, h3, h4, h5, h6⟩ ht
    exact ⟨acc, v, h1, h2, h3.turn ht, row_turn h4 (by omega) ht, below_turn h5 (Nat.le_of_lt (block_lt' h3.h0)) (by omega) ht, Nat.le_trans h6 ht.size⟩
  case hI2 =>
    rintro pre A l o o' ⟨acc, v, h1, h2, h3, h4, h5, h6⟩ hl ho hc
    rw [HSZ.out] at hl
    refine ⟨acc, v, h1, h2, h3.put (by omega) _, row_put h4 ho hc, ?_, by simpa [World.putObj] using h6⟩
    exact h5.trans ⟨rfl, rfl, rfl, by simp [World.putObj], fun k hk => World.putObj_heap_other (by omega)⟩
  case hX =>
    rintro c pre A B ⟨h0, i, j, h1, h3, h5⟩ ht
    exact ⟨h0, i, j, h1, h3.turn ht, below_turn h5 (Nat.le_of_lt (block_lt' h3.h0)) (by omega) ht⟩
  case hX2 =>
    rintro c pre A l o o' ⟨h0, i, j, h1, h3, h5⟩ hl ho hc
    rw [HSZ.out] at hl
    refine ⟨h0, i, j, h1, h3.put (by omega) _, ?_⟩
    exact h5.trans ⟨rfl, rfl, rfl, by simp [World.putObj], fun k hk => World.putObj_heap_other (by omega)⟩
  case h0 => exact ⟨[], .slice none 0 0, fun _ => rfl, by simp, HC.out, World.ownsRow_nil _ _ _ _, HBEL.out, Nat.le_of_eq HSZ.out.symm⟩
  case assign =>
    intro l x W K hK
    dsimp only [encLine]
    gi_wp2
    exact hK
  case body =>
    rintro l pre ⟨ln, en⟩ W ⟨acc, v, h1, h2, h3, h4, h5, h6⟩ hpre
    obtain ⟨A, c, rfl, hca⟩ := own_shape h4
    have hGW := HG.out.below (by rw [HR.out]; exact h5)
    have hln : ln.length ≤ 1000000 := Nat.le_trans (HLL.out (ln, en) (hpre.subset (by simp))) HS.out
    have hln2 : (Lib.trimPrefix ln (Nc.number acc.length)).length ≤ 1000000 := by
      unfold Lib.trimPrefix
      split
      · simp; omega
      · exact hln
    have HX : Hid (∀ post, parseL (pre ++ [(ln, en)] ++ post) [] = parseL ((ln, en) :: post) acc) := Lib.hid (fun post => by rw [List.append_assoc]; exact h1 _)
    have HN := Lib.hid (number_any acc.length W hGW.laid (by omega))
    have HCP := Lib.hid (fun W => Tryz.strings_CutPrefix ⟨ln.toArray⟩ ⟨(Nc.number acc.length).toArray⟩ W)
    rw [show (ByteArray.mk ln.toArray).data.toList = ln by simp, show (ByteArray.mk (Nc.number acc.length).toArray).data.toList = Nc.number acc.length by simp] at HCP
    have HRD := Lib.hid (fun W h => read_any (Lib.trimPrefix ln (Nc.number acc.length)) W hln2 h)
    have HGW := Lib.hid hGW
    have H3 := Lib.hid h3
    have H4 := Lib.hid h4
    have H5 := Lib.hid h5
    have H2 := Lib.hid h2
    have H6 := Lib.hid h6
    have c0 : W.cell? ⟨r, 0, none⟩ = some (.slice A acc.length c) := by rw [Lib.cell_of_heap h3.h0]; rfl
    clear h1 h2 h3 h4 h5 h6 hG0 hGW hln hln2 hpre
    gi_wp2
    refine ⟨trivial, ?_⟩
    refine (CallsIn.inRound l (callsIn_wide.2 HN.out)).mono ?_
    rintro e w1 ⟨rfl, hb1⟩
    have H31 := Lib.hid (H3.out.below hb1)
    have HB1 := Lib.hid hb1
    clear c0 hb1
    gi_wp2
    refine ⟨trivial, ?_⟩
    refine (CallsIn.inRound l (callsIn_wide.2 (HCP.out w1))).mono ?_
    rintro e w1 ⟨rfl, rfl⟩
    cases hp : Lib.hasPrefix ln (Nc.number acc.length)
    case false =>
      have HF : Hid (∀ post, parseL (pre ++ [(ln, en)] ++ post) [] = ([], acc.length, 3)) := Lib.hid (fun post => by rw [HX.out]; unfold parseL; simp [hp])
      have c0 : w1.cell? ⟨r, 0, none⟩ = some (.slice A acc.length c) := by rw [Lib.cell_of_heap H31.out.h0]; rfl
      have c1 : w1.cell? ⟨r + 1, 0, none⟩ = some (.int .i64 0) := by rw [Lib.cell_of_heap H31.out.h1]; rfl
      have c2 : w1.cell? ⟨r + 1 + 1, 0, none⟩ = some (.int .i64 0) := by rw [Lib.cell_of_heap H31.out.h2]; rfl
      have f0 : w1.frozen? ⟨r, 0, none⟩ = false := Lib.frozen_of_heap H31.out.h0 0
      have f1 : w1.frozen? ⟨r + 1, 0, none⟩ = false := Lib.frozen_of_heap H31.out.h1 0
      have f2 : w1.frozen? ⟨r + 1 + 1, 0, none⟩ = false := Lib.frozen_of_heap H31.out.h2 0
      have hb0 := block_lt' H31.out.h0
      have hb1 := block_lt' H31.out.h1
      have hb2 := block_lt' H31.out.h2
      clear hp
      gi_wp2
      exact ⟨others_set3 (others_below HB1.out) _ _ _, rfl, _, _, HF.out, H31.out.set _ _ _, below_set3 (H5.out.trans (HB1.out.mono (Nat.le_trans (Nat.le_of_eq HR.out.symm) H5.out.size))) _ _ _⟩
    case true =>
    have HBR : Hid (Below r w w1) := Lib.hid (H5.out.trans (HB1.out.mono (Nat.le_trans (Nat.le_of_eq HR.out.symm) H5.out.size)))
    cases en
    case false =>
      have HF : Hid (∀ post, parseL (pre ++ [(ln, false)] ++ post) [] = ([], acc.length, 3)) := Lib.hid (fun post => by rw [HX.out]; unfold parseL; simp)
      have c0 : w1.cell? ⟨r, 0, none⟩ = some (.slice A acc.length c) := by rw [Lib.cell_of_heap H31.out.h0]; rfl
      have c1 : w1.cell? ⟨r + 1, 0, none⟩ = some (.int .i64 0) := by rw [Lib.cell_of_heap H31.out.h1]; rfl
      have c2 : w1.cell? ⟨r + 1 + 1, 0, none⟩ = some (.int .i64 0) := by rw [Lib.cell_of_heap H31.out.h2]; rfl
      have f0 : w1.frozen? ⟨r, 0, none⟩ = false := Lib.frozen_of_heap H31.out.h0 0
      have f1 : w1.frozen? ⟨r + 1, 0, none⟩ = false := Lib.frozen_of_heap H31.out.h1 0
      have f2 : w1.frozen? ⟨r + 1 + 1, 0, none⟩ = false := Lib.frozen_of_heap H31.out.h2 0
      have hb0 := block_lt' H31.out.h0
      have hb1 := block_lt' H31.out.h1
      have hb2 := block_lt' H31.out.h2
      clear hp
      gi_wp2
      exact ⟨others_set3 (others_below HB1.out) _ _ _, rfl, _, _, HF.out, H31.out.set _ _ _, below_set3 HBR.out _ _ _⟩
    case true =>
    have HX2 : Hid (∀ post, parseL (pre ++ [(ln, true)] ++ post) [] = if (rdW (words (Lib.trimPrefix ln (Nc.number acc.length)))).2 ≠ 0 then ([], acc.length, (rdW (words (Lib.trimPrefix ln (Nc.number acc.length)))).2) else if acc.length = 2000 then ([], acc.length, 9) else parseL post (acc ++ [(rdW (words (Lib.trimPrefix ln (Nc.number acc.length)))).1])) := Lib.hid (fun post => by rw [HX.out]; exact parseL_true hp)
    clear HX HCP hp
    generalize Lib.trimPrefix ln (Nc.number acc.length) = rs at *
    generalize rdW (words rs) = rd at *
    obtain ⟨⟨mk, mxx, my⟩, er⟩ := rd
    dsimp only at HX2 HRD
    gi_wp2
    refine ⟨trivial, ?_⟩
    refine (CallsIn.inRound l (callsIn_wide.2 (HRD.out w1 (HGW.out.below HB1.out)))).mono ?_
    rintro e w3 ⟨rfl, hb3⟩
    have H33 := Lib.hid (H31.out.below hb3)
    have HB3 := Lib.hid (HB1.out.trans (hb3.mono HB1.out.size))
    have HBR3 := Lib.hid (HBR.out.trans (hb3.mono (Nat.le_of_lt (block_lt' H31.out.h0))))
    clear hb3
    by_cases he : er = 0
    case neg =>
      have hne : (er == 0) = false := by simpa using he
      have HF : Hid (∀ post, parseL (pre ++ [(ln, true)] ++ post) [] = ([], acc.length, er)) := Lib.hid (fun post => by rw [HX2.out, if_pos he])
      have c0 : w3.cell? ⟨r, 0, none⟩ = some (.slice A acc.length c) := by rw [Lib.cell_of_heap H33.out.h0]; rfl
      have c1 : w3.cell? ⟨r + 1, 0, none⟩ = some (.int .i64 0) := by rw [Lib.cell_of_heap H33.out.h1]; rfl
      have c2 : w3.cell? ⟨r + 1 + 1, 0, none⟩ = some (.int .i64 0) := by rw [Lib.cell_of_heap H33.out.h2]; rfl
      have f0 : w3.frozen? ⟨r, 0, none⟩ = false := Lib.frozen_of_heap H33.out.h0 0
      have f1 : w3.frozen? ⟨r + 1, 0, none⟩ = false := Lib.frozen_of_heap H33.out.h1 0
      have f2 : w3.frozen? ⟨r + 1 + 1, 0, none⟩ = false := Lib.frozen_of_heap H33.out.h2 0
      have hb0 := block_lt' H33.out.h0
      have hb1 := block_lt' H33.out.h1
      have hb2 := block_lt' H33.out.h2
      clear he
      gi_wp2
      have hset := H33.out.set (.slice none 0 0) acc.length er
      exact ⟨(others_set3 (others_below HB3.out) _ _ _).trans (KeepsOthers.alloc _ _), rfl, _, _, HF.out, hset.below ((Below.refl _ _).alloc (Nat.le_refl _) _), (below_set3 HBR3.out _ _ _).alloc (Nat.le_of_lt (block_lt' hset.h0)) _⟩
    subst he
    by_cases h20 : acc.length = 2000
    case pos =>
      have hq : ((acc.length : Int) == 2000) = true := by rw [h20]; rfl
      have HF : Hid (∀ post, parseL (pre ++ [(ln, true)] ++ post) [] = ([], acc.length, 9)) := Lib.hid (fun post => by rw [HX2.out, if_neg (by simp), if_pos h20])
      have c0 : w3.cell? ⟨r, 0, none⟩ = some (.slice A acc.length c) := by rw [Lib.cell_of_heap H33.out.h0]; rfl
      have c1 : w3.cell? ⟨r + 1, 0, none⟩ = some (.int .i64 0) := by rw [Lib.cell_of_heap H33.out.h1]; rfl
      have c2 : w3.cell? ⟨r + 1 + 1, 0, none⟩ = some (.int .i64 0) := by rw [Lib.cell_of_heap H33.out.h2]; rfl
      have f0 : w3.frozen? ⟨r, 0, none⟩ = false := Lib.frozen_of_heap H33.out.h0 0
      have f1 : w3.frozen? ⟨r + 1, 0, none⟩ = false := Lib.frozen_of_heap H33.out.h1 0
      have f2 : w3.frozen? ⟨r + 1 + 1, 0, none⟩ = false := Lib.frozen_of_heap H33.out.h2 0
      have hb0 := block_lt' H33.out.h0
      have hb1 := block_lt' H33.out.h1
      have hb2 := block_lt' H33.out.h2
      clear h20
      gi_wp2
      have hset := H33.out.set (.slice none 0 0) acc.length 9
      exact ⟨(others_set3 (others_below HB3.out) _ _ _).trans (KeepsOthers.alloc _ _), rfl, _, _, HF.out, hset.below ((Below.refl _ _).alloc (Nat.le_refl _) _), (below_set3 HBR3.out _ _ _).alloc (Nat.le_of_lt (block_lt' hset.h0)) _⟩
    have hq : ((acc.length : Int) == 2000) = false := by
      have : (acc.length : Int) ≠ 2000 := by omega
      simpa using this
    have HF : Hid (∀ post, parseL (pre ++ [(ln, true)] ++ post) [] = parseL post (acc ++ [⟨mk, mxx, my⟩])) := Lib.hid (fun post => by rw [HX2.out, if_neg (by simp), if_neg h20])
    have H7 : Hid (acc.length < 2000) := Lib.hid (by have := H2.out; omega)
    have HO := Lib.hid (row_turn H4.out (b := r) (by omega) (Turn.of_below HB3.out))
    have HS3 : Hid (r + 1 + 1 + 1 + 1 ≤ w3.heap.size) := Lib.hid (Nat.le_trans H6.out HB3.out.size)
    obtain ⟨i0, ia, ib, ic, id⟩ := info_parts info_own_any
    have c0 : w3.cell? ⟨r, 0, none⟩ = some (.slice A acc.length c) := by rw [Lib.cell_of_heap H33.out.h0]; rfl
    have c1 : w3.cell? ⟨r + 1, 0, none⟩ = some (.int .i64 0) := by rw [Lib.cell_of_heap H33.out.h1]; rfl
    have c2 : w3.cell? ⟨r + 1 + 1, 0, none⟩ = some (.int .i64 0) := by rw [Lib.cell_of_heap H33.out.h2]; rfl
    have f0 : w3.frozen? ⟨r, 0, none⟩ = false := Lib.frozen_of_heap H33.out.h0 0
    have f1 : w3.frozen? ⟨r + 1, 0, none⟩ = false := Lib.frozen_of_heap H33.out.h1 0
    have f2 : w3.frozen? ⟨r + 1 + 1, 0, none⟩ = false := Lib.frozen_of_heap H33.out.h2 0
    have hb0 := block_lt' H33.out.h0
    have hb1 := block_lt' H33.out.h1
    have hb2 := block_lt' H33.out.h2
    clear h20 hca
    gi_wp2_with (gi_at_builtin; refine wpListIn_append_own _ rfl _ _ 23 rfl (r + 1 + 1 + 1 + 1) 38 i0 _ 3 24 Tryz.underlying23 ia ib ic id rfl (by omega) _ _ _ rfl ((HO.out.alloc _).alloc _) ⟨w3.heap.size + 1, 0, none⟩ 1 1 [.int .i64 mk, .int .i64 mxx, .int .i64 my] rfl rfl ?c1 ?c2 ?c3 ?c4 ?c5 ?_)
    case c1 =>
      have h := cells_newl3 (w3.alloc (.cells #[.int .i64 mk, .int .i64 mxx, .int .i64 my] 38)) (.int .i64 mk) (.int .i64 mxx) (.int .i64 my) 38
      rwa [World.size_alloc] at h
    case c2 => intro u hu; simp at hu; rcases hu with rfl | rfl | rfl <;> rfl
    case c3 => have := H7.out; unfold maxLen; omega
    case c4 => have := H7.out; omega
    case c5 => have := HS3.out; simp; omega
    · intro v' w5 hown5 hg5 _
      have hs3 := HS3.out
      have hb5 : Below (r + 1 + 1 + 1 + 1) w3 w5 := below_append (((Below.refl _ w3).alloc hs3 (.cells #[.int .i64 mk, .int .i64 mxx, .int .i64 my] 38)).alloc (by simp; omega) (.cells #[.int .i64 mk, .int .i64 mxx, .int .i64 my] 38)) (by simp; omega) ((HO.out.alloc _).alloc _) hg5 (Nat.le_refl _)
      obtain ⟨A5, k5, rfl, hk5⟩ := own_shape hown5
      have hko : KeepsOthers ((w3.alloc (.cells #[.int .i64 mk, .int .i64 mxx, .int .i64 my] 38)).alloc (.cells #[.int .i64 mk, .int .i64 mxx, .int .i64 my] 38)) w5 := KeepsOthers.of_grownBy hg5 (row_cells ((HO.out.alloc _).alloc _))
      have H35 : Hid (Cells3 r w5 (.slice A acc.length c) 0 0) := Lib.hid ⟨(hb5.block _ (by omega)).trans H33.out.h0, (hb5.block _ (by omega)).trans H33.out.h1, (hb5.block _ (by omega)).trans H33.out.h2⟩
      have HO5 : Hid (w5.ownsRow (r + 1 + 1 + 1 + 1) 38 3 (.slice A5 (acc.length + 1) k5) (acc ++ [(⟨mk, mxx, my⟩ : Nc.Mv)]).length ((acc ++ [(⟨mk, mxx, my⟩ : Nc.Mv)]).flatMap mvCells)) := Lib.hid (by simpa [mvCells] using hown5)
      have HKO := Lib.hid ((others_below HB3.out).trans (((KeepsOthers.alloc _ _).trans (KeepsOthers.alloc _ _)).trans hko))
      have HB5 := Lib.hid hb5
      clear c0 c1 c2 f0 f1 f2 hb0 hb1 hb2 hs3 hb5 hown5 hg5 hko hk5
      have c0 : w5.cell? ⟨r, 0, none⟩ = some (.slice A acc.length c) := by rw [Lib.cell_of_heap H35.out.h0]; rfl
      have f0 : w5.frozen? ⟨r, 0, none⟩ = false := Lib.frozen_of_heap H35.out.h0 0
      have hb0 := block_lt' H35.out.h0
      gi_wp2
      have h0r : 0 < r := by rw [← HR.out]; have := HG.out.lt; omega
      have h6 := H6.out
      have h7 := H7.out
      refine ⟨HKO.out.trans (KeepsOthers.setCell _ _ _), ⟨?_, ?_⟩, acc ++ [⟨mk, mxx, my⟩], _, HF.out, by simp; omega, ⟨block_set H35.out.h0 0 _, (block_other w5 r 0 _ (by omega)).trans H35.out.h1, (block_other w5 r 0 _ (by omega)).trans H35.out.h2⟩, ?_, ?_, ?_⟩
      · exact (block_other w5 r 0 _ (by omega)).trans ((HB5.out.block _ (by omega)).trans (HB3.out.block _ (by omega)))
      · exact (block_other w5 r 0 _ (by omega)).trans ((HB5.out.block _ (by omega)).trans (HB3.out.block _ (by omega)))
      · have := ownsRow_setCell_below HO5.out (a := ⟨r, 0, none⟩) (by show r < _; omega) (.slice A5 (acc.length + 1) k5)
        exact this
      · exact (HBR3.out.trans (HB5.out.mono (by omega))).setCell (p := ⟨r, 0, none⟩) (Nat.le_refl _) _
      · have h1 := HS3.out
        have h2 := HB5.out.size
        simp [World.setCell]; omega
  case done =>
    rintro D W hD ⟨acc, v, h1, h2, h3, h4, h5, _⟩ hK
    obtain ⟨A, c, rfl, hca⟩ := own_shape h4
    have H1 : Hid (parseL (linesOf s) [] = (acc, 0, 0)) := Lib.hid (by have := h1 []; rw [List.append_nil] at this; rw [this]; rfl)
    have H3 := Lib.hid h3
    have H4 := Lib.hid h4
    have H5 := Lib.hid h5
    have c0 : W.cell? ⟨r, 0, none⟩ = some (.slice A acc.length c) := by rw [Lib.cell_of_heap h3.h0]; rfl
    have c1 : W.cell? ⟨r + 1, 0, none⟩ = some (.int .i64 0) := by rw [Lib.cell_of_heap h3.h1]; rfl
    have c2 : W.cell? ⟨r + 1 + 1, 0, none⟩ = some (.int .i64 0) := by rw [Lib.cell_of_heap h3.h2]; rfl
    have f0 : W.frozen? ⟨r, 0, none⟩ = false := Lib.frozen_of_heap h3.h0 0
    have f1 : W.frozen? ⟨r + 1, 0, none⟩ = false := Lib.frozen_of_heap h3.h1 0
    have f2 : W.frozen? ⟨r + 1 + 1, 0, none⟩ = false := Lib.frozen_of_heap h3.h2 0
    have hb0 := block_lt' h3.h0
    have hb1 := block_lt' h3.h1
    have hb2 := block_lt' h3.h2
    clear h1 h2 h3 h4 h5 hG0
    gi_wp2
    have hK2 := (others_set3 (r := r) (KeepsOthers.refl W) (.slice A acc.length c) (.int .i64 0) (.int .i64 0)).same D _ hK rfl
    have hD2 : r + 1 + 1 + 1 ≤ D := by rw [HSZ.out] at hD; omega
    have h3' := (H3.out.set (.slice A acc.length c) 0 0).put hD2 (.deferred none)
    have h4' := row_put (((ownsRow_setCell_below (ownsRow_setCell_below (ownsRow_setCell_below H4.out (a := ⟨r, 0, none⟩) (by show r < _; omega) (.slice A acc.length c)) (a := ⟨r + 1, 0, none⟩) (by show r + 1 < _; omega) (.int .i64 0)) (a := ⟨r + 1 + 1, 0, none⟩) (by show r + 1 + 1 < _; omega) (.int .i64 0)))) (o' := .deferred none) hK2 rfl
    refine ⟨by simp, .inl ⟨_, _, rfl, run_takeDeferred hK2, ?_⟩⟩
    rw [H1.out, HR.out]
    exact ⟨_, result3 h3' _ rfl rfl rfl, ⟨_, rfl, own_more h4' (by omega)⟩, (below_set3 H5.out _ _ _).trans ⟨rfl, rfl, rfl, by simp [World.putObj], fun k hk => World.putObj_heap_other (by omega)⟩⟩
  case stop =>
    rintro D c pre W hD ⟨post, hpost⟩ ⟨rfl, i, j, h1, h3, h5⟩ hK
    gi_wp2
    have h3' := h3.put (l := D) (by rw [HSZ.out] at hD; omega) (.deferred none)
    refine ⟨by simp, .inl ⟨_, _, rfl, run_takeDeferred hK, ?_⟩⟩
    have hE : parseL (linesOf s) [] = ([], i, j) := by rw [← hpost]; exact h1 post
    rw [hE, HR.out]
    exact ⟨_, result3 h3' _ rfl rfl rfl, ⟨_, rfl, World.ownsRow_nil _ _ _ _⟩, h5.trans ⟨rfl, rfl, rfl, by simp [World.putObj], fun k hk => World.putObj_heap_other (by rw [HSZ.out] at hD; omega)⟩⟩
end Go.Proofs.YtonpbomjjamphaaGreatDoor.NcW
