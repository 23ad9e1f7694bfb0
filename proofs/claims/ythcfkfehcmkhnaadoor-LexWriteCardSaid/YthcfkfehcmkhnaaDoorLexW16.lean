/- Walks: Join, the program's and the reference's. Conditions: the list lies in memory, has at most two thousand elements, and the text is short; the numbers are machine numbers. -/
import Derived.Test.YthcfkfehcmkhnaaDoorLexL2
namespace Go.Proofs.YthcfkfehcmkhnaaDoor.LexW
open Go Go.RowKit Go.Proofs.YthcfkfehcmkhnaaDoor.Mem

/-- A token of any offset. -/
structure GT where
  kind : Int
  text : List UInt8
  n : Int
  pos : Int
def gtCells (t : GT) : List Value := [.int .i64 t.kind, .string ⟨t.text.toArray⟩, .int .i64 t.n, .int .i64 t.pos]
def gtsCells (l : List GT) : List Value := l.flatMap gtCells
def gwrite (t : GT) : List UInt8 := if t.kind = 2 then Lib.itoa t.n else t.text
def gjoin (l : List GT) : List UInt8 := Lib.join (l.map gwrite) [32]
def GT.of (t : Lex.Tok) : GT := ⟨t.kind, t.text, t.n, t.pos⟩
theorem gts_of (l : List Lex.Tok) : gtsCells (l.map GT.of) = toksCells l := by
  induction l with
  | nil => rfl
  | cons t r ih => show gtCells (GT.of t) ++ gtsCells (r.map GT.of) = tokCells t ++ toksCells r; rw [ih]; rfl
theorem gtsCells_length (l : List GT) : (gtsCells l).length = l.length * 4 := by
  induction l with
  | nil => rfl
  | cons t r ih =>
    show (gtCells t ++ gtsCells r).length = (r.length + 1) * 4
    rw [List.length_append, ih]; simp [gtCells]; omega
theorem gtsCells_snoc (l : List GT) (t : GT) : gtsCells (l ++ [t]) = gtsCells l ++ gtCells t := by simp [gtsCells]
theorem gts_get : ∀ (l : List GT) (k f : Nat) (h : k < l.length), f < 4 → (gtsCells l)[k * 4 + f]? = (gtCells l[k])[f]?
  | [], k, f, h, _ => by simp at h
  | t :: r, 0, f, _, hf => by
    show (gtCells t ++ gtsCells r)[0 * 4 + f]? = _
    rw [Nat.zero_mul, Nat.zero_add, List.getElem?_append_left (by simpa [gtCells] using hf)]; rfl
  | t :: r, k + 1, f, h, hf => by
    show (gtCells t ++ gtsCells r)[(k + 1) * 4 + f]? = _
    have e : (k + 1) * 4 + f - (gtCells t).length = k * 4 + f := by simp [gtCells]; omega
    rw [List.getElem?_append_right (by simp [gtCells]; omega), e, gts_get r k f (by simpa using h) hf]; rfl
theorem row_gt {w : World} {A : Option Addr} {l : List GT} (h : Row w A (gtsCells l)) (hl : l ≠ []) : ∃ g off, A = some ⟨g, off, none⟩ ∧ g < w.heap.size ∧ ∀ (k : Nat) (hk : k < l.length),
    w.cell? ⟨g, off + k * 4, none⟩ = some (.int .i64 l[k].kind) ∧ w.cell? ⟨g, off + k * 4 + 1, none⟩ = some (.string ⟨l[k].text.toArray⟩) ∧ w.cell? ⟨g, off + k * 4 + 2, none⟩ = some (.int .i64 l[k].n) ∧ w.cell? ⟨g, off + k * 4 + 3, none⟩ = some (.int .i64 l[k].pos) := by
  obtain ⟨g, off, e, hg, hc⟩ := h (by
    intro h0
    have := gtsCells_length l
    rw [h0] at this
    cases l with
    | nil => exact hl rfl
    | cons _ _ => simp at this)
  refine ⟨g, off, e, hg, fun k hk => ?_⟩
  have hlen := gtsCells_length l
  have c := fun f (hf : f < 4) => (hc (k * 4 + f) (by rw [hlen]; omega)).trans (gts_get l k f hk hf)
  exact ⟨c 0 (by decide), c 1 (by decide), c 2 (by decide), c 3 (by decide)⟩

def strCells (l : List (List UInt8)) : List Value := l.map fun x => .string ⟨x.toArray⟩
theorem strCells_snoc (l : List (List UInt8)) (x : List UInt8) : strCells (l ++ [x]) = strCells l ++ [.string ⟨x.toArray⟩] := by simp [strCells]
theorem cells_new1 (w : World) (a : Value) (T : TypeId) : ∀ (j : Nat) (u : Value), [a][j]? = some u → (w.alloc (.cells #[a] T)).cell? ((⟨w.heap.size, 0, none⟩ : Addr).add j) = some u := by
  intro j u hj
  match j, hj with
  | 0, hj => simp at hj; subst hj; simp [Addr.add]
  | j + 1, hj => simp at hj

theorem str_info : (Tryd.prog.info? 9).map (fun i => (i.zero, i.size, i.bytes)) = some (some (.string ⟨#[]⟩), 1, 16) := by kernel_rfl

theorem join_snoc (l : List (List UInt8)) (x : List UInt8) (h : l ≠ []) : Lib.join (l ++ [x]) [32] = Lib.join l [32] ++ 32 :: x := by
  cases l with
  | nil => exact absurd rfl h
  | cons y r =>
    rw [List.cons_append, Lib.join_cons, Lib.join_cons]
    simp [Lib.joinTail]
theorem join_take_le (l : List (List UInt8)) (k : Nat) : (Lib.join (l.take k) [32]).length ≤ (Lib.join l [32]).length := by
  cases l with
  | nil => simp
  | cons y r =>
    cases k with
    | zero => simp [Lib.join_nil]
    | succ k =>
      rw [List.take_succ_cons, Lib.join_cons, Lib.join_cons, List.length_append, List.length_append]
      have : (Lib.joinTail [32] (r.take k)).length ≤ (Lib.joinTail [32] r).length := by
        conv => rhs; rw [← List.take_append_drop k r]
        simp only [Lib.joinTail, List.map_append, List.flatten_append, List.length_append]
        omega
      omega

def outCells (l : List GT) (k : Nat) : List Value := strCells ((l.map gwrite).take k)
theorem outCells_snoc (l : List GT) (k : Nat) (h : k < l.length) : outCells l (k + 1) = outCells l k ++ [.string ⟨(gwrite l[k]).toArray⟩] := by
  unfold outCells
  rw [take_snoc (l.map gwrite) k (by simpa using h), strCells_snoc, List.getElem_map]
theorem outCells_all (l : List GT) : outCells l l.length = strCells (l.map gwrite) := by
  unfold outCells
  rw [List.take_of_length_le (by simp)]
def joined (l : List GT) (k : Nat) : List UInt8 := Lib.join ((l.map gwrite).take k) [32]
theorem joined_snoc (l : List GT) (k : Nat) (h : k < l.length) (h0 : k ≠ 0) : joined l (k + 1) = (joined l k ++ [32]) ++ gwrite l[k] := by
  unfold joined
  rw [take_snoc (l.map gwrite) k (by simpa using h), join_snoc _ _ (by
    intro h9
    have := congrArg List.length h9
    simp at this
    rcases this with h1 | h1
    · exact h0 h1
    · rw [h1] at h; simp at h), List.getElem_map]
  simp
theorem joined_one (l : List GT) (h : 0 < l.length) : joined l 1 = gwrite l[0] := by
  unfold joined
  rw [take_snoc (l.map gwrite) 0 (by simpa using h), List.getElem_map]
  exact Lib.join_one _ _
theorem joined_all (l : List GT) : joined l l.length = gjoin l := by
  unfold joined gjoin
  rw [List.take_of_length_le (by simp)]
theorem joined_le (l : List GT) (k : Nat) : (joined l k).length ≤ (gjoin l).length := join_take_le _ _

set_option maxRecDepth 100000 in
set_option maxHeartbeats 1000000 in
theorem join_any (l : List GT) (A : Option Addr) (c : Nat) (w : World) (hL : Laid w) (hr : Row w A (gtsCells l)) (hl : l.length ≤ 2000) (hi : ∀ t ∈ l, I64 t.n) (hz : (gjoin l).length ≤ 1000000) :
    Calls Tryd.prog 17 #[.slice A l.length c] w fun e w' => e = .returned (.string ⟨(gjoin l).toArray⟩) ∧ Below w.heap.size w w' := by
  have HZ := Lib.hid hz
  have HL := Lib.hid hL
  have HI := Lib.hid hi
  clear hz hL hi
  by_cases h0 : l = []
  · subst h0
    go_enter Tryd.func17, Tryd.ntmps17
    go_wp2
    refine wp_loop_rounds 1 ?_
    rw [rounds_succ]
    go_wp2_with (go_at_call 29; refine (Tryd.strings_Join_none _ _ _ _).mono ?_; rintro e w1 ⟨rfl, rfl⟩)
    go_ret
    exact ⟨rfl, Below.refl _ _⟩
  · obtain ⟨g, off, rfl, hg, ca⟩ := row_gt hr h0
    have CA := Lib.hid ca
    clear ca hr
    obtain ⟨i0, ia, ib, ic, id⟩ := info_parts str_info
    have hpos : 1 ≤ l.length := by rcases l with _ | _; exact absurd rfl h0; simp
    clear h0
    go_enter Tryd.func17, Tryd.ntmps17
    go_wp2
    go_loopw [3, 8] (fun v t wr => ∃ k : Nat, k ≤ l.length ∧ t = .int .i64 k ∧ wr.ownsRow w.heap.size 9 1 v k (outCells l k) ∧ Below w.heap.size w wr) (fun _ t _ => l.length - (intOf t).toNat)
    case atStart => exact ⟨0, Nat.zero_le _, rfl, World.ownsRow_nil _ _ _ _, Below.refl _ _⟩
    case round =>
      obtain ⟨k, hk, rfl, hown, hbel⟩ := hrel
      by_cases hlt : k < l.length
      · obtain ⟨a0, a1, a2, a3⟩ := CA.out k hlt
        rw [← hbel.cell (p := ⟨g, _, none⟩) hg] at a0 a1 a2 a3
        have hts := Lib.hid (outCells_snoc l k hlt)
        have hi64 := Lib.hid (HI.out l[k] (List.getElem_mem hlt))
        have hwr : gwrite l[k] = if l[k].kind = 2 then Lib.itoa l[k].n else l[k].text := rfl
        rw [hwr] at hts
        clear hwr
        generalize l[k] = t at *
        obtain ⟨tk, tt, tn, tp⟩ := t
        simp only at hts a0 a1 a2 a3 hi64
        have hz0 := hbel.size
        go_wp2_with fail
        refine (write_any _ _ _ _ _ (HL.out.below (hbel.alloc hz0 _)) hi64.out).mono ?_
        rintro e w2 ⟨rfl, hb2⟩
        generalize (if tk = 2 then Lib.itoa tn else tt) = wl at *
        have hown2 := own_below (hown.alloc _) hb2
        have hb12 := (hbel.alloc hz0 _).trans (hb2.mono (hbel.alloc hz0 _).size)
        have hz2 := hb12.size
        clear hown hb2 hbel
        go_wp2_with (at_builtin; refine wpList_append_own _ rfl _ _ 54 rfl w.heap.size 9 i0 _ 1 16 Tryd.underlying54 ia ib ic id rfl (by omega) _ _ _ rfl (hown2.alloc _) ⟨w2.heap.size, 0, none⟩ 1 1 [.string ⟨wl.toArray⟩] rfl rfl ?c1 ?c2 ?c3 ?c4 ?c5 ?_)
        case c1 => exact cells_new1 w2 _ _
        case c2 => intro u hu; simp at hu; rcases hu with rfl; rfl
        case c3 => unfold maxLen; omega
        case c4 => omega
        case c5 => simp; omega
        · intro v' w3 hown3 hg3 _
          have hb3 : Below w.heap.size w w3 := below_append (hb12.alloc (by omega) _) (by simp; omega) (hown2.alloc _) hg3 (Nat.le_refl _)
          rw [← hts.out] at hown3
          clear hg3 hown2 hb12
          go_wp2
          go_roundw
          case rel => exact ⟨k + 1, by omega, by go_num, hown3, hb3⟩
          case measure => simp [intOf]; omega
      · obtain rfl : k = l.length := by omega
        have e := Lib.hid (outCells_all l)
        have hown1 := hown
        rw [e.out] at hown1
        obtain ⟨g2, c2, rfl, hg2, hc2⟩ := own_at hown1 hpos
        have hcc : c2 ≥ l.length := by obtain ⟨A9, c9, e9, h9⟩ := own_shape hown1; cases e9; exact h9
        have HJ := Lib.hid (show ∀ (j : Nat) x, ((l.map gwrite).map fun x => (⟨x.toArray⟩ : ByteArray))[j]? = some x → wr.cell? ⟨g2, 0 + j, none⟩ = some (.string x) by
          intro j x hj
          simp only [List.getElem?_map, Option.map_eq_some_iff] at hj
          obtain ⟨a, ⟨b, hb, rfl⟩, rfl⟩ := hj
          have hjl : j < l.length := (List.getElem?_eq_some_iff.1 hb).1
          rw [Nat.zero_add, hc2 j (by omega)]
          simp [strCells, hb])
        have hjj := Tryd.strings_Join g2 0 c2 ((l.map gwrite).map fun x => (⟨x.toArray⟩ : ByteArray)) ⟨#[32]⟩ wr HJ.out hg2 (by simp; omega) (by simpa using hcc) (by
          have : (((l.map gwrite).map fun x => (⟨x.toArray⟩ : ByteArray)).map (·.data.toList)) = l.map gwrite := by simp
          rw [this]
          have h9 := HZ.out
          unfold gjoin at h9
          show (Lib.join (l.map gwrite) [32]).length ≤ _
          omega)
        rw [show (((l.map gwrite).map fun x => (⟨x.toArray⟩ : ByteArray)).map (·.data.toList)) = l.map gwrite by simp, show ((l.map gwrite).map fun x => (⟨x.toArray⟩ : ByteArray)).length = l.length by simp] at hjj
        have HJJ := Lib.hid hjj
        clear hjj hown hown1 hc2 hcc HJ
        go_wp2_with fail
        refine HJJ.out.mono ?_
        rintro e w2 ⟨rfl, hb2⟩
        go_wp2
        go_ret
        exact ⟨rfl, hbel.trans (hb2.mono hbel.size)⟩
set_option maxRecDepth 100000 in
set_option maxHeartbeats 1000000 in
theorem rjoin_any (l : List GT) (A : Option Addr) (c : Nat) (w : World) (hr : Row w A (gtsCells l)) (hl : l.length ≤ 2000) (hi : ∀ t ∈ l, I64 t.n) (hz : (gjoin l).length ≤ 1000000) :
    Calls Tryd.prog 20 #[.slice A l.length c] w fun e w' => e = .returned (.string ⟨(gjoin l).toArray⟩) ∧ Below w.heap.size w w' := by
  have HZ := Lib.hid hz
  have HI := Lib.hid hi
  clear hz hi
  by_cases h0 : l = []
  · subst h0
    go_enter Tryd.func20, Tryd.ntmps20
    go_wp2
    refine wp_loop_rounds 1 ?_
    rw [rounds_succ]
    go_wp2
    go_ret
    exact ⟨rfl, Below.refl _ _⟩
  · obtain ⟨g, off, rfl, hg, ca⟩ := row_gt hr h0
    have CA := Lib.hid ca
    clear ca hr
    have hpos : 1 ≤ l.length := by rcases l with _ | _; exact absurd rfl h0; simp
    clear h0
    go_enter Tryd.func20, Tryd.ntmps20
    go_wp2
    go_loopw [3, 4] (fun v t wr => ∃ k : Nat, k ≤ l.length ∧ t = .int .i64 k ∧ v = .string ⟨(joined l k).toArray⟩ ∧ Below w.heap.size w wr) (fun _ t _ => l.length - (intOf t).toNat)
    case atStart => exact ⟨0, Nat.zero_le _, rfl, rfl, Below.refl _ _⟩
    case round =>
      obtain ⟨k, hk, rfl, rfl, hbel⟩ := hrel
      by_cases hlt : k < l.length
      · obtain ⟨a0, a1, a2, a3⟩ := CA.out k hlt
        rw [← hbel.cell (p := ⟨g, _, none⟩) hg] at a0 a1 a2 a3
        have hi64 := Lib.hid (HI.out l[k] (List.getElem_mem hlt))
        have hwr : gwrite l[k] = if l[k].kind = 2 then Lib.itoa l[k].n else l[k].text := rfl
        have z1 : (ByteArray.mk (joined l k).toArray).size = (joined l k).length := str_size _
        have z2 := Nat.le_trans (joined_le l k) HZ.out
        have z3 := Nat.le_trans (joined_le l (k + 1)) HZ.out
        have z4 : (ByteArray.mk #[32]).size = 1 := rfl
        by_cases hk0 : k = 0
        · have hts := joined_one l (by omega)
          subst hk0
          have hj0 : joined l 0 = [] := rfl
          rw [hts] at z3
          rw [hj0] at z1 z2 ⊢
          have HTS := Lib.hid hts
          rw [hwr] at HTS z3
          clear hwr hts hj0
          generalize l[0] = t at *
          obtain ⟨tk, tt, tn, tp⟩ := t
          simp only [Nat.zero_mul, Nat.add_zero] at HTS a0 a1 a2 a3 hi64 z3
          have hz0 := hbel.size
          go_wp2_with fail
          refine (rwrite_any _ _ _ _ _ hi64.out).mono ?_
          rintro e w2 ⟨rfl, hb2⟩
          generalize (if tk = 2 then Lib.itoa tn else tt) = wl at *
          have z5 : (ByteArray.mk wl.toArray).size = wl.length := str_size _
          have hb12 := hbel.trans (hb2.mono hbel.size)
          clear hbel hb2
          go_wp2
          go_roundw
          case rel =>
            refine ⟨1, by omega, by go_num, ?_, hb12⟩
            rw [HTS.out]
            exact congrArg Value.string (str_append [] wl)
          case measure => simp [intOf]; omega
        · have hts := joined_snoc l k hlt hk0
          have hgt : decide ((0 : Int) < (k : Int)) = true := by simp; omega
          rw [hts] at z3
          have HTS := Lib.hid hts
          rw [hwr] at HTS z3
          clear hwr hts
          generalize l[k] = t at *
          obtain ⟨tk, tt, tn, tp⟩ := t
          simp only at HTS a0 a1 a2 a3 hi64 z3
          generalize joined l k = jl at *
          have hz0 := hbel.size
          have z6 : (ByteArray.mk jl.toArray ++ ByteArray.mk #[32]).size = jl.length + 1 := by rw [str_append jl [32], str_size]; simp
          rw [List.length_append, List.length_append, List.length_singleton] at z3
          go_wp2_with fail
          refine (rwrite_any _ _ _ _ _ hi64.out).mono ?_
          rintro e w2 ⟨rfl, hb2⟩
          generalize (if tk = 2 then Lib.itoa tn else tt) = wl at *
          have z5 : (ByteArray.mk wl.toArray).size = wl.length := str_size _
          have hb12 := hbel.trans (hb2.mono hbel.size)
          clear hbel hb2
          go_wp2
          go_roundw
          case rel =>
            refine ⟨k + 1, by omega, by go_num, ?_, hb12⟩
            rw [HTS.out]
            exact congrArg Value.string ((congrArg (· ++ _) (str_append jl [32])).trans (str_append (jl ++ [32]) wl))
          case measure => simp [intOf]; omega
      · obtain rfl : k = l.length := by omega
        have e := Lib.hid (joined_all l)
        go_wp2
        go_ret
        rw [e.out]
        exact ⟨rfl, hbel⟩
end Go.Proofs.YthcfkfehcmkhnaaDoor.LexW
