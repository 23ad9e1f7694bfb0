/- What the chapter's functions compute, in plain Lean: moves, programs, their texts and statistics. Conditions: none. -/
import Derived.Lib.AppendIntMem
import Derived.Lib.ItoaNum
namespace Go.Proofs.YtonpbomjjamphaaGreatDoor.Nc

/-- A move: its kind and its point. -/
structure Mv where
  k : Int
  x : Int
  y : Int
  deriving DecidableEq
def moving (k : Int) : Bool := (k == 1) || (k == 2) || (k == 5)
def within (x y m : Int) : Bool := decide (-m ≤ x) && decide (x ≤ m) && decide (-m ≤ y) && decide (y ≤ m)
def ok (m : Mv) : Bool := if moving m.k then within m.x m.y 2000 else ((m.k == 3) || (m.k == 4) || (m.k == 6)) && ((m.x == 0) && (m.y == 0))
def valid (p : List Mv) : Bool := decide (p.length ≤ 2000) && p.all ok
def few (p : List Mv) : Bool := decide (p.length ≤ 60) || (decide (2000 ≤ p.length) && decide (p.length ≤ 2002))

theorem within_iff {x y m : Int} : within x y m = true ↔ -m ≤ x ∧ x ≤ m ∧ -m ≤ y ∧ y ≤ m := by
  simp [within, and_assoc]
theorem ok_kind {m : Mv} (h : ok m = true) : 1 ≤ m.k ∧ m.k ≤ 6 := by
  unfold ok at h
  cases hm : moving m.k
  · rw [hm] at h
    simp only [Bool.false_eq_true, if_false, Bool.and_eq_true, Bool.or_eq_true, beq_iff_eq] at h
    omega
  · simp only [moving, Bool.or_eq_true, beq_iff_eq] at hm
    omega
theorem ok_bound {m : Mv} (h : ok m = true) : -2000 ≤ m.x ∧ m.x ≤ 2000 ∧ -2000 ≤ m.y ∧ m.y ≤ 2000 := by
  unfold ok at h
  cases hm : moving m.k
  · rw [hm] at h
    simp only [Bool.false_eq_true, if_false, Bool.and_eq_true, Bool.or_eq_true, beq_iff_eq] at h
    omega
  · rw [hm] at h
    simpa using within_iff.1 h
theorem valid_ok {p : List Mv} (h : valid p = true) {m : Mv} (hm : m ∈ p) : ok m = true := by
  simp only [valid, Bool.and_eq_true, List.all_eq_true] at h
  exact h.2 m hm
theorem valid_len {p : List Mv} (h : valid p = true) : p.length ≤ 2000 := by
  simp only [valid, Bool.and_eq_true, decide_eq_true_eq] at h
  exact h.1
theorem valid_mk {p : List Mv} (h : p.length ≤ 2000) (h2 : ∀ m ∈ p, ok m = true) : valid p = true := by
  simp only [valid, Bool.and_eq_true, decide_eq_true_eq, List.all_eq_true]
  exact ⟨h, h2⟩

/- Texts. -/
def code (k : Int) : List UInt8 := if k = 1 then [71, 48, 48] else if k = 2 then [71, 48, 49] else if k = 3 then [77, 48, 51] else if k = 4 then [77, 48, 53] else if k = 5 then [77, 48, 55] else [77, 51, 48]
def number (i : Nat) : List UInt8 := 78 :: (Lib.itoa (10 * ((i : Int) + 1)) ++ [32])
def text (m : Mv) : List UInt8 := code m.k ++ if moving m.k then [32, 88] ++ Lib.itoa m.x ++ [32, 89] ++ Lib.itoa m.y else []
def lineOf (m : Mv) (i : Nat) : List UInt8 := number i ++ text m ++ [10]
def prints : List Mv → Nat → List UInt8
  | [], _ => []
  | m :: r, i => lineOf m i ++ prints r (i + 1)
def print (p : List Mv) : List UInt8 := prints p 0
theorem prints_snoc : ∀ (p : List Mv) (i : Nat) (m : Mv), prints (p ++ [m]) i = prints p i ++ lineOf m (i + p.length)
  | [], i, m => by simp [prints]
  | a :: r, i, m => by
    simp only [List.cons_append, prints, prints_snoc r (i + 1) m, List.append_assoc, List.length_cons]
    rw [show i + 1 + r.length = i + (r.length + 1) by omega]
theorem print_snoc (p : List Mv) (m : Mv) : print (p ++ [m]) = print p ++ lineOf m p.length := by
  unfold print; rw [prints_snoc, Nat.zero_add]
theorem code_len (k : Int) : (code k).length = 3 := by
  unfold code
  repeat' split
  all_goals rfl

/- Statistics. -/
def ab (n : Int) : Int := if 0 ≤ n then n else -n
def norm (x y : Int) : Int := max (ab x) (ab y)
structure St where
  rapid : Int
  cut : Int
  pierces : Int
  joints : Int
  hx : Int
  hy : Int
  pts : List (Int × Int)
def St.init : St := ⟨0, 0, 0, 0, 0, 0, []⟩
def step (s : St) (m : Mv) : St :=
  if m.k = 1 then ⟨s.rapid + norm (m.x - s.hx) (m.y - s.hy), s.cut, s.pierces, s.joints, m.x, m.y, s.pts⟩
  else if m.k = 2 then ⟨s.rapid, s.cut + norm (m.x - s.hx) (m.y - s.hy), s.pierces, s.joints, m.x, m.y, s.pts ++ [(s.hx, s.hy), (m.x, m.y)]⟩
  else if m.k = 3 then { s with pierces := s.pierces + 1 }
  else if m.k = 5 then { s with joints := s.joints + 1 }
  else s
def run (p : List Mv) : St := p.foldl step .init
theorem run_snoc (p : List Mv) (m : Mv) : run (p ++ [m]) = step (run p) m := by simp [run, List.foldl_append]
/-- What holds of the statistics of n good moves. -/
def Fine (s : St) (n : Nat) : Prop :=
  (0 ≤ s.rapid ∧ s.rapid ≤ 4000 * n) ∧ (0 ≤ s.cut ∧ s.cut ≤ 4000 * n) ∧ (0 ≤ s.pierces ∧ s.pierces ≤ n) ∧ (0 ≤ s.joints ∧ s.joints ≤ n) ∧
  (-2000 ≤ s.hx ∧ s.hx ≤ 2000) ∧ (-2000 ≤ s.hy ∧ s.hy ≤ 2000) ∧ s.pts.length ≤ 2 * n ∧ ∀ q ∈ s.pts, (-2000 ≤ q.1 ∧ q.1 ≤ 2000) ∧ (-2000 ≤ q.2 ∧ q.2 ≤ 2000)
theorem norm_bound {x y : Int} (hx : -4000 ≤ x ∧ x ≤ 4000) (hy : -4000 ≤ y ∧ y ≤ 4000) : 0 ≤ norm x y ∧ norm x y ≤ 4000 := by
  unfold norm ab
  split <;> split <;> omega
theorem fine_step {s : St} {n : Nat} {m : Mv} (h : Fine s n) (hm : ok m = true) : Fine (step s m) (n + 1) := by
  obtain ⟨h1, h2, h3, h4, h5, h6, h7, h8⟩ := h
  have hb := ok_bound hm
  have hn := norm_bound (x := m.x - s.hx) (y := m.y - s.hy) (by omega) (by omega)
  unfold step Fine
  by_cases k1 : m.k = 1
  · rw [if_pos k1]
    exact ⟨by simp only; omega, by simp only; omega, by simp only; omega, by simp only; omega, by simp only; omega, by simp only; omega, by simp only; omega, h8⟩
  rw [if_neg k1]
  by_cases k2 : m.k = 2
  · rw [if_pos k2]
    refine ⟨by simp only; omega, by simp only; omega, by simp only; omega, by simp only; omega, by simp only; omega, by simp only; omega, by simp; omega, ?_⟩
    intro q hq
    rcases List.mem_append.1 hq with h | h
    · exact h8 q h
    · simp only [List.mem_cons, List.not_mem_nil, or_false] at h
      rcases h with rfl | rfl <;> simp only <;> omega
  rw [if_neg k2]
  by_cases k3 : m.k = 3
  · rw [if_pos k3]
    exact ⟨by simp only; omega, by simp only; omega, by simp only; omega, by simp only; omega, by simp only; omega, by simp only; omega, by simp only; omega, h8⟩
  rw [if_neg k3]
  by_cases k5 : m.k = 5
  · rw [if_pos k5]
    exact ⟨by simp only; omega, by simp only; omega, by simp only; omega, by simp only; omega, by simp only; omega, by simp only; omega, by simp only; omega, h8⟩
  rw [if_neg k5]
  exact ⟨by omega, by omega, by omega, by omega, h5, h6, by omega, h8⟩
theorem fine_foldl : ∀ (p : List Mv) (s : St) (n : Nat), Fine s n → (∀ m ∈ p, ok m = true) → Fine (p.foldl step s) (n + p.length)
  | [], s, n, h, _ => by simpa using h
  | m :: r, s, n, h, hp => by
    have := fine_foldl r (step s m) (n + 1) (fine_step h (hp m (by simp))) fun a ha => hp a (by simp [ha])
    rw [List.foldl_cons, List.length_cons, show n + (r.length + 1) = n + 1 + r.length by omega]
    exact this
theorem fine_run {p : List Mv} (hp : ∀ m ∈ p, ok m = true) : Fine (run p) p.length := by
  have := fine_foldl p .init 0 (by simp [Fine, St.init]) hp
  rwa [Nat.zero_add] at this

/-- The least box round points. -/
structure Bx where
  lx : Int
  ly : Int
  hx : Int
  hy : Int
  deriving DecidableEq
def bstep (b : Bx) (q : Int × Int) : Bx := ⟨min b.lx q.1, min b.ly q.2, max b.hx q.1, max b.hy q.2⟩
def box : List (Int × Int) → Bx
  | [] => ⟨0, 0, 0, 0⟩
  | q :: r => (q :: r).foldl bstep ⟨q.1, q.2, q.1, q.2⟩

/- Shifts. -/
def add (m : Mv) (u v : Int) : Mv := if moving m.k then ⟨m.k, m.x + u, m.y + v⟩ else m
def shift (p : List Mv) (u v : Int) : List Mv := p.map fun m => add m u v
/-- Shifted by the machine's sums. -/
def wadd (f : Int → Int) (m : Mv) (u v : Int) : Mv := if moving m.k then ⟨m.k, f (m.x + u), f (m.y + v)⟩ else m

/- Joins. -/
def till (p : List Mv) : List Mv := p.takeWhile fun m => !(m.k == 6)
def join (a b : List Mv) : List Mv := till a ++ b
end Go.Proofs.YtonpbomjjamphaaGreatDoor.Nc
