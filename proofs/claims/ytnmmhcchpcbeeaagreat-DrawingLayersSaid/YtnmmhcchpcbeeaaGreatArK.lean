/- What the chain of an arc keeps in memory: the boxes that its closures hold, and the points gathered so far. Conditions: none. -/
import Derived.Test.YtnmmhcchpcbeeaaGreatDwPlain
import Derived.Laws.FloatArith
import Derived.Test.YtnmmhcchpcbeeaaGreatGeSl

namespace Go.Proofs.YtnmmhcchpcbeeaaGreat.Ge
open Go
theorem ltge (a b : Int) : a < b ∨ b ≤ a := by omega
def isq : Nat → Nat
  | 0 => 0
  | n + 1 => if (isq n + 1) * (isq n + 1) ≤ n + 1 then isq n + 1 else isq n
theorem isq_spec (n : Nat) : isq n * isq n ≤ n ∧ n < (isq n + 1) * (isq n + 1) := by
  induction n with
  | zero => simp [isq]
  | succ n ih =>
    unfold isq
    obtain ⟨h1, h2⟩ := ih
    split
    · rename_i h
      refine ⟨h, ?_⟩
      have : (isq n + 1 + 1) * (isq n + 1 + 1) = (isq n + 1) * (isq n + 1) + 2 * (isq n + 1) + 1 := by grind
      omega
    · omega
def root (n : Int) : Int := (isq n.toNat : Int)
theorem root_spec {n : Int} (h : 0 ≤ n) : 0 ≤ root n ∧ root n * root n ≤ n ∧ n < (root n + 1) * (root n + 1) := by
  have hs := isq_spec n.toNat
  refine ⟨by unfold root; omega, ?_, ?_⟩
  · have : ((isq n.toNat * isq n.toNat : Nat) : Int) ≤ (n.toNat : Int) := Int.ofNat_le.mpr hs.1
    rw [Int.natCast_mul, Int.toNat_of_nonneg h] at this
    exact this
  · have : ((n.toNat : Nat) : Int) < (((isq n.toNat + 1) * (isq n.toNat + 1) : Nat) : Int) := Int.ofNat_lt.mpr hs.2
    rw [Int.natCast_mul, Int.toNat_of_nonneg h, Int.natCast_add] at this
    exact this
theorem sq_lt {a b : Int} (ha : 0 ≤ a) (h : a < b) : a * a < b * b := Int.mul_self_lt_mul_self ha h
theorem sq_le {a b : Int} (ha : 0 ≤ a) (h : a ≤ b) : a * a ≤ b * b := Int.mul_self_le_mul_self ha h
theorem root_uniq {n r : Int} (h0 : 0 ≤ r) (h1 : r * r ≤ n) (h2 : n < (r + 1) * (r + 1)) : root n = r := by
  have hn : 0 ≤ n := Int.le_trans (Int.mul_nonneg h0 h0) h1
  obtain ⟨a, b, c⟩ := root_spec hn
  rcases Int.lt_trichotomy (root n) r with h | h | h
  · have := sq_le (a := root n + 1) (b := r) (by omega) (by omega); omega
  · exact h
  · have := sq_le (a := r + 1) (b := root n) (by omega) (by omega); omega
theorem root_le {n k : Int} (hn : 0 ≤ n) (hk : 0 ≤ k) (h : n < (k + 1) * (k + 1)) : root n ≤ k := by
  obtain ⟨a, b, c⟩ := root_spec hn
  rcases ltge k (root n) with g | g
  · have := sq_le (a := k + 1) (b := root n) (by omega) (by omega); omega
  · exact g
/-- A coordinate of the point of a circle in a direction, rounded. -/
def rd (sq d x : Int) : Int := (root (4 * x * x * sq / d) + 1) / 2
def rdS (sq d x : Int) : Int := if x < 0 then -rd sq d x else rd sq d x
def midP (sq : Int) (p q : V) : V := (rdS sq (dot (p.1 + q.1, p.2 + q.2) (p.1 + q.1, p.2 + q.2)) (p.1 + q.1), rdS sq (dot (p.1 + q.1, p.2 + q.2) (p.1 + q.1, p.2 + q.2)) (p.2 + q.2))
theorem rd_spec {sq d x : Int} (hs : 0 ≤ sq) (hd : 0 < d) : 0 ≤ rd sq d x ∧ (1 ≤ rd sq d x → (2 * rd sq d x - 1) * (2 * rd sq d x - 1) * d ≤ 4 * (x * x) * sq) ∧ 4 * (x * x) * sq < (2 * rd sq d x + 1) * (2 * rd sq d x + 1) * d := by
  have hx : 0 ≤ x * x := by rcases ltge x 0 with h | h; · exact Int.mul_nonneg_of_nonpos_of_nonpos (by omega) (by omega)
                            · exact Int.mul_nonneg h h
  have hm : 0 ≤ 4 * x * x * sq := Int.mul_nonneg (by rw [Int.mul_assoc]; omega) hs
  have he : 4 * x * x * sq = 4 * (x * x) * sq := by grind
  have hq : 0 ≤ 4 * x * x * sq / d := Int.ediv_nonneg hm (by omega)
  obtain ⟨r0, r1, r2⟩ := root_spec hq
  have hd1 : 4 * x * x * sq / d * d ≤ 4 * x * x * sq := Int.ediv_mul_le _ (by omega)
  have hd2 : 4 * x * x * sq < (4 * x * x * sq / d + 1) * d := Int.lt_ediv_add_one_mul_self _ hd
  unfold rd
  generalize hQ : 4 * x * x * sq / d = Q at *
  generalize hR : root Q = R at *
  rw [← he]
  have hn : 2 * ((R + 1) / 2) = R ∨ 2 * ((R + 1) / 2) = R + 1 := by omega
  generalize (R + 1) / 2 = n at *
  have k1 : R * R * d ≤ 4 * x * x * sq := Int.le_trans (Int.mul_le_mul_of_nonneg_right r1 (by omega)) hd1
  have k2 : 4 * x * x * sq < (R + 1) * (R + 1) * d := Int.lt_of_lt_of_le hd2 (Int.mul_le_mul_of_nonneg_right (by omega) (by omega))
  refine ⟨by omega, fun h1 => ?_, ?_⟩
  · exact Int.le_trans (Int.mul_le_mul_of_nonneg_right (sq_le (by omega) (by omega)) (by omega)) k1
  · exact Int.lt_of_lt_of_le k2 (Int.mul_le_mul_of_nonneg_right (sq_le (by omega) (by omega)) (by omega))
/-- The bounds of a rounded point. -/
def lowP (sq x y : Int) : Prop := 4 * sq < (2 * x + 1) * (2 * x + 1) + (2 * y + 1) * (2 * y + 1)
def cut1 (x : Int) : Int := if 1 ≤ x then 2 * x - 1 else 0
def highP (sq x y : Int) : Prop := cut1 x * cut1 x + cut1 y * cut1 y ≤ 4 * sq
theorem lowP.swap {sq x y : Int} (h : lowP sq x y) : lowP sq y x := by unfold lowP at *; omega
theorem highP.swap {sq x y : Int} (h : highP sq x y) : highP sq y x := by unfold highP at *; omega
theorem sqn (x : Int) : 0 ≤ x * x := by
  rcases ltge x 0 with h | h
  · exact Int.mul_nonneg_of_nonpos_of_nonpos (by omega) (by omega)
  · exact Int.mul_nonneg h h
theorem le_cancel {a b d : Int} (hd : 0 < d) (h : a * d ≤ b * d) : a ≤ b := Int.le_of_mul_le_mul_right h hd
theorem mid_up {sq a b s t n D : Int} (ha : 0 ≤ a) (hb : 0 ≤ b) (hs : 0 ≤ s) (ht : 0 ≤ t) (hst : 1 ≤ s + t) (hp : lowP sq (a + s) b) (hq : lowP sq a (b + t)) (hD : D = (2 * a + s) * (2 * a + s) + (2 * b + t) * (2 * b + t)) (hD0 : 0 < D)
    (hn : 1 ≤ n → (2 * n - 1) * (2 * n - 1) * D ≤ 4 * ((2 * a + s) * (2 * a + s)) * sq) : n ≤ a + s := by
  rcases ltge (a + s) n with h | h
  · exfalso
    unfold lowP at hp hq
    have h1 : (2 * (a + s) + 1) * (2 * (a + s) + 1) * D ≤ 4 * ((2 * a + s) * (2 * a + s)) * sq :=
      Int.le_trans (Int.mul_le_mul_of_nonneg_right (sq_le (by omega) (by omega)) (by omega)) (hn (by omega))
    have hu1 : 0 ≤ (2 * a + s) * (2 * a + s) := Int.mul_nonneg (by omega) (by omega)
    have hu2 : 0 ≤ (2 * b + t) * (2 * b + t) := Int.mul_nonneg (by omega) (by omega)
    rcases ltge (4 * sq) D with c | c
    · have h2 := Int.mul_le_mul_of_nonneg_left (Int.le_of_lt c) hu1
      have h3 : (2 * (a + s) + 1) * (2 * (a + s) + 1) * D ≤ (2 * a + s) * (2 * a + s) * D := by
        refine Int.le_trans h1 (Int.le_trans (Int.le_of_eq ?_) h2); grind
      have h4 := le_cancel hD0 h3
      have h5 := sq_lt (a := 2 * a + s) (b := 2 * (a + s) + 1) (by omega) (by omega)
      omega
    · rcases ltge 0 t with e | e
      · have h2 := Int.mul_le_mul_of_nonneg_left c hu2
        have h3 := Int.mul_le_mul_of_nonneg_right (sq_le (a := 2 * b + 1) (b := 2 * b + t) (by omega) (by omega)) (Int.le_of_lt hD0)
        have h4 := Int.mul_lt_mul_of_pos_right hp hD0
        have h5 : 4 * sq * D = 4 * ((2 * a + s) * (2 * a + s)) * sq + (2 * b + t) * (2 * b + t) * (4 * sq) := by rw [hD]; grind
        rw [Int.add_mul] at h4
        omega
      · obtain rfl : t = 0 := by omega
        have h6 := Int.mul_lt_mul_of_pos_left hq (show 0 < (2 * a + s) * (2 * a + s) from Int.mul_pos (by omega) (by omega))
        have hz : 0 ≤ (s - 1) * ((2 * a + s) * (2 * a + s) * (2 * a + s + 1)) := Int.mul_nonneg (by omega) (Int.mul_nonneg hu1 (by omega))
        have hy : 0 ≤ b * b * (2 * (2 * a + s) * (s - 1) + (s - 1) * (s + 3)) := Int.mul_nonneg (Int.mul_nonneg hb hb) (Int.add_nonneg (Int.mul_nonneg (by omega) (by omega)) (Int.mul_nonneg (by omega) (by omega)))
        have hx : 0 ≤ (2 * a + s) * ((2 * (2 * a + s) - b) * (2 * (2 * a + s) - b) + 15 * (b * b)) := Int.mul_nonneg (by omega) (Int.add_nonneg (sqn _) (by have := sqn b; omega))
        have hw := sqn b
        have h7 : (2 * a + s) * (2 * a + s) * (4 * sq) = 4 * ((2 * a + s) * (2 * a + s)) * sq := by grind
        have h8 : (2 * (a + s) + 1) * (2 * (a + s) + 1) * D - (2 * a + s) * (2 * a + s) * ((2 * a + 1) * (2 * a + 1) + (2 * (b + 0) + 1) * (2 * (b + 0) + 1)) = 4 * ((s - 1) * ((2 * a + s) * (2 * a + s) * (2 * a + s + 1))) + 4 * (b * b * (2 * (2 * a + s) * (s - 1) + (s - 1) * (s + 3))) + (2 * a + s) * ((2 * (2 * a + s) - b) * (2 * (2 * a + s) - b) + 15 * (b * b)) + 3 * ((2 * a + s) * (2 * a + s)) + 16 * (b * b) := by rw [hD]; grind
        omega
  · exact h
theorem mid_low {sq a b s t n D : Int} (ha : 0 ≤ a) (hb : 0 ≤ b) (hs : 0 ≤ s) (ht : 0 ≤ t) (hst : 1 ≤ s + t) (hp : highP sq (a + s) b) (hq : highP sq a (b + t)) (hD : D = (2 * a + s) * (2 * a + s) + (2 * b + t) * (2 * b + t)) (hD0 : 0 < D) (hn0 : 0 ≤ n)
    (hn : 4 * ((2 * a + s) * (2 * a + s)) * sq < (2 * n + 1) * (2 * n + 1) * D) : a ≤ n := by
  rcases ltge n a with h | h
  · exfalso
    unfold highP at hp hq
    have h1 : 4 * ((2 * a + s) * (2 * a + s)) * sq < (2 * a - 1) * (2 * a - 1) * D :=
      Int.lt_of_lt_of_le hn (Int.mul_le_mul_of_nonneg_right (sq_le (by omega) (by omega)) (by omega))
    have hu1 : 0 ≤ (2 * a + s) * (2 * a + s) := Int.mul_nonneg (by omega) (by omega)
    have hu2 : 0 ≤ (2 * b + t) * (2 * b + t) := Int.mul_nonneg (by omega) (by omega)
    rcases ltge (4 * sq) D with c | c
    · rcases ltge 0 t with e | e
      · have ea : cut1 a = 2 * a - 1 := by unfold cut1; rw [if_pos (by omega)]
        have eb : cut1 (b + t) = 2 * (b + t) - 1 := by unfold cut1; rw [if_pos (by omega)]
        rw [ea, eb] at hq
        have h2 := Int.mul_le_mul_of_nonneg_left (Int.le_of_lt c) hu2
        have h3 := Int.mul_le_mul_of_nonneg_right (sq_le (a := 2 * b + t) (b := 2 * (b + t) - 1) (by omega) (by omega)) (Int.le_of_lt hD0)
        have h4 := Int.mul_le_mul_of_nonneg_right hq (Int.le_of_lt hD0)
        have h5 : 4 * sq * D = 4 * ((2 * a + s) * (2 * a + s)) * sq + (2 * b + t) * (2 * b + t) * (4 * sq) := by rw [hD]; grind
        rw [Int.add_mul] at h4
        omega
      · obtain rfl : t = 0 := by omega
        have ea : cut1 (a + s) = 2 * (a + s) - 1 := by unfold cut1; rw [if_pos (by omega)]
        rw [ea] at hp
        have h6 := Int.mul_le_mul_of_nonneg_left hp hu1
        have h7 : (2 * a + s) * (2 * a + s) * (4 * sq) = 4 * ((2 * a + s) * (2 * a + s)) * sq := by grind
        rcases ltge 0 b with f | f
        · have eb : cut1 b = 2 * b - 1 := by unfold cut1; rw [if_pos (by omega)]
          rw [eb] at h6
          have hz : 0 ≤ (s - 1) * ((2 * a + s) * (2 * a + s) * (2 * a + s - 1)) := Int.mul_nonneg (by omega) (Int.mul_nonneg hu1 (by omega))
          have hy : 0 ≤ b * b * ((s - 1) * (4 * a + s - 1) + 4 * (a - 1)) := Int.mul_nonneg (Int.mul_nonneg hb hb) (Int.add_nonneg (Int.mul_nonneg (by omega) (by omega)) (by omega))
          have hx : 0 ≤ (2 * a + s) * ((2 * a + s - 2 * b) * (2 * a + s - 2 * b)) := Int.mul_nonneg (by omega) (sqn _)
          have hv : 0 ≤ (2 * a + s) * (2 * a + s) * (2 * a + s - 1) := Int.mul_nonneg hu1 (by omega)
          have hw := sqn b
          have hw2 : 0 ≤ b * b * (2 * a + s) := Int.mul_nonneg hw (by omega)
          have h8 : (2 * a + s) * (2 * a + s) * ((2 * (a + s) - 1) * (2 * (a + s) - 1) + (2 * b - 1) * (2 * b - 1)) - (2 * a - 1) * (2 * a - 1) * D = 4 * ((s - 1) * ((2 * a + s) * (2 * a + s) * (2 * a + s - 1))) + 4 * (b * b * ((s - 1) * (4 * a + s - 1) + 4 * (a - 1))) + 3 * ((2 * a + s) * (2 * a + s) * (2 * a + s - 1)) + (2 * a + s) * ((2 * a + s - 2 * b) * (2 * a + s - 2 * b)) + 4 * (b * b * (2 * a + s)) + 8 * (b * b) := by rw [hD]; grind
          omega
        · obtain rfl : b = 0 := by omega
          have h9 := Int.mul_le_mul_of_nonneg_left (sq_le (a := 2 * a - 1) (b := 2 * (a + s) - 1) (by omega) (by omega)) hu1
          have h10 : (2 * a - 1) * (2 * a - 1) * D = (2 * a + s) * (2 * a + s) * ((2 * a - 1) * (2 * a - 1)) := by rw [hD]; grind
          have h11 := Int.mul_nonneg hu1 (sqn (cut1 0))
          rw [Int.mul_add] at h6
          omega
    · have h2 := Int.mul_le_mul_of_nonneg_left c hu1
      have h3 : (2 * a + s) * (2 * a + s) * D < (2 * a - 1) * (2 * a - 1) * D := by
        refine Int.lt_of_le_of_lt (Int.le_trans h2 (Int.le_of_eq ?_)) h1; grind
      have h4 := Int.lt_of_mul_lt_mul_right h3 (Int.le_of_lt hD0)
      have h5 := sq_lt (a := 2 * a - 1) (b := 2 * a + s) (by omega) (by omega)
      omega
  · exact h
def ab (x : Int) : Int := if x < 0 then -x else x
theorem ab_spec (x : Int) : (0 ≤ x ∧ ab x = x) ∨ (x < 0 ∧ ab x = -x) := by unfold ab; split <;> omega
theorem ab_sq (x : Int) : ab x * ab x = x * x := by rcases ab_spec x with ⟨_, h⟩ | ⟨_, h⟩ <;> rw [h]; grind
def NearP (sq : Int) (p : V) : Prop := lowP sq (ab p.1) (ab p.2) ∧ highP sq (ab p.1) (ab p.2)
theorem rd_ab (sq d x : Int) : rd sq d (ab x) = rd sq d x := by
  unfold rd
  rw [show 4 * ab x * ab x * sq = 4 * x * x * sq by have := ab_sq x; grind]
theorem rdS_spec {sq d : Int} (x : Int) (h : 0 ≤ rd sq d x) : ab (rdS sq d x) = rd sq d x ∧ ((0 ≤ x ∧ rdS sq d x = rd sq d x) ∨ (x < 0 ∧ rdS sq d x = -rd sq d x)) := by
  unfold rdS
  split
  · have := ab_spec (-rd sq d x); omega
  · have := ab_spec (rd sq d x); omega
theorem cut1_sq {sq D n X : Int} (hn0 : 0 ≤ n) (hs : 0 ≤ sq) (h : 1 ≤ n → (2 * n - 1) * (2 * n - 1) * D ≤ 4 * (X * X) * sq) : cut1 n * cut1 n * D ≤ 4 * (X * X) * sq := by
  unfold cut1
  split
  · exact h (by assumption)
  · have := Int.mul_nonneg (sqn X) hs
    have e : 4 * (X * X) * sq = 4 * (X * X * sq) := by grind
    rw [e]; omega
theorem near_rd {sq u1 u2 D : Int} (hs : 0 ≤ sq) (hD : D = u1 * u1 + u2 * u2) (hD0 : 0 < D) : NearP sq (rdS sq D u1, rdS sq D u2) := by
  obtain ⟨a0, a1, a2⟩ := rd_spec (x := u1) hs hD0
  obtain ⟨b0, b1, b2⟩ := rd_spec (x := u2) hs hD0
  have h5 : 4 * sq * D = 4 * (u1 * u1) * sq + 4 * (u2 * u2) * sq := by rw [hD]; grind
  unfold NearP lowP highP
  dsimp only
  rw [(rdS_spec u1 a0).1, (rdS_spec u2 b0).1]
  constructor
  · refine Int.lt_of_mul_lt_mul_right (a := D) ?_ (Int.le_of_lt hD0)
    rw [Int.add_mul]; omega
  · refine le_cancel hD0 ?_
    have := cut1_sq a0 hs a1
    have := cut1_sq b0 hs b1
    rw [Int.add_mul]; omega
theorem core {sq X1 Y1 X2 Y2 D : Int} (y1 : 0 ≤ Y1) (x2 : 0 ≤ X2) (hs : 0 ≤ sq) (l1 : lowP sq X1 Y1) (l2 : lowP sq X2 Y2) (h1 : highP sq X1 Y1) (h2 : highP sq X2 Y2) (hx : X2 ≤ X1) (hy : Y1 ≤ Y2) (hne : X1 ≠ X2 ∨ Y1 ≠ Y2)
    (hD : D = (X1 + X2) * (X1 + X2) + (Y1 + Y2) * (Y1 + Y2)) (hD0 : 0 < D) : (X2 ≤ rd sq D (X1 + X2) ∧ rd sq D (X1 + X2) ≤ X1) ∧ (Y1 ≤ rd sq D (Y1 + Y2) ∧ rd sq D (Y1 + Y2) ≤ Y2) := by
  obtain ⟨a0, a1, a2⟩ := rd_spec (x := X1 + X2) hs hD0
  obtain ⟨b0, b1, b2⟩ := rd_spec (x := Y1 + Y2) hs hD0
  have ex : 2 * X2 + (X1 - X2) = X1 + X2 := by omega
  have ey : 2 * Y1 + (Y2 - Y1) = Y1 + Y2 := by omega
  have e1 : X2 + (X1 - X2) = X1 := by omega
  have e2 : Y1 + (Y2 - Y1) = Y2 := by omega
  refine ⟨⟨?_, ?_⟩, ?_, ?_⟩
  · exact mid_low (a := X2) (b := Y1) (s := X1 - X2) (t := Y2 - Y1) x2 y1 (by omega) (by omega) (by omega) (by rw [e1]; exact h1) (by rw [e2]; exact h2) (by rw [ex, ey]; exact hD) hD0 a0 (by rw [ex]; exact a2)
  · have := mid_up (n := rd sq D (X1 + X2)) (a := X2) (b := Y1) (s := X1 - X2) (t := Y2 - Y1) x2 y1 (by omega) (by omega) (by omega) (by rw [e1]; exact l1) (by rw [e2]; exact l2) (by rw [ex, ey]; exact hD) hD0 (by rw [ex]; exact a1)
    omega
  · exact mid_low (a := Y1) (b := X2) (s := Y2 - Y1) (t := X1 - X2) y1 x2 (by omega) (by omega) (by omega) (by rw [e2]; exact h2.swap) (by rw [e1]; exact h1.swap) (by rw [ex, ey, hD]; omega) hD0 b0 (by rw [ey]; exact b2)
  · have := mid_up (n := rd sq D (Y1 + Y2)) (a := Y1) (b := X2) (s := Y2 - Y1) (t := X1 - X2) y1 x2 (by omega) (by omega) (by omega) (by rw [e2]; exact l2.swap) (by rw [e1]; exact l1.swap) (by rw [ex, ey, hD]; omega) hD0 (by rw [ey]; exact b1)
    omega
theorem order_of {sq X1 Y1 X2 Y2 : Int} (x2 : 0 ≤ X2) (y2 : 0 ≤ Y2) (h1 : highP sq X1 Y1) (l2 : lowP sq X2 Y2) (h : X2 < X1) : Y1 ≤ Y2 := by
  rcases ltge Y2 Y1 with g | g
  · exfalso
    unfold highP at h1; unfold lowP at l2
    rw [show cut1 X1 = 2 * X1 - 1 by unfold cut1; rw [if_pos (by omega)], show cut1 Y1 = 2 * Y1 - 1 by unfold cut1; rw [if_pos (by omega)]] at h1
    have := sq_le (a := 2 * X2 + 1) (b := 2 * X1 - 1) (by omega) (by omega)
    have := sq_le (a := 2 * Y2 + 1) (b := 2 * Y1 - 1) (by omega) (by omega)
    omega
  · exact g
theorem le_sq (n : Int) : n ≤ n * n := by
  rcases ltge 0 n with h | h
  · have := Int.mul_le_mul_of_nonneg_left (show 1 ≤ n by omega) (show 0 ≤ n by omega); omega
  · have := sqn n; omega
theorem strad {sq X Y y1 y2 D : Int} (hY : 1 ≤ Y) (hXY : Y ≤ X) (hs : 1 ≤ sq) (l1 : lowP sq X y1) (l2 : lowP sq Y y2) (hd : X * Y ≤ y1 * y2) (hD : D = (X - Y) * (X - Y) + (y1 + y2) * (y1 + y2)) (hD0 : 0 < D) : rd sq D (X - Y) < X := by
  obtain ⟨a0, a1, a2⟩ := rd_spec (x := X - Y) (show 0 ≤ sq by omega) hD0
  rcases ltge (rd sq D (X - Y)) X with h | h
  · exact h
  · exfalso
    unfold lowP at l1 l2
    have hsD : sq ≤ D := by
      have := le_sq X; have := le_sq Y; have := le_sq y1; have := le_sq y2
      have e : D = X * X + Y * Y + y1 * y1 + y2 * y2 + 2 * (y1 * y2 - X * Y) := by rw [hD]; grind
      have e1 : (2 * X + 1) * (2 * X + 1) = 4 * (X * X) + 4 * X + 1 := by grind
      have e2 : (2 * Y + 1) * (2 * Y + 1) = 4 * (Y * Y) + 4 * Y + 1 := by grind
      have e3 : (2 * y1 + 1) * (2 * y1 + 1) = 4 * (y1 * y1) + 4 * y1 + 1 := by grind
      have e4 : (2 * y2 + 1) * (2 * y2 + 1) = 4 * (y2 * y2) + 4 * y2 + 1 := by grind
      omega
    have k1 := Int.le_trans (Int.mul_le_mul_of_nonneg_right (sq_le (a := 2 * X - 1) (b := 2 * rd sq D (X - Y) - 1) (by omega) (by omega)) (Int.le_of_lt hD0)) (a1 (by omega))
    have k2 := Int.mul_le_mul_of_nonneg_left hsD (sqn (X - Y))
    have k3 : (2 * X - 1) * (2 * X - 1) * D ≤ (2 * (X - Y)) * (2 * (X - Y)) * D := by
      refine Int.le_trans k1 (Int.le_trans (Int.le_of_eq ?_) (Int.le_trans (Int.mul_le_mul_of_nonneg_left k2 (show (0:Int) ≤ 4 by omega)) (Int.le_of_eq ?_))) <;> grind
    have k4 := le_cancel hD0 k3
    have k5 := sq_lt (a := 2 * (X - Y)) (b := 2 * X - 1) (by omega) (by omega)
    omega
end Go.Proofs.YtnmmhcchpcbeeaaGreat.Ge

namespace Go.Proofs.YtnmmhcchpcbeeaaGreat.Ge
open Go
theorem betw_of {p q m n : Int} (hm : (0 ≤ p + q ∧ m = n) ∨ (p + q < 0 ∧ m = -n)) (h : (ab q ≤ n ∧ n ≤ ab p) ∨ (ab p ≤ n ∧ n ≤ ab q)) : (p ≤ m ∧ m ≤ q) ∨ (q ≤ m ∧ m ≤ p) := by
  have a := ab_spec p; have b := ab_spec q
  omega
theorem ab_add {p q : Int} (hx : (0 ≤ p ∧ 0 ≤ q) ∨ (p ≤ 0 ∧ q ≤ 0)) : ab (p + q) = ab p + ab q := by
  have a := ab_spec p; have b := ab_spec q; have c := ab_spec (p + q)
  omega
theorem ab_pos (x : Int) : 0 ≤ ab x := by have := ab_spec x; omega
theorem ab_eq {p q : Int} (hx : (0 ≤ p ∧ 0 ≤ q) ∨ (p ≤ 0 ∧ q ≤ 0)) (h : ab p = ab q) : p = q := by
  have a := ab_spec p; have b := ab_spec q
  omega
theorem stepA {sq p1 p2 q1 q2 D : Int} (hs : 1 ≤ sq) (hp : NearP sq (p1, p2)) (hq : NearP sq (q1, q2)) (hx : (0 ≤ p1 ∧ 0 ≤ q1) ∨ (p1 ≤ 0 ∧ q1 ≤ 0)) (hy : (0 ≤ p2 ∧ 0 ≤ q2) ∨ (p2 ≤ 0 ∧ q2 ≤ 0)) (hne : p1 ≠ q1 ∨ p2 ≠ q2) (hD : D = (p1 + q1) * (p1 + q1) + (p2 + q2) * (p2 + q2)) (hD0 : 0 < D) :
    ((p1 ≤ rdS sq D (p1 + q1) ∧ rdS sq D (p1 + q1) ≤ q1) ∨ (q1 ≤ rdS sq D (p1 + q1) ∧ rdS sq D (p1 + q1) ≤ p1)) ∧ ((p2 ≤ rdS sq D (p2 + q2) ∧ rdS sq D (p2 + q2) ≤ q2) ∨ (q2 ≤ rdS sq D (p2 + q2) ∧ rdS sq D (p2 + q2) ≤ p2)) := by
  obtain ⟨l1, h1⟩ := hp
  obtain ⟨l2, h2⟩ := hq
  dsimp only at l1 h1 l2 h2
  have hs0 : 0 ≤ sq := by omega
  have r1 := rdS_spec (p1 + q1) (rd_spec (x := p1 + q1) hs0 hD0).1
  have r2 := rdS_spec (p2 + q2) (rd_spec (x := p2 + q2) hs0 hD0).1
  have s1 := ab_add hx
  have s2 := ab_add hy
  have eD : D = (ab p1 + ab q1) * (ab p1 + ab q1) + (ab p2 + ab q2) * (ab p2 + ab q2) := by rw [← s1, ← s2, ab_sq, ab_sq, hD]
  have eD' : D = (ab q1 + ab p1) * (ab q1 + ab p1) + (ab q2 + ab p2) * (ab q2 + ab p2) := by rw [eD]; grind
  have t1 := rd_ab sq D (p1 + q1)
  have t2 := rd_ab sq D (p2 + q2)
  rw [s1] at t1
  rw [s2] at t2
  have n1 := ab_pos p1; have n2 := ab_pos p2; have n3 := ab_pos q1; have n4 := ab_pos q2
  have o1 := order_of n3 n4 h1 l2
  have o2 := order_of n1 n2 h2 l1
  have hne2 : ab p1 ≠ ab q1 ∨ ab p2 ≠ ab q2 := by
    rcases hne with g | g
    · exact .inl (fun h => g (ab_eq hx h))
    · exact .inr (fun h => g (ab_eq hy h))
  have ho : (ab q1 ≤ ab p1 ∧ ab p2 ≤ ab q2) ∨ (ab p1 ≤ ab q1 ∧ ab q2 ≤ ab p2) := by
    rcases Int.lt_trichotomy (ab q1) (ab p1) with g | g | g
    · exact .inl ⟨Int.le_of_lt g, o1 g⟩
    · rcases Int.le_total (ab p2) (ab q2) with f | f
      · exact .inl ⟨Int.le_of_eq g, f⟩
      · exact .inr ⟨Int.le_of_eq g.symm, f⟩
    · exact .inr ⟨Int.le_of_lt g, o2 g⟩
  rcases ho with ⟨g1, g2⟩ | ⟨g1, g2⟩
  · have k := core (D := D) n2 n3 hs0 l1 l2 h1 h2 g1 g2 hne2 eD hD0
    rw [t1, t2] at k
    exact ⟨betw_of r1.2 (.inl k.1), betw_of r2.2 (.inr k.2)⟩
  · have k := core (D := D) n4 n1 hs0 l2 l1 h2 h1 g1 g2 (hne2.imp Ne.symm Ne.symm) eD' hD0
    rw [Int.add_comm (ab q1), Int.add_comm (ab q2), t1, t2] at k
    exact ⟨betw_of r1.2 (.inr k.1), betw_of r2.2 (.inl k.2)⟩
theorem stepB {sq p1 p2 q1 q2 D : Int} (hs : 1 ≤ sq) (hp : NearP sq (p1, p2)) (hq : NearP sq (q1, q2)) (hx : (p1 < 0 ∧ 0 < q1) ∨ (0 < p1 ∧ q1 < 0)) (hy : (0 < p2 ∧ 0 < q2) ∨ (p2 < 0 ∧ q2 < 0)) (hd : 0 ≤ p1 * q1 + p2 * q2) (hD : D = (p1 + q1) * (p1 + q1) + (p2 + q2) * (p2 + q2)) (hD0 : 0 < D) :
    ((p1 < rdS sq D (p1 + q1) ∧ rdS sq D (p1 + q1) < q1) ∨ (q1 < rdS sq D (p1 + q1) ∧ rdS sq D (p1 + q1) < p1)) ∧ (0 < p2 → 0 < rdS sq D (p2 + q2)) ∧ (p2 < 0 → rdS sq D (p2 + q2) < 0) ∧
    (((0 ≤ rdS sq D (p1 + q1) ∧ 0 < q1) ∨ (rdS sq D (p1 + q1) ≤ 0 ∧ q1 < 0)) → ab q2 ≤ ab (rdS sq D (p2 + q2))) ∧ (((0 ≤ rdS sq D (p1 + q1) ∧ 0 < p1) ∨ (rdS sq D (p1 + q1) ≤ 0 ∧ p1 < 0)) → ab p2 ≤ ab (rdS sq D (p2 + q2))) := by
  have hm : NearP sq (rdS sq D (p1 + q1), rdS sq D (p2 + q2)) := near_rd (by omega) hD hD0
  obtain ⟨l1, h1⟩ := hp
  obtain ⟨l2, h2⟩ := hq
  obtain ⟨l3, h3⟩ := hm
  dsimp only at l1 h1 l2 h2 l3 h3
  have hs0 : 0 ≤ sq := by omega
  have r1 := rdS_spec (p1 + q1) (rd_spec (x := p1 + q1) hs0 hD0).1
  have r2 := rdS_spec (p2 + q2) (rd_spec (x := p2 + q2) hs0 hD0).1
  have s2 : ab (p2 + q2) = ab p2 + ab q2 := ab_add (by omega)
  have n1 := ab_pos p1; have n2 := ab_pos p2; have n3 := ab_pos q1; have n4 := ab_pos q2
  have n5 := ab_pos (rdS sq D (p1 + q1)); have n6 := ab_pos (rdS sq D (p2 + q2))
  have a1 := ab_spec p1; have b1 := ab_spec q1; have a2 := ab_spec p2; have b2 := ab_spec q2
  have ep : ab p1 * ab q1 = -(p1 * q1) := by
    rcases hx with ⟨g, g'⟩ | ⟨g, g'⟩
    · rw [show ab p1 = -p1 by omega, show ab q1 = q1 by omega]; grind
    · rw [show ab p1 = p1 by omega, show ab q1 = -q1 by omega]; grind
  have eq : ab p2 * ab q2 = p2 * q2 := by
    rcases hy with ⟨g, g'⟩ | ⟨g, g'⟩
    · rw [show ab p2 = p2 by omega, show ab q2 = q2 by omega]
    · rw [show ab p2 = -p2 by omega, show ab q2 = -q2 by omega]; grind
  have eqs : ab q1 * ab p1 ≤ ab q2 * ab p2 := by rw [Int.mul_comm, Int.mul_comm (ab q2)]; omega
  have eD : (p1 + q1) * (p1 + q1) = (ab p1 - ab q1) * (ab p1 - ab q1) := by
    rcases hx with ⟨g, g'⟩ | ⟨g, g'⟩
    · rw [show ab p1 = -p1 by omega, show ab q1 = q1 by omega]; grind
    · rw [show ab p1 = p1 by omega, show ab q1 = -q1 by omega]; grind
  have eD2 : (p2 + q2) * (p2 + q2) = (ab p2 + ab q2) * (ab p2 + ab q2) := by rw [← s2, ab_sq]
  have o1 := order_of (X1 := ab p1) (Y1 := ab p2) (X2 := ab (rdS sq D (p1 + q1))) (Y2 := ab (rdS sq D (p2 + q2))) (by omega) (by omega) h1 l3
  have o2 := order_of (X1 := ab q1) (Y1 := ab q2) (X2 := ab (rdS sq D (p1 + q1))) (Y2 := ab (rdS sq D (p2 + q2))) (by omega) (by omega) h2 l3
  have t1 := rd_ab sq D (p1 + q1)
  have o3 : ab q1 ≤ ab p1 → rd sq D (p1 + q1) < ab p1 := fun g => by
    have k := strad (D := D) (X := ab p1) (Y := ab q1) (by omega) g hs l1 l2 (by omega) (by rw [hD, eD, eD2]) hD0
    have e := rd_ab sq D (ab p1 - ab q1)
    rcases hx with ⟨f, f'⟩ | ⟨f, f'⟩
    · rw [show p1 + q1 = -(ab p1 - ab q1) by omega, ← rd_ab, show ab (-(ab p1 - ab q1)) = ab (ab p1 - ab q1) by have := ab_spec (-(ab p1 - ab q1)); have := ab_spec (ab p1 - ab q1); omega, rd_ab]; exact k
    · rw [show p1 + q1 = ab p1 - ab q1 by omega]; exact k
  have o4 : ab p1 ≤ ab q1 → rd sq D (p1 + q1) < ab q1 := fun g => by
    have k := strad (D := D) (X := ab q1) (Y := ab p1) (by omega) g hs l2 l1 eqs (by rw [hD, eD, eD2]; grind) hD0
    rcases hx with ⟨f, f'⟩ | ⟨f, f'⟩
    · rw [show p1 + q1 = ab q1 - ab p1 by omega]; exact k
    · rw [show p1 + q1 = -(ab q1 - ab p1) by omega, ← rd_ab, show ab (-(ab q1 - ab p1)) = ab (ab q1 - ab p1) by have := ab_spec (-(ab q1 - ab p1)); have := ab_spec (ab q1 - ab p1); omega, rd_ab]; exact k
  clear l1 h1 l2 h2 l3 h3 hD eD eD2 ep eq eqs hd t1
  have b : (p1 < rdS sq D (p1 + q1) ∧ rdS sq D (p1 + q1) < q1) ∨ (q1 < rdS sq D (p1 + q1) ∧ rdS sq D (p1 + q1) < p1) := by
    rcases Int.le_total (ab p1) (ab q1) with g | g
    · have := o4 g; clear o1 o2 o3 o4; omega
    · have := o3 g; clear o1 o2 o3 o4; omega
  have o1' : ((0 ≤ rdS sq D (p1 + q1) ∧ 0 < p1) ∨ (rdS sq D (p1 + q1) ≤ 0 ∧ p1 < 0)) → ab p2 ≤ ab (rdS sq D (p2 + q2)) := fun g => o1 (by clear o1 o2 o3 o4; omega)
  have o2' : ((0 ≤ rdS sq D (p1 + q1) ∧ 0 < q1) ∨ (rdS sq D (p1 + q1) ≤ 0 ∧ q1 < 0)) → ab q2 ≤ ab (rdS sq D (p2 + q2)) := fun g => o2 (by clear o1 o2 o3 o4 o1'; omega)
  clear o1 o2 o3 o4
  have e : ab p2 ≤ ab (rdS sq D (p2 + q2)) ∨ ab q2 ≤ ab (rdS sq D (p2 + q2)) := by
    rcases (show ((0 ≤ rdS sq D (p1 + q1) ∧ 0 < p1) ∨ (rdS sq D (p1 + q1) ≤ 0 ∧ p1 < 0)) ∨ ((0 ≤ rdS sq D (p1 + q1) ∧ 0 < q1) ∨ (rdS sq D (p1 + q1) ≤ 0 ∧ q1 < 0)) by omega) with g | g
    · exact .inl (o1' g)
    · exact .inr (o2' g)
  refine ⟨b, ?_, ?_, o2', o1'⟩
  · clear o1' o2'; omega
  · clear o1' o2'; omega
def oppP (x y : Int) : Prop := (x < 0 ∧ 0 < y) ∨ (0 < x ∧ y < 0)
instance (x y : Int) : Decidable (oppP x y) := inferInstanceAs (Decidable (_ ∨ _))
def strA (p1 p2 q1 q2 : Int) : Int := ab (p1 - q1) + (2000 - ab p2) + (2000 - ab q2)
def strL (p1 p2 q1 q2 : Int) : Int := ab (p1 - q1) + ab (p2 - q2)
def nuP (p q : V) : Int := if oppP p.1 q.1 then strA p.1 p.2 q.1 q.2 else if oppP p.2 q.2 then strA p.2 p.1 q.2 q.1 else strL p.1 p.2 q.1 q.2
structure ArcI (sq : Int) (p q : V) : Prop where
  np : NearP sq p
  nq : NearP sq q
  ne : p ≠ q
  hd : 0 ≤ dot p q
theorem ab_betw {p m q : Int} (h : (p ≤ m ∧ m ≤ q) ∨ (q ≤ m ∧ m ≤ p)) : ab (p - m) + ab (m - q) = ab (p - q) := by
  have a := ab_spec (p - m); have b := ab_spec (m - q); have c := ab_spec (p - q)
  omega
theorem mul_same {x y : Int} (h : (0 ≤ x ∧ 0 ≤ y) ∨ (x ≤ 0 ∧ y ≤ 0)) : 0 ≤ x * y := by
  rcases h with ⟨a, b⟩ | ⟨a, b⟩
  · exact Int.mul_nonneg a b
  · exact Int.mul_nonneg_of_nonpos_of_nonpos a b
theorem oppP_neg {x y : Int} (h : oppP x y) : x * y < 0 := by
  rcases h with ⟨a, b⟩ | ⟨a, b⟩
  · exact Int.mul_neg_of_neg_of_pos a b
  · exact Int.mul_neg_of_pos_of_neg a b
theorem pos_same {x y : Int} (h : 0 < x * y) : (0 < x ∧ 0 < y) ∨ (x < 0 ∧ y < 0) := by
  rcases Int.lt_trichotomy x 0 with a | a | a
  · rcases ltge y 0 with b | b
    · exact .inr ⟨a, b⟩
    · have := Int.mul_nonpos_of_nonpos_of_nonneg (Int.le_of_lt a) b; omega
  · subst a; omega
  · rcases ltge 0 y with b | b
    · exact .inl ⟨a, b⟩
    · have := Int.mul_nonpos_of_nonneg_of_nonpos (Int.le_of_lt a) b; omega
theorem subA {p1 p2 q1 q2 m1 m2 : Int} (hx : oppP p1 q1) (hy : (0 < p2 ∧ 0 < q2) ∨ (p2 < 0 ∧ q2 < 0)) (hd : 0 ≤ p1 * q1 + p2 * q2) (hb : (p1 < m1 ∧ m1 < q1) ∨ (q1 < m1 ∧ m1 < p1)) (h1 : 0 < p2 → 0 < m2) (h2 : p2 < 0 → m2 < 0)
    (hq : ((0 ≤ m1 ∧ 0 < q1) ∨ (m1 ≤ 0 ∧ q1 < 0)) → ab q2 ≤ ab m2) (hp : ((0 ≤ m1 ∧ 0 < p1) ∨ (m1 ≤ 0 ∧ p1 < 0)) → ab p2 ≤ ab m2) (hm : ab m2 ≤ 2000) :
    ¬ oppP p2 m2 ∧ ¬ oppP m2 q2 ∧ 0 ≤ p1 * m1 + p2 * m2 ∧ 0 ≤ m1 * q1 + m2 * q2 ∧ (if oppP p1 m1 then strA p1 p2 m1 m2 else strL p1 p2 m1 m2) + (if oppP m1 q1 then strA m1 m2 q1 q2 else strL m1 m2 q1 q2) ≤ strA p1 p2 q1 q2 := by
  have hab := ab_betw (p := p1) (m := m1) (q := q1) (by omega)
  have sm : (0 < p2 ∧ 0 < q2 ∧ 0 < m2) ∨ (p2 < 0 ∧ q2 < 0 ∧ m2 < 0) := by omega
  have n1 : ¬ oppP p2 m2 := by unfold oppP; omega
  have n2 : ¬ oppP m2 q2 := by unfold oppP; omega
  have e1 : ab p2 ≤ ab m2 → ab (p2 - m2) = ab m2 - ab p2 := fun h => by
    have := ab_spec p2; have := ab_spec m2; have := ab_spec (p2 - m2); omega
  have e2 : ab q2 ≤ ab m2 → ab (m2 - q2) = ab m2 - ab q2 := fun h => by
    have := ab_spec q2; have := ab_spec m2; have := ab_spec (m2 - q2); omega
  have d1 : ab q2 ≤ ab m2 → p2 * q2 ≤ p2 * m2 := fun h => by
    have a := ab_spec q2; have b := ab_spec m2
    have c : 0 ≤ p2 * (m2 - q2) := mul_same (by omega)
    rw [Int.mul_sub] at c; omega
  have d2 : ab p2 ≤ ab m2 → p2 * q2 ≤ m2 * q2 := fun h => by
    have a := ab_spec p2; have b := ab_spec m2
    have c : 0 ≤ (m2 - p2) * q2 := mul_same (by omega)
    rw [Int.sub_mul] at c; omega
  have p2m2 : 0 ≤ p2 * m2 := mul_same (by omega)
  have m2q2 : 0 ≤ m2 * q2 := mul_same (by omega)
  refine ⟨n1, n2, ?_⟩
  unfold strA strL
  unfold oppP at hx
  by_cases c : oppP p1 m1
  · have c' : ¬ oppP m1 q1 := by unfold oppP at c ⊢; omega
    have k : ab q2 ≤ ab m2 := hq (by unfold oppP at c; clear e1 e2 d1 d2 h1 h2 hq hp hy sm c' n1 n2; omega)
    have f1 := d1 k
    have f2 : 0 ≤ p1 * (m1 - q1) := mul_same (by unfold oppP at c; clear e1 e2 d1 d2 h1 h2 hq hp hy sm c' n1 n2 f1; omega)
    have f3 : 0 ≤ m1 * q1 := mul_same (by unfold oppP at c; clear e1 e2 d1 d2 h1 h2 hq hp hy sm c' n1 n2 f1; omega)
    have f4 := e2 k
    rw [Int.mul_sub] at f2
    rw [if_pos c, if_neg c']
    clear e1 e2 d1 d2 h1 h2 hq hp hx hy hb sm c c' n1 n2
    omega
  · by_cases c2 : oppP m1 q1
    · have k : ab p2 ≤ ab m2 := hp (by unfold oppP at c2; omega)
      have f1 := d2 k
      have f2 : 0 ≤ (m1 - p1) * q1 := mul_same (by unfold oppP at c2; clear e1 e2 d1 d2 h1 h2 hq hp hy sm n1 n2 f1 c; omega)
      have f3 : 0 ≤ p1 * m1 := mul_same (by unfold oppP at c2; clear e1 e2 d1 d2 h1 h2 hq hp hy sm n1 n2 f1 c; omega)
      have f4 := e1 k
      rw [Int.sub_mul] at f2
      rw [if_neg c, if_pos c2]
      clear e1 e2 d1 d2 h1 h2 hq hp hx hy hb sm c c2 n1 n2
      omega
    · have z : m1 = 0 := by unfold oppP at c c2; clear e1 e2 d1 d2 h1 h2 hq hp hy sm n1 n2; omega
      subst z
      have f4 := e1 (hp (by clear e1 e2 d1 d2 h1 h2 hq hp hy sm n1 n2 c c2; omega))
      have f5 := e2 (hq (by clear e1 e2 d1 d2 h1 h2 hq hp hy sm n1 n2 c c2; omega))
      rw [if_neg c, if_neg c2]
      clear e1 e2 d1 d2 h1 h2 hq hp hx hy hb sm c c2 n1 n2
      omega
theorem near_le {sq : Int} {p : V} (h : NearP sq p) (hs : sq ≤ 4000000) : ab p.1 ≤ 2000 ∧ ab p.2 ≤ 2000 := by
  have h := h.2
  unfold highP at h
  have a := sqn (cut1 (ab p.1)); have b := sqn (cut1 (ab p.2))
  have k : ∀ x : Int, cut1 x * cut1 x ≤ 16000000 → x ≤ 2000 := fun x hx => by
    rcases ltge 2000 x with g | g
    · have := sq_le (a := 4001) (b := cut1 x) (by omega) (by unfold cut1; rw [if_pos (by omega)]; omega); omega
    · exact g
  exact ⟨k _ (by omega), k _ (by omega)⟩
theorem near_pos {sq : Int} {p : V} (h : NearP sq p) (hs : 1 ≤ sq) : 0 < p.1 * p.1 + p.2 * p.2 := by
  have h := h.1
  unfold lowP at h
  have a := sqn p.1; have b := sqn p.2
  rcases ltge 0 (p.1 * p.1 + p.2 * p.2) with g | g
  · exact g
  · have k : ∀ x : Int, x * x = 0 → x = 0 := fun x hx => by rcases Int.mul_eq_zero.mp hx with e | e <;> exact e
    rw [k p.1 (by omega), k p.2 (by omega)] at h
    have e : ab 0 = 0 := rfl
    rw [e] at h
    omega
theorem dot_sum {sq : Int} {p q : V} (hs : 1 ≤ sq) (h : ArcI sq p q) : 0 < dot (p.1 + q.1, p.2 + q.2) (p.1 + q.1, p.2 + q.2) := by
  have a := near_pos h.np hs; have b := near_pos h.nq hs; have c := h.hd
  unfold dot at *
  have e : (p.1 + q.1) * (p.1 + q.1) + (p.2 + q.2) * (p.2 + q.2) = (p.1 * p.1 + p.2 * p.2) + (q.1 * q.1 + q.2 * q.2) + 2 * (p.1 * q.1 + p.2 * q.2) := by grind
  dsimp only
  omega
theorem strL_swap (a b c d : Int) : strL a b c d = strL b a d c := by unfold strL; omega
theorem arc_step {sq : Int} {p q : V} (hs : 1 ≤ sq) (hs2 : sq ≤ 4000000) (h : ArcI sq p q) : NearP sq (midP sq p q) ∧ (midP sq p q ≠ p → midP sq p q ≠ q → ArcI sq p (midP sq p q) ∧ ArcI sq (midP sq p q) q ∧ nuP p (midP sq p q) + nuP (midP sq p q) q ≤ nuP p q) := by
  have hD0 := dot_sum hs h
  have hm : NearP sq (midP sq p q) := near_rd (by omega) rfl hD0
  refine ⟨hm, fun n1 n2 => ?_⟩
  have hl := near_le hm hs2
  obtain ⟨hp, hq, hne, hd⟩ := h
  have hne' : p.1 ≠ q.1 ∨ p.2 ≠ q.2 := by
    rcases Decidable.em (p.1 = q.1) with e | e
    · exact .inr (fun e2 => hne (Prod.ext e e2))
    · exact .inl e
  by_cases c1 : oppP p.1 q.1
  · have hpos : 0 < p.2 * q.2 := by have := oppP_neg c1; unfold dot at hd; omega
    have hs2' := pos_same hpos
    obtain ⟨k1, k2, k3, k4, k5⟩ := stepB (D := dot (p.1 + q.1, p.2 + q.2) (p.1 + q.1, p.2 + q.2)) hs hp hq c1 (by omega) hd rfl hD0
    obtain ⟨g1, g2, g3, g4, g5⟩ := subA (m1 := (midP sq p q).1) (m2 := (midP sq p q).2) c1 hs2' hd k1 k2 k3 k4 k5 hl.2
    refine ⟨⟨hp, hm, n1.symm, g3⟩, ⟨hm, hq, n2, g4⟩, ?_⟩
    unfold nuP
    rw [if_pos c1, if_neg g1, if_neg g2]
    exact g5
  · by_cases c2 : oppP p.2 q.2
    · have hpos : 0 < p.1 * q.1 := by have := oppP_neg c2; unfold dot at hd; omega
      have hs1' := pos_same hpos
      obtain ⟨k1, k2, k3, k4, k5⟩ := stepB (sq := sq) (p1 := p.2) (p2 := p.1) (q1 := q.2) (q2 := q.1) (D := dot (p.1 + q.1, p.2 + q.2) (p.1 + q.1, p.2 + q.2)) hs ⟨hp.1.swap, hp.2.swap⟩ ⟨hq.1.swap, hq.2.swap⟩ c2 (by omega) (by unfold dot at hd; omega) (by unfold dot; dsimp only; omega) hD0
      obtain ⟨g1, g2, g3, g4, g5⟩ := subA (m1 := (midP sq p q).2) (m2 := (midP sq p q).1) c2 hs1' (by unfold dot at hd; omega) k1 k2 k3 k4 k5 hl.1
      refine ⟨⟨hp, hm, n1.symm, by unfold dot; omega⟩, ⟨hm, hq, n2, by unfold dot; omega⟩, ?_⟩
      unfold nuP
      rw [if_neg c1, if_pos c2, if_neg g1, if_neg g2, strL_swap p.1, strL_swap (midP sq p q).1]
      exact g5
    · have sx : (0 ≤ p.1 ∧ 0 ≤ q.1) ∨ (p.1 ≤ 0 ∧ q.1 ≤ 0) := by unfold oppP at c1; omega
      have sy : (0 ≤ p.2 ∧ 0 ≤ q.2) ∨ (p.2 ≤ 0 ∧ q.2 ≤ 0) := by unfold oppP at c2; omega
      obtain ⟨k1, k2⟩ := stepA (D := dot (p.1 + q.1, p.2 + q.2) (p.1 + q.1, p.2 + q.2)) hs hp hq sx sy hne' rfl hD0
      have b1 := ab_betw (m := (midP sq p q).1) k1
      have b2 := ab_betw (m := (midP sq p q).2) k2
      have k1' : (p.1 ≤ (midP sq p q).1 ∧ (midP sq p q).1 ≤ q.1) ∨ (q.1 ≤ (midP sq p q).1 ∧ (midP sq p q).1 ≤ p.1) := k1
      have k2' : (p.2 ≤ (midP sq p q).2 ∧ (midP sq p q).2 ≤ q.2) ∨ (q.2 ≤ (midP sq p q).2 ∧ (midP sq p q).2 ≤ p.2) := k2
      clear k1 k2
      generalize midP sq p q = m at *
      have u1 : ¬ oppP p.1 m.1 := by unfold oppP; omega
      have u2 : ¬ oppP p.2 m.2 := by unfold oppP; omega
      have u3 : ¬ oppP m.1 q.1 := by unfold oppP; omega
      have u4 : ¬ oppP m.2 q.2 := by unfold oppP; omega
      refine ⟨⟨hp, hm, n1.symm, Int.add_nonneg (mul_same (by omega)) (mul_same (by omega))⟩, ⟨hm, hq, n2, Int.add_nonneg (mul_same (by omega)) (mul_same (by omega))⟩, ?_⟩
      unfold nuP
      rw [if_neg c1, if_neg c2, if_neg u1, if_neg u2, if_neg u3, if_neg u4]
      unfold strL
      omega
theorem nu_pos {sq : Int} {p q : V} (hs2 : sq ≤ 4000000) (h : ArcI sq p q) : 1 ≤ nuP p q ∧ nuP p q ≤ 8000 := by
  have a := near_le h.np hs2
  have b := near_le h.nq hs2
  have hne := h.ne
  have hne' : p.1 ≠ q.1 ∨ p.2 ≠ q.2 := by
    rcases Decidable.em (p.1 = q.1) with e | e
    · exact .inr (fun e2 => hne (Prod.ext e e2))
    · exact .inl e
  have c := ab_spec (p.1 - q.1); have d := ab_spec (p.2 - q.2)
  have n1 := ab_spec p.1; have n2 := ab_spec p.2; have n3 := ab_spec q.1; have n4 := ab_spec q.2
  unfold nuP strA strL
  split
  · rename_i g; unfold oppP at g; clear hne' d; omega
  · split
    · rename_i g; unfold oppP at g; clear hne' c; omega
    · clear h hne; omega
end Go.Proofs.YtnmmhcchpcbeeaaGreat.Ge

namespace Go.Proofs.YtnmmhcchpcbeeaaGreat.Ge
open Go
/-- Whether a chord is close enough. -/
def flatP (radius : Int) (p q : V) : Bool := decide (radius ≤ root (65536 * cross p q * cross p q / dot (sub p q) (sub p q)))
def betwP (sq radius : Int) : Nat → V → V → List V
  | 0, _, _ => []
  | k + 1, p, q => if flatP radius p q = true then [] else if midP sq p q = p ∨ midP sq p q = q then [] else betwP sq radius k p (midP sq p q) ++ midP sq p q :: betwP sq radius k (midP sq p q) q
theorem betw_len {sq : Int} (hs : 1 ≤ sq) (hs2 : sq ≤ 4000000) (radius : Int) : ∀ (k : Nat) (p q : V), ArcI sq p q → ((betwP sq radius k p q).length : Int) + 1 ≤ nuP p q
  | 0, p, q, h => by have := nu_pos hs2 h; simp [betwP]; omega
  | k + 1, p, q, h => by
    have h0 := nu_pos hs2 h
    unfold betwP
    split
    · simp; omega
    · split
      · simp; omega
      · rename_i h2
        obtain ⟨i1, i2, i3⟩ := (arc_step hs hs2 h).2 (fun e => h2 (.inl e)) (fun e => h2 (.inr e))
        have a := betw_len hs hs2 radius k _ _ i1
        have b := betw_len hs hs2 radius k _ _ i2
        simp only [List.length_append, List.length_cons]
        omega
theorem betw_near {sq : Int} (hs : 1 ≤ sq) (hs2 : sq ≤ 4000000) (radius : Int) : ∀ (k : Nat) (p q : V), ArcI sq p q → ∀ m ∈ betwP sq radius k p q, NearP sq m
  | 0, p, q, h => by simp [betwP]
  | k + 1, p, q, h => by
    unfold betwP
    split
    · simp
    · split
      · simp
      · rename_i h2
        obtain ⟨i1, i2, i3⟩ := (arc_step hs hs2 h).2 (fun e => h2 (.inl e)) (fun e => h2 (.inr e))
        intro m hm
        rcases List.mem_append.mp hm with e | e
        · exact betw_near hs hs2 radius k _ _ i1 m e
        · rcases List.mem_cons.mp e with e | e
          · rw [e]; exact (arc_step hs hs2 h).1
          · exact betw_near hs hs2 radius k _ _ i2 m e
def rotP (p : V) : V := (-p.2, p.1)
def tailP (sq radius : Int) : Nat → V → V → List V
  | 0, _, _ => []
  | k + 1, p, q => if cross p q ≤ 0 ∨ dot p q < 0 then betwP sq radius 8001 p (rotP p) ++ rotP p :: tailP sq radius k (rotP p) q else betwP sq radius 8001 p q ++ [q]
/-- How many quarters are to be turned. -/
def leftP (c d : Int) : Nat := if 0 < c ∧ 0 ≤ d then 0 else if d < 0 ∧ 0 ≤ c then 1 else if c < 0 ∧ d ≤ 0 then 2 else 3
theorem near_on {sq : Int} {p : V} (h : dot p p = sq) : NearP sq p := by
  have a := ab_sq p.1; have b := ab_sq p.2; have c := ab_pos p.1; have d := ab_pos p.2
  have k : ∀ x : Int, 0 ≤ x → cut1 x * cut1 x ≤ 4 * (x * x) := fun x hx => by
    have := sq_le (a := cut1 x) (b := 2 * x) (by unfold cut1; split <;> omega) (by unfold cut1; split <;> omega)
    have e : 2 * x * (2 * x) = 4 * (x * x) := by grind
    omega
  have k1 := k _ c; have k2 := k _ d
  unfold dot at h
  constructor
  · unfold lowP
    have e1 : (2 * ab p.1 + 1) * (2 * ab p.1 + 1) = 4 * (ab p.1 * ab p.1) + 4 * ab p.1 + 1 := by grind
    have e2 : (2 * ab p.2 + 1) * (2 * ab p.2 + 1) = 4 * (ab p.2 * ab p.2) + 4 * ab p.2 + 1 := by grind
    omega
  · unfold highP; omega
theorem rot_cross (p q : V) : cross (rotP p) q = -dot p q := by unfold cross dot rotP; dsimp only; grind
theorem rot_dot (p q : V) : dot (rotP p) q = cross p q := by unfold cross dot rotP; dsimp only; grind
theorem rot_sq (p : V) : dot (rotP p) (rotP p) = dot p p := by unfold dot rotP; dsimp only; grind
theorem arc_rot {sq : Int} {p : V} (hs : 1 ≤ sq) (h : dot p p = sq) : ArcI sq p (rotP p) := by
  refine ⟨near_on h, near_on ((rot_sq p).trans h), fun e => ?_, ?_⟩
  · have := rot_cross p p; rw [← e] at this; unfold cross at this; rw [h, Int.mul_comm p.2] at this; omega
  · have e : dot p (rotP p) = 0 := by unfold dot rotP; dsimp only; grind
    omega
theorem arc_end {sq : Int} {p q : V} (hp : dot p p = sq) (hq : dot q q = sq) (h : ¬ (cross p q ≤ 0 ∨ dot p q < 0)) : ArcI sq p q := by
  refine ⟨near_on hp, near_on hq, fun e => ?_, by omega⟩
  subst e
  unfold cross at h; rw [Int.mul_comm p.2] at h; omega
theorem left_step {sq : Int} {p q : V} (hs : 1 ≤ sq) (hp : dot p p = sq) (hq : dot q q = sq) (h : cross p q ≤ 0 ∨ dot p q < 0) : leftP (cross (rotP p) q) (dot (rotP p) q) < leftP (cross p q) (dot p q) := by
  rw [rot_cross, rot_dot]
  have hne : cross p q ≠ 0 ∨ dot p q ≠ 0 := by
    rcases Decidable.em (cross p q = 0) with e | e
    · right
      intro e2
      have : cross p q * cross p q + dot p q * dot p q = sq * sq := by rw [← hp]; conv => rhs; rhs; rw [hp, ← hq]
                                                                       unfold cross dot; grind
      rw [e, e2] at this
      have := Int.mul_pos (show 0 < sq by omega) (show 0 < sq by omega)
      omega
    · exact .inl e
  unfold leftP
  repeat' split
  all_goals omega
theorem tail_len {sq : Int} (hs : 1 ≤ sq) (hs2 : sq ≤ 4000000) (radius : Int) : ∀ (k : Nat) (p q : V), dot p p = sq → dot q q = sq → ((tailP sq radius k p q).length : Int) ≤ 8000 * k
  | 0, p, q, hp, hq => by simp [tailP]
  | k + 1, p, q, hp, hq => by
    unfold tailP
    split
    · have a := betw_len hs hs2 radius 8001 _ _ (arc_rot hs hp)
      have b := tail_len hs hs2 radius k _ q ((rot_sq p).trans hp) hq
      have c := nu_pos hs2 (arc_rot hs hp)
      simp only [List.length_append, List.length_cons]
      omega
    · rename_i h
      have a := betw_len hs hs2 radius 8001 _ _ (arc_end hp hq h)
      have c := nu_pos hs2 (arc_end hp hq h)
      simp only [List.length_append, List.length_cons, List.length_nil]
      omega
theorem tail_near {sq : Int} (hs : 1 ≤ sq) (hs2 : sq ≤ 4000000) (radius : Int) : ∀ (k : Nat) (p q : V), dot p p = sq → dot q q = sq → ∀ m ∈ tailP sq radius k p q, NearP sq m
  | 0, p, q, hp, hq => by simp [tailP]
  | k + 1, p, q, hp, hq => by
    unfold tailP
    split
    · intro m hm
      rcases List.mem_append.mp hm with e | e
      · exact betw_near hs hs2 radius 8001 _ _ (arc_rot hs hp) m e
      · rcases List.mem_cons.mp e with e | e
        · rw [e]; exact near_on ((rot_sq p).trans hp)
        · exact tail_near hs hs2 radius k _ q ((rot_sq p).trans hp) hq m e
    · rename_i h
      intro m hm
      rcases List.mem_append.mp hm with e | e
      · exact betw_near hs hs2 radius 8001 _ _ (arc_end hp hq h) m e
      · rw [List.mem_singleton.mp e]; exact near_on hq
theorem tail_ne {sq radius : Int} : ∀ (k : Nat) (p q : V), 0 < k → 1 ≤ (tailP sq radius k p q).length
  | 0, p, q, h => by omega
  | k + 1, p, q, h => by
    unfold tailP
    split <;> simp only [List.length_append, List.length_cons] <;> omega
/-- The chain of an arc from p to q, counterclockwise around the origin. -/
def chainA (p q : V) (tol : Int) : List V := p :: tailP (dot p p) (root (65536 * dot p p) + 1 - 256 * tol) 4 p q
def addV (c p : V) : V := (p.1 + c.1, p.2 + c.2)
def flatL (f t c : V) (cw : Bool) (tol : Int) : List V := if cw = true then ((chainA (sub t c) (sub f c) tol).map (addV c)).reverse else (chainA (sub f c) (sub t c) tol).map (addV c)
theorem chain_bounds {p q : V} {tol : Int} (h1 : 1 ≤ dot p p) (h2 : dot p p ≤ 4000000) (hq : dot q q = dot p p) : 2 ≤ (chainA p q tol).length ∧ (chainA p q tol).length ≤ 32001 ∧ ∀ m ∈ chainA p q tol, (-2000 ≤ m.1 ∧ m.1 ≤ 2000) ∧ -2000 ≤ m.2 ∧ m.2 ≤ 2000 := by
  have a := tail_len h1 h2 (root (65536 * dot p p) + 1 - 256 * tol) 4 p q rfl hq
  have b := tail_ne (sq := dot p p) (radius := root (65536 * dot p p) + 1 - 256 * tol) 4 p q (by omega)
  unfold chainA
  refine ⟨by simp only [List.length_cons]; omega, by simp only [List.length_cons]; omega, fun m hm => ?_⟩
  have hn : NearP (dot p p) m := by
    rcases List.mem_cons.mp hm with e | e
    · rw [e]; exact near_on rfl
    · exact tail_near h1 h2 _ 4 p q rfl hq m e
  have k := near_le hn h2
  have c := ab_spec m.1; have d := ab_spec m.2
  omega
theorem arc_parts {f t c : V} (h : arcOk f t c = true) : ((1 ≤ dot (sub f c) (sub f c) ∧ dot (sub f c) (sub f c) ≤ 4000000) ∧ dot (sub t c) (sub t c) = dot (sub f c) (sub f c)) ∧ (-2000 ≤ c.1 ∧ c.1 ≤ 2000) ∧ -2000 ≤ c.2 ∧ c.2 ≤ 2000 := by
  unfold arcOk within at h
  simp only [Bool.and_eq_true, decide_eq_true_eq] at h
  obtain ⟨h1, h2, h3, h4, h5, h6⟩ := h
  refine ⟨⟨by omega, h5.symm⟩, by omega⟩
theorem flat_bounds {f t c : V} {cw : Bool} {tol : Int} (h : arcOk f t c = true) : (2 ≤ (flatL f t c cw tol).length ∧ (flatL f t c cw tol).length ≤ 32001) ∧ ∀ m ∈ flatL f t c cw tol, (-4000 ≤ m.1 ∧ m.1 ≤ 4000) ∧ -4000 ≤ m.2 ∧ m.2 ≤ 4000 := by
  obtain ⟨⟨⟨h1, h2⟩, h3⟩, hc⟩ := arc_parts h
  unfold flatL
  split
  · obtain ⟨a, b, d⟩ := chain_bounds (tol := tol) (p := sub t c) (q := sub f c) (by omega) (by omega) (by omega)
    refine ⟨by simp only [List.length_reverse, List.length_map]; exact ⟨a, b⟩, fun m hm => ?_⟩
    obtain ⟨x, hx, rfl⟩ := List.mem_map.mp (List.mem_reverse.mp hm)
    have := d x hx
    unfold addV; dsimp only; omega
  · obtain ⟨a, b, d⟩ := chain_bounds (tol := tol) (p := sub f c) (q := sub t c) (by omega) (by omega) (by omega)
    refine ⟨by simp only [List.length_map]; exact ⟨a, b⟩, fun m hm => ?_⟩
    obtain ⟨x, hx, rfl⟩ := List.mem_map.mp hm
    have := d x hx
    unfold addV; dsimp only; omega
end Go.Proofs.YtnmmhcchpcbeeaaGreat.Ge

namespace Go.Proofs.YtnmmhcchpcbeeaaGreat.Ge
open Go Ieee
theorem cut_even_le (n drop : Nat) : Toward.even.cut false n drop ≤ n / 2 ^ min drop (n.log2 + 2) + 1 := by
  unfold Toward.cut
  dsimp only
  rw [Nat.one_shiftLeft]
  exact Nat.add_le_add_left (Bool.toNat_le _) _
theorem kept_le {mag : Nat} {place last : Int} (hl : place + mag.log2 - 52 ≤ last) : Toward.even.cut false (mag <<< (place - last).toNat) (last - place).toNat ≤ 2 ^ 53 := by
  have hlt : mag < 2 ^ (mag.log2 + 1) := Nat.lt_log2_self
  rcases Int.lt_or_le place last with h | h
  · rw [show (place - last).toNat = 0 by omega, Nat.shiftLeft_zero]
    refine Nat.le_trans (cut_even_le _ _) ?_
    have : mag / 2 ^ min (last - place).toNat (mag.log2 + 2) < 2 ^ 53 := by
      rw [Nat.div_lt_iff_lt_mul (Nat.two_pow_pos _), ← Nat.pow_add]
      exact Nat.lt_of_lt_of_le hlt (Nat.pow_le_pow_right (by decide) (by omega))
    omega
  · rw [show (last - place).toNat = 0 by omega]
    unfold Toward.cut
    dsimp only
    simp only [Nat.zero_min, Nat.shiftLeft_zero, Nat.div_one, Nat.mod_one]
    rw [Nat.shiftLeft_eq]
    have h2 : mag * 2 ^ (place - last).toNat < 2 ^ 53 := by
      refine Nat.lt_of_lt_of_le (Nat.mul_lt_mul_of_pos_right hlt (Nat.two_pow_pos _)) ?_
      rw [← Nat.pow_add]
      exact Nat.pow_le_pow_right (by decide) (by omega)
    simp
    omega
theorem read_rung (R : Nat) (h : R < 9218868437227405312) : ∃ m p, double.read R = .number false m p ∧ m < 2 ^ 53 ∧ p ≤ -1074 + (R / 4503599627370496 : Nat) := by
  have s : double.signWeight = 9223372036854775808 := by decide
  have b : double.binade = 4503599627370496 := by decide
  have i : double.infRung = 9218868437227405312 := by decide
  have l : double.leastPlace = -1074 := by decide
  have h1 : R / 9223372036854775808 % 2 = 0 := by omega
  have h2 : R % 9223372036854775808 = R := Nat.mod_eq_of_lt (by omega)
  simp only [Format.read, s, b, i, l, h1, h2]
  by_cases c : R < 4503599627370496
  · rw [if_pos c]
    exact ⟨_, _, rfl, by omega, by omega⟩
  · rw [if_neg c, if_pos h]
    exact ⟨_, _, rfl, by omega, by omega⟩
theorem near_read (mag : Nat) (place : Int) (hb : place + mag.log2 ≤ 1000) : ∃ m p, double.read (double.nearest false mag place) = .number false m p ∧ m < 2 ^ 53 ∧ p ≤ max (place + mag.log2 - 52) (-1074) + 2 := by
  have hw : ∀ R, double.word false R = R := fun R => by unfold Format.word; exact if_neg Bool.false_ne_true
  unfold Format.nearest
  by_cases hm : mag = 0
  · rw [if_pos hm, hw]
    obtain ⟨m, p, h1, h2, h3⟩ := read_rung 0 (by decide)
    exact ⟨m, p, h1, h2, by omega⟩
  · rw [if_neg hm]
    have l : double.leastPlace = -1074 := by decide
    have i : double.infRung = 9218868437227405312 := by decide
    have b : double.binade = 4503599627370496 := by decide
    have f : (double.fractionBits : Int) = 52 := by decide
    dsimp only
    rw [hw, l, i, b, f]
    generalize hl : max (place + (mag.log2 : Int) - 52) (-1074) = last
    have hk := kept_le (mag := mag) (place := place) (last := last) (by omega)
    generalize Toward.even.cut false (mag <<< (place - last).toNat) (last - place).toNat = kept at hk ⊢
    have hlb : last ≤ 948 := by omega
    have hll : -1074 ≤ last := by omega
    obtain ⟨t, ht⟩ : ∃ t, (last - -1074).toNat = t := ⟨_, rfl⟩
    have ht1 : (t : Int) = last + 1074 := by omega
    have ht2 : t ≤ 2022 := by omega
    rw [ht, Nat.min_eq_left (by omega)]
    have hq : (t * 4503599627370496 + kept) / 4503599627370496 ≤ t + 2 := by omega
    obtain ⟨m, p, h1, h2, h3⟩ := read_rung (t * 4503599627370496 + kept) (by omega)
    exact ⟨m, p, h1, h2, by omega⟩
theorem toInt_small {m : Nat} {p : Int} (hm : m < 2 ^ 53) (hp : p ≤ 0) : ∃ k : Int, (Datum.number false m p).toInt .zero = some k ∧ 0 ≤ k ∧ k < 9007199254740992 := by
  unfold Datum.toInt Datum.integral signed Toward.cut
  dsimp only
  rw [show p.toNat = 0 by omega]
  simp only [Nat.shiftLeft_zero, Bool.toNat_false, Nat.add_zero, Bool.false_eq_true, if_false]
  have := Nat.div_le_self m (1 <<< min (-p).toNat (m.log2 + 2))
  refine ⟨_, rfl, Int.natCast_nonneg _, ?_⟩
  generalize m / 1 <<< min (-p).toNat (m.log2 + 2) = d at *
  omega
theorem rootFrom_lt (n : Nat) : ∀ todo root : Nat, Datum.rootFrom n todo root < root + 2 ^ todo
  | 0, root => by simp [Datum.rootFrom]
  | todo + 1, root => by
    unfold Datum.rootFrom
    dsimp only
    have hp := Nat.two_pow_pos todo
    have e : 2 ^ (todo + 1) = 2 ^ todo + 2 ^ todo := by rw [Nat.pow_succ]; omega
    split
    · have := rootFrom_lt n todo (root + 1 <<< todo)
      rw [Nat.one_shiftLeft] at this ⊢
      omega
    · have := rootFrom_lt n todo root
      omega
theorem root_read {m : Nat} {p : Int} (hm : m < 2 ^ 53) (hp : p ≤ 12) : ∃ m2 p2, (Datum.number false m p).root 54 = some (.number false m2 p2) ∧ p2 + (m2.log2 : Int) ≤ 40 := by
  unfold Datum.root
  by_cases h0 : m = 0
  · subst h0
    exact ⟨0, p, rfl, by simp; omega⟩
  · dsimp only
    rw [if_neg h0]
    simp only [Bool.false_eq_true, if_false]
    have hl : m.log2 < 53 := (Nat.log2_lt h0).2 hm
    generalize hmore : 2 * 54 - m.log2 + ((p - ((2 * 54 - m.log2 : Nat) : Int)) % 2).toNat = more
    have hmb : 56 ≤ more ∧ m.log2 + more ≤ 109 := by omega
    generalize hw : Datum.rootFrom (m <<< more) ((m <<< more).log2 / 2 + 1) 0 = whole
    have h1 := rootFrom_lt (m <<< more) ((m <<< more).log2 / 2 + 1) 0
    rw [hw] at h1
    have hne : m <<< more ≠ 0 := by
      rw [Nat.shiftLeft_eq]
      exact Nat.ne_of_gt (Nat.mul_pos (by omega) (Nat.two_pow_pos _))
    have hlog : (m <<< more).log2 < 110 := by
      rw [Nat.log2_lt hne, Nat.shiftLeft_eq]
      refine Nat.lt_of_lt_of_le (Nat.mul_lt_mul_of_pos_right (Nat.lt_log2_self (n := m)) (Nat.two_pow_pos _)) ?_
      rw [← Nat.pow_add]
      exact Nat.pow_le_pow_right (by decide) (by omega)
    have hw2 : whole < 2 ^ 55 := Nat.lt_of_lt_of_le (by simpa using h1) (Nat.pow_le_pow_right (by decide) (by omega))
    refine ⟨_, _, rfl, ?_⟩
    have hb := Bool.toNat_le (whole * whole != m <<< more)
    generalize (whole * whole != m <<< more).toNat = bb at *
    have : (2 * whole + bb).log2 ≤ 55 := by
      by_cases hz : 2 * whole + bb = 0
      · rw [hz]; decide
      · have := (Nat.log2_lt (k := 56) hz).2 (by omega)
        omega
    omega
/-- The root of a whole number by floats, made whole: whatever it is, it is none below 0, and not large. -/
theorem sqrt_int (n : Int) (h0 : 0 < n) (h1 : n ≤ 9223372036854775807) : ∃ r k, FloatKind.f64.format.sqrt (floatOfInt .f64 n) = some r ∧ floatToIntVal .f64 r .i64 = some k ∧ 0 ≤ k ∧ k < 9007199254740992 := by
  have hn : floatOfInt .f64 n = double.nearest false n.natAbs 0 := by
    unfold floatOfInt FloatKind.nearest FloatKind.encode FloatKind.format Format.write
    dsimp only
    rw [decide_eq_false (by omega)]
  have hlog : n.natAbs.log2 < 63 := (Nat.log2_lt (by omega)).2 (by omega)
  obtain ⟨m, p, hr, hm, hp⟩ := near_read n.natAbs 0 (by omega)
  obtain ⟨m2, p2, hq, hb⟩ := root_read hm (p := p) (by omega)
  obtain ⟨m3, p3, hr3, hm3, hp3⟩ := near_read m2 p2 (by omega)
  obtain ⟨k, hk, hk0, hk1⟩ := toInt_small hm3 (p := p3) (by omega)
  refine ⟨double.nearest false m2 p2, k, ?_, ?_, hk0, hk1⟩
  · show ((double.read _).root 54).map double.write = _
    rw [hn, hr, hq]
    rfl
  · unfold floatToIntVal
    show (match (double.read (double.nearest false m2 p2)).toInt .zero with
      | some n => if IntKind.i64.min ≤ n ∧ n ≤ IntKind.i64.max then some n else none
      | none => none) = _
    rw [hr3, hk]
    have a : IntKind.i64.min = -9223372036854775808 := by decide
    have b : IntKind.i64.max = 9223372036854775807 := by decide
    dsimp only
    rw [if_pos (by omega)]
end Go.Proofs.YtnmmhcchpcbeeaaGreat.Ge

namespace Go.Proofs.YtnmmhcchpcbeeaaGreat.GeW
open Go Go.RowKit Go.Proofs.YtnmmhcchpcbeeaaGreat.Mem Go.Proofs.YtnmmhcchpcbeeaaGreat.Ge
/-- What a call that gathers points behind a box leaves of the world before it: all but the box and the row's own block. -/
structure Gr (ob : Nat) (v : Value) (w : World) (v' : Value) (w' : World) : Prop where
  os : w'.os = w.os
  tape : w'.tape = w.tape
  output : w'.output = w.output
  size : w.heap.size ≤ w'.heap.size
  block : ∀ b, b < w.heap.size → b ≠ ob → v.ownBlock ≠ some b → w'.heap[b]? = w.heap[b]?
  own : ∀ b, v'.ownBlock = some b → v.ownBlock = some b ∨ w.heap.size ≤ b
theorem Gr.trans {ob : Nat} {v v1 v2 : Value} {w w1 w2 : World} (h1 : Gr ob v w v1 w1) (h2 : Gr ob v1 w1 v2 w2) : Gr ob v w v2 w2 := by
  have hz := h1.size
  refine ⟨h2.os.trans h1.os, h2.tape.trans h1.tape, h2.output.trans h1.output, Nat.le_trans hz h2.size, fun b hb hne hv => ?_, fun b e => ?_⟩
  · refine (h2.block b (by omega) hne (fun e => ?_)).trans (h1.block b hb hne hv)
    rcases h1.own b e with h | h
    · exact hv h
    · omega
  · rcases h2.own b e with h | h
    · exact h1.own b h
    · right; omega
theorem Gr.of_below {ob : Nat} {v : Value} {w w' : World} (h : Below w.heap.size w w') : Gr ob v w v w' := ⟨h.os, h.tape, h.output, h.size, fun b hb _ _ => h.block b hb, fun _ e => .inl e⟩
theorem Gr.to_below {ob base : Nat} {v v' : Value} {w w' : World} (h : Gr ob v w v' w') (hob : base ≤ ob) (hv : ∀ b, v.ownBlock = some b → base ≤ b) (hb : base ≤ w.heap.size) : Below base w w' :=
  ⟨h.os, h.tape, h.output, h.size, fun b hb => h.block b (by omega) (by omega) (fun e => by have := hv b e; omega)⟩
/-- An append onto the row, then the box. -/
theorem Gr.push {ob : Nat} {v v' : Value} {w w' : World} (hg : w.grownBy w' v.ownBlock) (ho : ∀ b, v'.ownBlock = some b → v.ownBlock = some b ∨ w.heap.size ≤ b) (x : Value) : Gr ob v w v' (w'.setCell ⟨ob, 0, none⟩ x) := by
  refine ⟨hg.os, hg.tape, hg.output, ?_, fun b hb hne hv => ?_, ho⟩
  · have := hg.size; simpa [World.setCell] using this
  · rw [Below.heap_setCell _ _ _ _ hne]; exact hg.block b hb (fun e => hv e.symm)
def flatF (rb : Nat) : Value := .func (.func 148) #[] #[.pointer (some ⟨rb, 0, none⟩)]
def midF (sb : Nat) : Value := .func (.func 150) #[] #[.pointer (some ⟨sb, 0, none⟩)]
def betF (fb mb bb ob : Nat) : Value := .func (.func 153) #[] #[.pointer (some ⟨fb, 0, none⟩), .pointer (some ⟨mb, 0, none⟩), .pointer (some ⟨bb, 0, none⟩), .pointer (some ⟨ob, 0, none⟩)]
/-- The boxes of the closures, and the row of points behind its box. -/
structure Bx (base sb rb ob fb mb bb : Nat) (sq rad : Int) (l : List V) (v : Value) (w : World) : Prop where
  hsq : w.heap[sb]? = some (.cells #[.int .i64 sq] 3 (0, 0))
  hrad : w.heap[rb]? = some (.cells #[.int .i64 rad] 3 (0, 0))
  hfl : w.heap[fb]? = some (.cells #[flatF rb] 64 (0, 0))
  hmd : w.heap[mb]? = some (.cells #[midF sb] 75 (0, 0))
  hbt : w.heap[bb]? = some (.cells #[betF fb mb bb ob] 158 (0, 0))
  hout : w.heap[ob]? = some (.cells #[v] 25 (0, 0))
  own : w.ownsRow base 53 2 v l.length (l.flatMap ptCells)
  hob : base ≤ ob
theorem tagNe {w : World} {a b : Nat} {x y : Array Value} {s t : TypeId} (ha : w.heap[a]? = some (.cells x s (0, 0))) (hb : w.heap[b]? = some (.cells y t (0, 0))) (h : s ≠ t) : a ≠ b := by
  rintro rfl
  rw [ha] at hb
  injection hb with hb
  injection hb with h1 h2
  exact h h2
theorem ownTagNe {w : World} {base n size b : Nat} {v : Value} {e s : TypeId} {xs : List Value} {x : Array Value} (h : w.ownsRow base e size v n xs) (hb : w.heap[b]? = some (.cells x s (0, 0))) (hne : s ≠ e) : v.ownBlock ≠ some b := by
  intro hv
  rcases h.2 with ⟨h1, _⟩ | ⟨g, cap, cur, h1, _, hh, _⟩
  · rw [h1] at hv; cases hv
  · rw [h1] at hv
    injection hv with hv
    subst hv
    exact tagNe hb hh hne rfl
theorem Bx.keep {base sb rb ob fb mb bb : Nat} {sq rad : Int} {l : List V} {v : Value} {w w' : World} (h : Bx base sb rb ob fb mb bb sq rad l v w) (hb : Below w.heap.size w w') : Bx base sb rb ob fb mb bb sq rad l v w' :=
  ⟨older h.hsq hb, older h.hrad hb, older h.hfl hb, older h.hmd hb, older h.hbt hb, older h.hout hb, own_below h.own hb, h.hob⟩
theorem Bx.grown {base sb rb ob fb mb bb : Nat} {sq rad : Int} {l l' : List V} {v v' : Value} {w w' : World} (h : Bx base sb rb ob fb mb bb sq rad l v w) (g : Gr ob v w v' w') (ho : w'.heap[ob]? = some (.cells #[v'] 25 (0, 0)))
    (hr : w'.ownsRow base 53 2 v' l'.length (l'.flatMap ptCells)) : Bx base sb rb ob fb mb bb sq rad l' v' w' := by
  have k : ∀ {b : Nat} {x : Array Value} {s : TypeId}, w.heap[b]? = some (.cells x s (0, 0)) → s ≠ 25 → s ≠ 53 → w'.heap[b]? = some (.cells x s (0, 0)) := fun hx h1 h2 =>
    (g.block _ (lt_of_block hx) (tagNe hx h.hout h1) (ownTagNe h.own hx h2)).trans hx
  exact ⟨k h.hsq (by decide) (by decide), k h.hrad (by decide) (by decide), k h.hfl (by decide) (by decide), k h.hmd (by decide) (by decide), k h.hbt (by decide) (by decide), ho, hr, h.hob⟩
/-- A point put behind the row. -/
theorem Bx.push {base sb rb ob fb mb bb : Nat} {sq rad : Int} {l : List V} {v v' : Value} {w w' : World} {m : V} (h : Bx base sb rb ob fb mb bb sq rad l v w) (hg : w.grownBy w' v.ownBlock)
    (hr : w'.ownsRow base 53 2 v' (l.length + 1) (l.flatMap ptCells ++ ptCells m)) (ho : ∀ b, v'.ownBlock = some b → v.ownBlock = some b ∨ w.heap.size ≤ b) :
    Bx base sb rb ob fb mb bb sq rad (l ++ [m]) v' (w'.setCell ⟨ob, 0, none⟩ v') ∧ Gr ob v w v' (w'.setCell ⟨ob, 0, none⟩ v') := by
  have hG := Gr.push (ob := ob) hg ho v'
  have hne := ownTagNe h.own h.hout (by decide)
  have h1 : w'.heap[ob]? = some (.cells #[v] 25 (0, 0)) := (hg.block ob (lt_of_block h.hout) (fun e => hne e.symm)).trans h.hout
  refine ⟨h.grown hG ?_ ?_, hG⟩
  · have := setCell_block h1 0 v'
    simpa using this
  · have hne' : v'.ownBlock ≠ some ob := ownTagNe hr h1 (by decide)
    have e1 : (l ++ [m]).length = l.length + 1 := by simp
    have e2 : (l ++ [m]).flatMap ptCells = l.flatMap ptCells ++ ptCells m := by simp [List.flatMap_append]
    rw [e1, e2]
    exact hr.kept (row := some ob) ⟨rfl, rfl, rfl, by simp [World.setCell], fun k _ hk => Below.heap_setCell _ _ _ _ (fun e => hk (by simp [e]))⟩ (Or.inr hne')
end Go.Proofs.YtnmmhcchpcbeeaaGreat.GeW
