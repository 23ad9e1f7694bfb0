/- Plain: the loops of Shapes, step by step. No function is in sight. Conditions: the rings are valid. -/
import Derived.Test.YtnmmhcchpcbeeaaGreatGeCl
import Derived.Test.YtnmmhcchpcbeeaaGreatPlC
import Derived.Test.YtnmmhcchpcbeeaaGreatRgK

namespace Go.Proofs.YtnmmhcchpcbeeaaGreat.Ge
open Go
/-- A list turned. -/
def Rot (l m : List V) : Prop := ∃ x y, l = x ++ y ∧ m = y ++ x
theorem Rot.refl (l : List V) : Rot l l := ⟨[], l, rfl, by simp⟩
theorem Rot.symm {l m : List V} (h : Rot l m) : Rot m l := by
 obtain ⟨x, y, rfl, rfl⟩ := h
 exact ⟨y, x, rfl, rfl⟩
theorem Rot.trans {l m k : List V} (h1 : Rot l m) (h2 : Rot m k) : Rot l k := by
 obtain ⟨x, y, rfl, rfl⟩ := h1
 obtain ⟨u, v, e, rfl⟩ := h2
 rcases List.append_eq_append_iff.1 e with ⟨z, rfl, rfl⟩ | ⟨z, rfl, rfl⟩
 ·exact ⟨z, v ++ y, by simp, by simp⟩
 ·exact ⟨x ++ u, z, by simp, by simp⟩
theorem Rot.len {l m : List V} (h : Rot l m) : l.length = m.length := by
 obtain ⟨x, y, rfl, rfl⟩ := h
 simp [Nat.add_comm]
theorem Rot.perm {l m : List V} (h : Rot l m) : l.Perm m := by
 obtain ⟨x, y, rfl, rfl⟩ := h
 exact List.perm_append_comm
/-- The point a, ahead of t in a cycle, is needless. -/
def coll (a : V) (t : List V) : Prop := turn (t.getLastD a) a (t.headD a) = 0
/-- One needless point taken away, up to turning. -/
def Step (l s : List V) : Prop := ∃ a t, Rot l (a :: t) ∧ coll a t ∧ Rot t s
theorem Step.len {l s : List V} (h : Step l s) : l.length = s.length + 1 := by
 obtain ⟨a, t, h1, _, h2⟩ := h
 rw [h1.len, ← h2.len]
 rfl
theorem Step.left {l l' s : List V} (h : Step l s) (hr : Rot l l') : Step l' s := by
 obtain ⟨a, t, h1, h2, h3⟩ := h
 exact ⟨a, t, hr.symm.trans h1, h2, h3⟩
theorem Step.right {l s s' : List V} (h : Step l s) (hr : Rot s s') : Step l s' := by
 obtain ⟨a, t, h1, h2, h3⟩ := h
 exact ⟨a, t, h1, h2, h3.trans hr⟩
theorem last_mid (y : List V) (b : V) : ∀ (x : List V) (a : V), (x ++ b :: y).getLastD a = y.getLastD b
 | [], a => List.getLastD_cons ..
 | x0 :: x, a => by
  rw [List.cons_append, List.getLastD_cons]
  exact last_mid y b x x0
theorem head_mid (x y : List V) (a b : V) : (x ++ b :: y).headD a = x.headD b := by cases x <;> rfl
/-- What is left in the end. -/
inductive NF : List V → List V → Prop
 | done {l N : List V} (h : ∀ s, ¬ Step l s) (r : Rot l N) : NF l N
 | step {l s N : List V} (h : Step l s) (r : NF s N) : NF l N
theorem NF.left {l l' N : List V} (h : NF l N) (hr : Rot l l') : NF l' N := by
 cases h with
 | done h r => exact .done (fun s hs => h s (hs.left hr.symm)) (hr.symm.trans r)
 | step h r => exact .step (h.left hr) r
theorem NF.some : ∀ (n : Nat) (l : List V), l.length ≤ n → ∃ N, NF l N
 | 0, l, h => ⟨l, .done (fun s hs => by have := hs.len; omega) (Rot.refl l)⟩
 | n + 1, l, h => by
  by_cases hs : ∃ s, Step l s
  ·obtain ⟨s, hs⟩ := hs
   obtain ⟨N, hN⟩ := NF.some n s (by have := hs.len; omega)
   exact ⟨N, .step hs hN⟩
  ·exact ⟨l, .done (fun s h => hs ⟨s, h⟩) (Rot.refl l)⟩
/-! ### What Clean does -/
end Go.Proofs.YtnmmhcchpcbeeaaGreat.Ge

namespace Go.Proofs.YtnmmhcchpcbeeaaGreat.Ge
open Go
/-! ### The indices of a turned list -/
/-- Where number i of the turned list stands. -/
def sig (n c i : Nat) : Nat := if i + c < n then i + c else i + c - n
theorem rot_get (x y : List V) {i : Nat} (h : i < (x ++ y).length) : (y ++ x).getD i (0, 0) = (x ++ y).getD (sig (x ++ y).length x.length i) (0, 0) := by
 rw [List.getD_eq_getElem?_getD, List.getD_eq_getElem?_getD]
 congr 1
 unfold sig
 rw [List.length_append] at *
 split
 ·rw [List.getElem?_append_left (by omega), List.getElem?_append_right (by omega)]
  congr 1
  omega
 ·rw [List.getElem?_append_right (by omega), List.getElem?_append_left (by omega)]
  congr 1
  omega
theorem mod_up {a n : Nat} (h : a < n) : (a + 1) % n = if a + 1 < n then a + 1 else 0 := by
 split
 ·exact Nat.mod_eq_of_lt (by assumption)
 ·rw [show a + 1 = n by omega, Nat.mod_self]
theorem mod_down {a n : Nat} (h : a < n) : (a + n - 1) % n = if a = 0 then n - 1 else a - 1 := by
 split
 ·subst_vars
  rw [Nat.zero_add]
  exact Nat.mod_eq_of_lt (by omega)
 ·rw [show a + n - 1 = (a - 1) + n by omega, Nat.add_mod_right]
  exact Nat.mod_eq_of_lt (by omega)
theorem rot_nxt (x y : List V) {i : Nat} (h : i < (x ++ y).length) : nxt (y ++ x) i = nxt (x ++ y) (sig (x ++ y).length x.length i) := by
 have hl : (y ++ x).length = (x ++ y).length := by simp [Nat.add_comm]
 have hs : sig (x ++ y).length x.length i < (x ++ y).length := by unfold sig; split <;> simp at * <;> omega
 unfold nxt
 rw [hl, mod_up h, mod_up hs]
 rw [rot_get x y (by split <;> omega)]
 congr 1
 unfold sig at *
 have hx : x.length ≤ (x ++ y).length := by simp
 repeat' split
 all_goals omega
theorem rot_lst (x y : List V) {i : Nat} (h : i < (x ++ y).length) : lst (y ++ x) i = lst (x ++ y) (sig (x ++ y).length x.length i) := by
 have hl : (y ++ x).length = (x ++ y).length := by simp [Nat.add_comm]
 have hs : sig (x ++ y).length x.length i < (x ++ y).length := by unfold sig; split <;> simp at * <;> omega
 unfold lst
 rw [hl, mod_down h, mod_down hs]
 rw [rot_get x y (by split <;> omega)]
 congr 1
 unfold sig at *
 have hx : x.length ≤ (x ++ y).length := by simp
 repeat' split
 all_goals omega
/-! ### The area -/
def pathA : List V → Int
 | a :: b :: t => cross a b + pathA (b :: t)
 | _ => 0
theorem path_append : ∀ (x y : List V) (d : V), y ≠ [] → x ≠ [] → pathA (x ++ y) = pathA x + cross (x.getLastD d) (y.headD d) + pathA y
 | [], y, d, _, h => absurd rfl h
 | [a], b :: t, d, _, _ => by
  show cross a b + pathA (b :: t) = 0 + cross a b + pathA (b :: t)
  omega
 | [a], [], d, h, _ => absurd rfl h
 | a :: a2 :: x, y, d, hy, _ => by
  have ih := path_append (a2 :: x) y d hy (by simp)
  rw [List.cons_append, List.cons_append] at *
  show cross a a2 + pathA (a2 :: (x ++ y)) = cross a a2 + pathA (a2 :: x) + cross ((a :: a2 :: x).getLastD d) (y.headD d) + pathA y
  rw [ih, List.getLastD_cons, List.getLastD_cons, List.getLastD_cons]
  omega
theorem area_from (l : List V) : ∀ k, k < l.length → areaFrom l k = pathA (l.take (k + 1))
 | 0, h => by
  cases l with
  | nil => simp at h
  | cons a t => rfl
 | k + 1, h => by
  unfold areaFrom
  rw [area_from l k (by omega)]
  have e : l.take (k + 1 + 1) = l.take (k + 1) ++ [l[k + 1]] := List.take_succ_eq_append_getElem h
  have hne : l.take (k + 1) ≠ [] := by
   intro e0
   have h0 : (l.take (k + 1)).length = 0 := by rw [e0]; rfl
   rw [List.length_take] at h0
   omega
  rw [e, path_append _ _ (0, 0) (by simp) hne]
  have e1 : l.getD k (0, 0) = (l.take (k + 1)).getLastD (0, 0) := by
   have hk : k < l.length := by omega
   have e3 : l.take (k + 1) = l.take k ++ [l[k]] := List.take_succ_eq_append_getElem hk
   rw [e3, List.getD_eq_getElem?_getD, List.getElem?_eq_getElem hk, List.getLastD_concat]
   rfl
  have e2 : nxt l k = l[k + 1] := by
   unfold nxt
   rw [Nat.mod_eq_of_lt h, List.getD_eq_getElem?_getD, List.getElem?_eq_getElem h]
   rfl
  rw [e1, e2]
  show _ = _ + cross _ l[k + 1] + 0
  omega
theorem area_path (l : List V) : area l = pathA l + cross (l.getLastD (0, 0)) (l.headD (0, 0)) := by
 cases l with
 | nil => rfl
 | cons a t =>
  unfold area
  have hlen : (a :: t).length = t.length + 1 := rfl
  rw [hlen]
  unfold areaFrom
  rw [area_from _ _ (by simp), show t.length + 1 = (a :: t).length from rfl, List.take_length]
  have e1 : (a :: t).getD t.length (0, 0) = (a :: t).getLastD (0, 0) := by
   simp [List.getLastD_eq_getLast?, List.getLast?_eq_getElem?, List.getD_eq_getElem?_getD]
  have e2 : nxt (a :: t) t.length = a := by
   unfold nxt
   rw [show (a :: t).length = t.length + 1 from rfl, Nat.mod_self]
   rfl
  rw [e1, e2]
  rfl
theorem area_rot {l m : List V} (h : Rot l m) : area l = area m := by
 obtain ⟨x, y, rfl, rfl⟩ := h
 rcases Decidable.em (x = []) with rfl | hx
 ·simp
 rcases Decidable.em (y = []) with rfl | hy
 ·simp
 obtain ⟨x0, x1, rfl⟩ : ∃ p q, x = p :: q := by cases x <;> simp_all
 obtain ⟨y0, y1, rfl⟩ : ∃ p q, y = p :: q := by cases y <;> simp_all
 rw [area_path, area_path, path_append _ _ (0, 0) hy hx, path_append _ _ (0, 0) hx hy, last_mid, last_mid, head_mid, head_mid]
 rw [List.getLastD_cons, List.getLastD_cons]
 show _ + cross _ y0 + _ + cross _ x0 = _ + cross _ x0 + _ + cross _ y0
 omega
/-! ### Rings -/
theorem meet_symm {s t : S} (h : meetK s t = 0) : meetK t s = 0 := by
 by_cases hs : segOk s = true
 ·by_cases ht : segOk t = true
  ·rw [meet_zero, rmeet_zero hs ht, common_nil hs ht] at h
   rw [meet_zero, rmeet_zero ht hs, common_nil ht hs]
   obtain ⟨⟨a1, a2, a3, a4⟩, b⟩ := h
   exact ⟨⟨a3, a4, a1, a2⟩, fun hh => b ⟨hh.2, hh.1⟩⟩
  ·unfold meetK
   rw [if_neg (by simp [ht])]
 ·unfold meetK
  rw [if_neg (by simp [hs])]
def ed (r : List V) (i : Nat) : S := (r.getD i (0, 0), nxt r i)
theorem ring_iff (r : List V) : ringB r = true ↔ 3 ≤ r.length ∧ r.length ≤ 40 ∧ near r = true ∧ 0 < area r ∧ (∀ i, i < r.length → turn (lst r i) (r.getD i (0, 0)) (nxt r i) ≠ 0) ∧ ∀ i k, i < k → k < r.length → k = i + 1 ∨ (i = 0 ∧ k + 1 = r.length) ∨ meetK (ed r i) (ed r k) = 0 := by
 unfold ringB bent loose ed
 simp only [Bool.and_eq_true, decide_eq_true_eq, List.all_eq_true, List.mem_range, Bool.or_eq_true, Bool.not_eq_true', decide_eq_false_iff_not, ne_eq]
 constructor
 ·rintro ⟨h1, h2, h3, h4, h5, h6⟩
  refine ⟨h1, h2, h3, h4, h5, fun i k hik hk => ?_⟩
  rcases h6 i (by omega) k hk with h | h
  ·exact absurd hik h
  ·exact h
 ·rintro ⟨h1, h2, h3, h4, h5, h6⟩
  refine ⟨h1, h2, h3, h4, h5, fun i hi k hk => ?_⟩
  by_cases hik : i < k
  ·exact .inr (h6 i k hik hk)
  ·exact .inl hik
theorem ring_rot1 {l m : List V} (h : Rot l m) (hr : ringB l = true) : ringB m = true := by
 obtain ⟨x, y, rfl, rfl⟩ := h
 have hrot : Rot (x ++ y) (y ++ x) := ⟨x, y, rfl, rfl⟩
 rw [ring_iff] at hr ⊢
 obtain ⟨h1, h2, h3, h4, h5, h6⟩ := hr
 have hl : (y ++ x).length = (x ++ y).length := hrot.len.symm
 have hx : x.length ≤ (x ++ y).length := by simp
 have hs : ∀ i, i < (x ++ y).length → sig (x ++ y).length x.length i < (x ++ y).length := fun i hi => by unfold sig; split <;> omega
 have hed : ∀ i, i < (x ++ y).length → ed (y ++ x) i = ed (x ++ y) (sig (x ++ y).length x.length i) := fun i hi => by
  unfold ed
  rw [rot_get x y hi, rot_nxt x y hi]
 rw [hl]
 refine ⟨h1, h2, ?_, ?_, fun i hi => ?_, fun i k hik hk => ?_⟩
 ·unfold near at *
  rw [List.all_eq_true] at *
  exact fun v hv => h3 v (hrot.perm.mem_iff.2 hv)
 ·rw [← area_rot hrot]; exact h4
 ·rw [rot_lst x y hi, rot_get x y hi, rot_nxt x y hi]
  exact h5 _ (hs i hi)
 ·rw [hed i (by omega), hed k hk]
  have a1 := hs i (by omega)
  have a2 := hs k hk
  have hne : sig (x ++ y).length x.length i ≠ sig (x ++ y).length x.length k := by unfold sig; split <;> split <;> omega
  rcases Nat.lt_or_gt_of_ne hne with c | c
  ·rcases h6 _ _ c a2 with h | h | h
   ·have : k = i + 1 ∨ (i = 0 ∧ k + 1 = (x ++ y).length) := by
     unfold sig at h c
     split at h <;> split at h <;> omega
    exact this.imp_right .inl
   ·have : k = i + 1 ∨ (i = 0 ∧ k + 1 = (x ++ y).length) := by
     obtain ⟨e1, e2⟩ := h
     unfold sig at e1 e2 c
     split at e1 <;> split at e2 <;> omega
    exact this.imp_right .inl
   ·exact .inr (.inr h)
  ·rcases h6 _ _ c a1 with h | h | h
   ·have : k = i + 1 ∨ (i = 0 ∧ k + 1 = (x ++ y).length) := by
     unfold sig at h c
     split at h <;> split at h <;> omega
    exact this.imp_right .inl
   ·have : k = i + 1 ∨ (i = 0 ∧ k + 1 = (x ++ y).length) := by
     obtain ⟨e1, e2⟩ := h
     unfold sig at e1 e2 c
     split at e1 <;> split at e2 <;> omega
    exact this.imp_right .inl
   ·exact .inr (.inr (meet_symm h))
theorem rot_begin {l : List V} : Rot l (beginL l) := ⟨l.take (leastR l l.length), l.drop (leastR l l.length), (List.take_append_drop ..).symm, rfl⟩
/-! ### Clean -/
end Go.Proofs.YtnmmhcchpcbeeaaGreat.Ge

namespace Go.Proofs.YtnmmhcchpcbeeaaGreat.Ge
open Go
/-! ### Ends at a point -/
theorem at_mem_iff (v : V) : ∀ (ps : List Pass) (i j k : Nat), (j, k) ∈ atFrom ps i v ↔ ∃ r, j = i + r ∧ ∃ h : r < ps.length, k ≤ 1 ∧ endOf ps[r] k = v
 | [], i, j, k => by
  unfold atFrom
  exact ⟨fun h => (by cases h), fun ⟨r, _, h, _⟩ => absurd h (by simp)⟩
 | p :: ps, i, j, k => by
  unfold atFrom
  rw [List.mem_append, List.mem_append, at_mem_iff v ps (i + 1) j k]
  constructor
  ·rintro (h | h | ⟨r, h1, h2, h3, h4⟩)
   ·split at h
    ·rename_i e
     rw [List.mem_singleton] at h
     cases h
     exact ⟨0, rfl, by simp, by simp, e⟩
    ·cases h
   ·split at h
    ·rename_i e
     rw [List.mem_singleton] at h
     cases h
     exact ⟨0, rfl, by simp, by simp, e⟩
    ·cases h
   ·exact ⟨r + 1, by omega, by simpa using h2, h3, by simpa using h4⟩
  ·rintro ⟨r, h1, h2, h3, h4⟩
   cases r with
   | zero =>
    simp only [List.getElem_cons_zero] at h4
    have hk : k = 0 ∨ k = 1 := by omega
    rcases hk with rfl | rfl
    ·left
     rw [if_pos (show p.e0 = v from h4)]
     rw [h1]
     exact List.mem_singleton.2 rfl
    ·right; left
     rw [if_pos (show p.e1 = v from h4)]
     rw [h1]
     exact List.mem_singleton.2 rfl
   | succ r => exact .inr (.inr ⟨r, by omega, by simpa using h2, h3, by simpa using h4⟩)
theorem at_nodup (v : V) : ∀ (ps : List Pass) (i : Nat), (atFrom ps i v).Nodup
 | [], _ => List.nodup_nil
 | p :: ps, i => by
  unfold atFrom
  have h1 : ∀ k, (i, k) ∉ atFrom ps (i + 1) v := fun k h => by
   obtain ⟨r, h1, _⟩ := (at_mem_iff v ps (i + 1) i k).1 h
   omega
  have h2 := at_nodup v ps (i + 1)
  split <;> split <;> simp [h1, h2]
/-- Number i's end k is one. -/
def EndI (ps : List Pass) (x : Nat × Nat) : Prop := x.1 < ps.length ∧ x.2 ≤ 1
def endV (ps : List Pass) (x : Nat × Nat) : V := endOf (passAt ps x.1) x.2
/-- The other end of the same line. -/
def flipE (x : Nat × Nat) : Nat × Nat := (x.1, 1 - x.2)
theorem flip_ne {x : Nat × Nat} (h : x.2 ≤ 1) : flipE x ≠ x := fun e => by
 have := congrArg Prod.snd e
 simp only [flipE] at this
 omega
theorem EndI.flip {ps : List Pass} {x : Nat × Nat} (h : EndI ps x) : EndI ps (flipE x) := ⟨h.1, by unfold flipE; simp⟩
theorem at_iff {ps : List Pass} {v : V} {x : Nat × Nat} : x ∈ atL ps v ↔ EndI ps x ∧ endV ps x = v := by
 obtain ⟨j, k⟩ := x
 unfold atL EndI endV
 rw [at_mem_iff]
 constructor
 ·rintro ⟨r, h1, h2, h3, h4⟩
  rw [Nat.zero_add] at h1
  subst h1
  refine ⟨⟨h2, h3⟩, ?_⟩
  unfold passAt
  rw [List.getD_eq_getElem?_getD, List.getElem?_eq_getElem h2]
  exact h4
 ·rintro ⟨⟨h2, h3⟩, h4⟩
  refine ⟨j, by omega, h2, h3, ?_⟩
  unfold passAt at h4
  rw [List.getD_eq_getElem?_getD, List.getElem?_eq_getElem h2] at h4
  exact h4
/-- The end that meets an end. -/
def par (ps : List Pass) (x : Nat × Nat) : Nat × Nat := if (atL ps (endV ps x)).getD 0 (0, 0) = x then (atL ps (endV ps x)).getD 1 (0, 0) else (atL ps (endV ps x)).getD 0 (0, 0)
theorem twice_iff {ps : List Pass} (h : twice ps = true) {x : Nat × Nat} (hx : EndI ps x) : (atL ps (endV ps x)).length = 2 := by
 unfold twice at h
 rw [List.all_eq_true] at h
 obtain ⟨i, k⟩ := x
 obtain ⟨h1, h2⟩ := hx
 have hp : passAt ps i = ps[i] := by unfold passAt; rw [List.getD_eq_getElem?_getD, List.getElem?_eq_getElem h1]; rfl
 have h3 := h _ (List.getElem_mem h1)
 simp only [Bool.and_eq_true, decide_eq_true_eq] at h3
 unfold endV endOf
 rw [hp]
 split
 ·exact h3.1
 ·exact h3.2
theorem par_spec {ps : List Pass} (h : twice ps = true) {x : Nat × Nat} (hx : EndI ps x) : EndI ps (par ps x) ∧ endV ps (par ps x) = endV ps x ∧ par ps x ≠ x ∧ ∀ y, EndI ps y → endV ps y = endV ps x → y = x ∨ y = par ps x := by
 have h2 := twice_iff h hx
 have hm : x ∈ atL ps (endV ps x) := at_iff.2 ⟨hx, rfl⟩
 have hn : (atL ps (endV ps x)).Nodup := at_nodup _ _ _
 have hall : ∀ y, y ∈ atL ps (endV ps x) ↔ EndI ps y ∧ endV ps y = endV ps x := fun y => at_iff
 unfold par
 generalize atL ps (endV ps x) = l at *
 obtain ⟨a, b, rfl⟩ : ∃ a b, l = [a, b] := by
  match l, h2 with
  | [a, b], _ => exact ⟨a, b, rfl⟩
 have hab : a ≠ b := by simpa using hn
 simp only [List.getD_cons_zero, List.getD_cons_succ]
 have ha := (hall a).1 (by simp)
 have hb := (hall b).1 (by simp)
 have hy : ∀ y, EndI ps y → endV ps y = endV ps x → y = a ∨ y = b := fun y h1 h2 => by simpa using (hall y).2 ⟨h1, h2⟩
 split
 ·rename_i e
  subst e
  exact ⟨hb.1, hb.2, fun e => hab e.symm, hy⟩
 ·rename_i e
  have hx2 : x = b := by
   rcases hy x hx rfl with h | h
   ·exact absurd h.symm e
   ·exact h
  subst hx2
  exact ⟨ha.1, ha.2, hab, fun y h1 h2 => (hy y h1 h2).symm⟩
theorem par_par {ps : List Pass} (h : twice ps = true) {x : Nat × Nat} (hx : EndI ps x) : par ps (par ps x) = x := by
 obtain ⟨h1, h2, h3, h4⟩ := par_spec h hx
 obtain ⟨k1, k2, k3, k4⟩ := par_spec h h1
 rcases h4 _ k1 (k2.trans h2) with e | e
 ·exact e
 ·exact absurd e k3
/-! ### Chains -/
/-- Ends at which lines are entered, one behind the other. -/
inductive Path (ps : List Pass) : List (Nat × Nat) → Prop
 | one {x : Nat × Nat} (h : EndI ps x) : Path ps [x]
 | snoc {l : List (Nat × Nat)} {x y : Nat × Nat} (h : Path ps (l ++ [x])) (hy : y = par ps (flipE x)) : Path ps (l ++ [x] ++ [y])
theorem Path.ends {ps : List Pass} (ht : twice ps = true) {l : List (Nat × Nat)} (h : Path ps l) : ∀ x ∈ l, EndI ps x := by
 induction h with
 | one h => intro x hx; rw [List.mem_singleton.1 hx]; exact h
 | snoc h hy ih =>
  intro z hz
  rcases List.mem_append.1 hz with hz | hz
  ·exact ih z hz
  ·rw [List.mem_singleton.1 hz, hy]
   exact (par_spec ht (ih _ (by simp)).flip).1
theorem Path.get {ps : List Pass} {l : List (Nat × Nat)} (h : Path ps l) : ∀ r (hr : r + 1 < l.length), l[r + 1] = par ps (flipE l[r]) := by
 induction h with
 | one h => intro r hr; simp at hr
 | @snoc l x y h hy ih =>
  intro r hr
  by_cases hlt : r + 1 < (l ++ [x]).length
  ·have e1 : (l ++ [x] ++ [y])[r + 1] = (l ++ [x])[r + 1] := List.getElem_append_left hlt
   have e2 : (l ++ [x] ++ [y])[r] = (l ++ [x])[r] := List.getElem_append_left (Nat.lt_of_succ_lt hlt)
   rw [e1, e2]
   exact ih r hlt
  ·have hr2 : r = l.length := by simp at hr hlt; omega
   subst hr2
   simp [hy]
/-- A cycle of lines. -/
structure Cyc (ps : List Pass) (l : List (Nat × Nat)) : Prop where
 path : Path ps l
 nodup : (l.map Prod.fst).Nodup
 shut : ∀ x y, l.head? = some x → l.getLast? = some y → par ps (flipE y) = x
/-- What is used is used up to its partners. -/
def Shut (ps : List Pass) (u : Nat → Bool) : Prop := ∀ x, EndI ps x → u (par ps x).1 = u x.1
def vsOf (ps : List Pass) (l : List (Nat × Nat)) : List V := l.map (endV ps)
end Go.Proofs.YtnmmhcchpcbeeaaGreat.Ge

namespace Go.Proofs.YtnmmhcchpcbeeaaGreat.Ge
open Go
/-! ### Two cycles with the same neighbours -/
structure Per (F : Nat → V) (T : Nat) : Prop where
 pos : 0 < T
 per : ∀ r, F (r + T) = F r
 inj : ∀ r s, F r = F s → r % T = s % T
/-! ### The cycles of lines -/
/-- The other ends of the lines that end at a point. -/
def nbOf (p : Pass) (v : V) : List V := (if p.e0 = v then [p.e1] else []) ++ (if p.e1 = v then [p.e0] else [])
def nb (ps : List Pass) (v : V) : List V := ps.flatMap fun p => nbOf p v
/-- The ends of a cycle, over and over. -/
def cycE (c : List (Nat × Nat)) (r : Nat) : Nat × Nat := c.getD (r % c.length) (0, 0)
theorem Cyc.ne {ps : List Pass} {c : List (Nat × Nat)} (h : Cyc ps c) : 0 < c.length := by
 cases h.path with
 | one _ => simp
 | snoc _ _ => simp
theorem Cyc.endI {ps : List Pass} (ht : twice ps = true) {c : List (Nat × Nat)} (h : Cyc ps c) (r : Nat) : EndI ps (cycE c r) := by
 have hlt : r % c.length < c.length := Nat.mod_lt _ h.ne
 unfold cycE
 rw [List.getD_eq_getElem?_getD, List.getElem?_eq_getElem hlt]
 exact h.path.ends ht _ (List.getElem_mem hlt)
theorem Cyc.next {ps : List Pass} {c : List (Nat × Nat)} (h : Cyc ps c) (r : Nat) : cycE c (r + 1) = par ps (flipE (cycE c r)) := by
 have hlt : r % c.length < c.length := Nat.mod_lt _ h.ne
 have hne : c ≠ [] := fun e => by have := h.ne; rw [e] at this; exact Nat.lt_irrefl _ this
 unfold cycE
 have hm : (r + 1) % c.length = if r % c.length + 1 < c.length then r % c.length + 1 else 0 := by
  rw [← mod_up hlt, Nat.mod_add_mod]
 rw [hm, List.getD_eq_getElem?_getD, List.getD_eq_getElem?_getD, List.getElem?_eq_getElem hlt]
 split
 ·rename_i h1
  rw [List.getElem?_eq_getElem h1]
  exact h.path.get _ h1
 ·rename_i h1
  rw [List.getElem?_eq_getElem h.ne]
  refine (h.shut _ _ (by rw [List.head?_eq_getElem?, List.getElem?_eq_getElem h.ne]; rfl) ?_).symm
  rw [List.getLast?_eq_getElem?, show c.length - 1 = r % c.length by omega, List.getElem?_eq_getElem hlt]
  rfl
theorem Cyc.line {ps : List Pass} {c : List (Nat × Nat)} (h : Cyc ps c) {r s : Nat} (e : (cycE c r).1 = (cycE c s).1) : r % c.length = s % c.length := by
 have h1 : r % c.length < c.length := Nat.mod_lt _ h.ne
 have h2 : s % c.length < c.length := Nat.mod_lt _ h.ne
 unfold cycE at e
 rw [List.getD_eq_getElem?_getD, List.getD_eq_getElem?_getD, List.getElem?_eq_getElem h1, List.getElem?_eq_getElem h2] at e
 have hn := List.nodup_iff_pairwise_ne.1 h.nodup
 rw [List.pairwise_iff_getElem] at hn
 have e' : (c.map Prod.fst)[r % c.length]'(by simpa using h1) = (c.map Prod.fst)[s % c.length]'(by simpa using h2) := by
  rw [List.getElem_map, List.getElem_map]
  exact e
 rcases Nat.lt_trichotomy (r % c.length) (s % c.length) with k | k | k
 ·exact absurd e' (hn _ _ _ _ k)
 ·exact k
 ·exact absurd e'.symm (hn _ _ _ _ k)
def cycV (ps : List Pass) (c : List (Nat × Nat)) (r : Nat) : V := endV ps (cycE c r)
theorem Cyc.per {ps : List Pass} (ht : twice ps = true) {c : List (Nat × Nat)} (h : Cyc ps c) : Per (cycV ps c) c.length where
 pos := h.ne
 per r := by unfold cycV cycE; rw [Nat.add_mod_right]
 inj r s e := by
  have hr := h.endI ht (r + c.length)
  have hs := h.endI ht s
  have er : cycE c (r + c.length) = cycE c r := by unfold cycE; rw [Nat.add_mod_right]
  have hsp := par_spec ht hr
  obtain ⟨q, hq⟩ : ∃ q, r + c.length = q + 1 := ⟨r + c.length - 1, by have := h.ne; omega⟩
  rcases hsp.2.2.2 _ hs (by rw [er]; exact e.symm) with g | g
  ·rw [er] at g
   exact (h.line (by rw [g])).symm
  ·exfalso
   rw [hq, h.next, par_par ht (h.endI ht q).flip] at g
   have h1 : s % c.length = q % c.length := h.line (by rw [g]; rfl)
   have h2 : cycE c s = cycE c q := by unfold cycE; rw [h1]
   rw [h2] at g
   exact flip_ne (h.endI ht q).2 g.symm
end Go.Proofs.YtnmmhcchpcbeeaaGreat.Ge

namespace Go.Proofs.YtnmmhcchpcbeeaaGreat.Ge
open Go
/-! ### What is cleaned -/
/-! ### Two lists, matched -/
/-! ### Cycles, closed and cleaned -/
/-! ### The cycles of two lists of lines -/
theorem Cyc.both {ps : List Pass} (ht : twice ps = true) {c : List (Nat × Nat)} (h : Cyc ps c) {x : Nat × Nat} (hx : EndI ps x) (hm : x.1 ∈ c.map Prod.fst) : endV ps x ∈ vsOf ps c := by
 obtain ⟨z, hz, e⟩ := List.mem_map.1 hm
 have hzE := h.path.ends ht z hz
 have hcase : x = z ∨ x = flipE z := by
  obtain ⟨a1, a2⟩ := hx
  obtain ⟨b1, b2⟩ := hzE
  have : x.2 = z.2 ∨ x.2 = 1 - z.2 := by omega
  rcases this with g | g
  ·exact .inl (Prod.ext e.symm g)
  ·exact .inr (Prod.ext e.symm g)
 rcases hcase with rfl | rfl
 ·exact List.mem_map_of_mem hz
 ·obtain ⟨r, hr, rfl⟩ := List.getElem_of_mem hz
  have e1 : cycE c r = c[r] := by unfold cycE; rw [Nat.mod_eq_of_lt hr, List.getD_eq_getElem?_getD, List.getElem?_eq_getElem hr]; rfl
  have h2 := h.next r
  rw [e1] at h2
  have h3 : endV ps (cycE c (r + 1)) = endV ps (flipE c[r]) := by rw [h2, (par_spec ht hzE.flip).2.1]
  rw [← h3]
  have hlt : (r + 1) % c.length < c.length := Nat.mod_lt _ h.ne
  refine List.mem_map.2 ⟨cycE c (r + 1), ?_, rfl⟩
  unfold cycE
  rw [List.getD_eq_getElem?_getD, List.getElem?_eq_getElem hlt]
  exact List.getElem_mem hlt
theorem Cyc.apart {ps : List Pass} (ht : twice ps = true) {c d : List (Nat × Nat)} (hc : Cyc ps c) (hd : Cyc ps d) (hdis : ∀ x ∈ c, ∀ y ∈ d, x.1 ≠ y.1) {v : V} (h1 : v ∈ vsOf ps c) (h2 : v ∈ vsOf ps d) : False := by
 obtain ⟨x, hx, rfl⟩ := List.mem_map.1 h1
 obtain ⟨y, hy, e⟩ := List.mem_map.1 h2
 have hxE := hc.path.ends ht x hx
 have hyE := hd.path.ends ht y hy
 rcases (par_spec ht hxE).2.2.2 y hyE e with g | g
 ·exact hdis x hx y hy (by rw [g])
 ·obtain ⟨r, hr, rfl⟩ := List.getElem_of_mem hx
  have e1 : cycE c (r + c.length) = c[r] := by unfold cycE; rw [Nat.add_mod_right, Nat.mod_eq_of_lt hr, List.getD_eq_getElem?_getD, List.getElem?_eq_getElem hr]; rfl
  obtain ⟨q, hq⟩ : ∃ q, r + c.length = q + 1 := ⟨r + c.length - 1, by omega⟩
  rw [hq] at e1
  have hqE := hc.endI ht q
  rw [← e1, hc.next, par_par ht hqE.flip] at g
  have hlt : q % c.length < c.length := Nat.mod_lt _ hc.ne
  have hmem : cycE c q ∈ c := by
   unfold cycE
   rw [List.getD_eq_getElem?_getD, List.getElem?_eq_getElem hlt]
   exact List.getElem_mem hlt
  exact hdis _ hmem y hy (by rw [g]; rfl)
end Go.Proofs.YtnmmhcchpcbeeaaGreat.Ge

namespace Go.Proofs.YtnmmhcchpcbeeaaGreat.Ge
open Go
def ringsOf (fl : Ent → List V) (layer : List UInt8) (d : List Ent) : List (List V) := (d.filter fun x => decide (x.layer = layer) && isClosed x).map (selPts fl)
/-! ### Turned lines -/
def flipEnt (x : Ent) : Ent := { x with a := x.b, b := x.a }
def FlipTo (x y : Ent) : Prop := y = x ∨ (x.kind = 1 ∧ y = flipEnt x)
theorem FlipTo.keep {x y : Ent} (h : FlipTo x y) : y.kind = x.kind ∧ y.layer = x.layer ∧ y.f = x.f ∧ y.t = x.t ∧ y.pts = x.pts := by
 rcases h with rfl | ⟨_, rfl⟩
 ·exact ⟨rfl, rfl, rfl, rfl, rfl⟩
 ·exact ⟨rfl, rfl, rfl, rfl, rfl⟩
theorem FlipTo.closed {x y : Ent} (h : FlipTo x y) : isClosed y = isClosed x := by
 obtain ⟨h1, h2, h3, h4, h5⟩ := h.keep
 unfold isClosed
 rw [h1, h3, h4]
theorem flip_ok {x y : Ent} (h : FlipTo x y) : entOk y = entOk x := by
 rcases h with rfl | ⟨h1, rfl⟩
 ·rfl
 ·unfold entOk
  rw [show (flipEnt x).kind = x.kind from rfl, if_pos h1, if_pos h1]
  have e : lineOk (flipEnt x) = lineOk x := by
   unfold lineOk flipEnt noArc noPts
   simp only
   have e2 : decide (x.b = x.a) = decide (x.a = x.b) := by rw [decide_eq_decide]; exact eq_comm
   rw [e2]
   cases within x.a 2000 <;> cases within x.b 2000 <;> rfl
  rw [e]
  rfl
/-- Two lists, entry by entry. -/
inductive Flips : List Ent → List Ent → Prop
 | nil : Flips [] []
 | cons {x y : Ent} {d m : List Ent} (h : FlipTo x y) (r : Flips d m) : Flips (x :: d) (y :: m)
theorem Flips.len {d m : List Ent} (h : Flips d m) : m.length = d.length := by
 induction h with
 | nil => rfl
 | cons _ _ ih => simp [ih]
theorem Flips.ok {d m : List Ent} (h : Flips d m) : m.all entOk = d.all entOk := by
 induction h with
 | nil => rfl
 | cons hf _ ih => rw [List.all_cons, List.all_cons, flip_ok hf, ih]
theorem Flips.rings {fl : Ent → List V} {layer : List UInt8} {d m : List Ent} (h : Flips d m) (hd : ∀ x ∈ d, x.kind ≠ 2) : ringsOf fl layer m = ringsOf fl layer d := by
 induction h with
 | nil => rfl
 | @cons x y d m hf r ih =>
  have ih2 := ih (fun x hx => hd x (List.mem_cons_of_mem _ hx))
  unfold ringsOf at *
  have hk := hd x List.mem_cons_self
  by_cases hc : (decide (x.layer = layer) && isClosed x) = true
  ·have hy : y = x := by
    rcases hf with rfl | ⟨h1, rfl⟩
    ·rfl
    ·simp only [Bool.and_eq_true, decide_eq_true_eq] at hc
     have := hc.2
     unfold isClosed at this
     rw [h1] at this
     simp at this
   subst hy
   simp only [List.filter_cons, hc, ↓reduceIte, List.map_cons, ih2]
  ·have hc2 : ¬ (decide (y.layer = layer) && isClosed y) = true := by rw [hf.keep.2.1, hf.closed]; exact hc
   simp only [List.filter_cons, hc, hc2, ↓reduceIte, Bool.false_eq_true, ih2]
/-! ### The whole -/
end Go.Proofs.YtnmmhcchpcbeeaaGreat.Ge

namespace Go.Proofs.YtnmmhcchpcbeeaaGreat.Ge
open Go
/-- The first vertex of a ring lies inside of another one. -/
def inB (r s : List V) : Bool := decide (whereB s (hd r) = 2)
def depthB (rs : List (List V)) (r : List V) : Nat := (rs.filter fun s => inB r s).length
def holesB (rs : List (List V)) (r : List V) : List (List V) := rs.filter fun s => decide (depthB rs s = depthB rs r + 1) && inB s r
/-- The rings that are outer ones. -/
def outersB (rs : List (List V)) : List (List V) := rs.filter fun r => decide (depthB rs r % 2 = 0)
def canonOf (rs : List (List V)) (r : List V) : List V × List (List V) := (beginL r, sortH ((holesB rs r).map beginL))
def ApartAll (rs : List (List V)) : Prop := rs.Pairwise fun r s => apartB r s = true
theorem in_self {r : List V} (h : ringB r = true) : inB r r = false := by
 obtain ⟨hn, h3, _⟩ := ring_near h
 unfold inB
 rw [decide_eq_false_iff_not]
 cases r with
 | nil => simp at h3
 | cons v t =>
  have hv : hd (v :: t) = v := rfl
  rw [hv]
  unfold whereB
  split
  ·rw [edges_get (by omega)]
   have e : (List.range (v :: t).length).map (fun i => ((v :: t).getD i (0, 0), nxt (v :: t) i)) = (v, nxt (v :: t) 0) :: (List.range t.length).map (fun i => ((v :: t).getD (i + 1) (0, 0), nxt (v :: t) (i + 1))) := by
    rw [List.length_cons, List.range_succ_eq_map, List.map_cons, List.map_map]
    rfl
   rw [e]
   unfold whereL
   rw [if_pos]
   ·decide
   ·unfold edgeOn cross sub
    simp
    omega
  ·decide
theorem apart_sym {a b : List V} (ha : ringB a = true) (hb : ringB b = true) : apartB a b = apartB b a := by
 rw [Bool.eq_iff_iff]
 exact ⟨fun h => apart_symm a b h (ring_near ha).1 (ring_near hb).1, fun h => apart_symm b a h (ring_near hb).1 (ring_near ha).1⟩
theorem pair_sym {a b : List V} (ha : ringB a = true) (hb : ringB b = true) : pairB a b = pairB b a := by
 unfold pairB
 rw [apart_sym ha hb, Bool.and_comm (allB a b 0)]
theorem pairwise_perm {α : Type} {p : α → α → Prop} {P : α → Prop} (hs : ∀ a b, P a → P b → p a b → p b a) {l m : List α} (hp : l.Perm m) (hP : ∀ a ∈ l, P a) (h : l.Pairwise p) : m.Pairwise p := by
 have h1 : l.Pairwise (fun a b => P a ∧ P b ∧ p a b) := by
  refine List.Pairwise.imp_of_mem ?_ h
  exact fun ha hb hab => ⟨hP _ ha, hP _ hb, hab⟩
 have h2 := (hp.pairwise_iff (fun {a b} h => ⟨h.2.1, h.1, hs a b h.1 h.2.1 h.2.2⟩)).1 h1
 exact h2.imp fun h => h.2.2
theorem apart_perm {rs qs : List (List V)} (hp : rs.Perm qs) (hr : ∀ r ∈ rs, ringB r = true) (h : ApartAll rs) : ApartAll qs :=
 pairwise_perm (P := fun r => ringB r = true) (fun a b ha hb hab => by rw [apart_sym hb ha]; exact hab) hp hr h
theorem depth_perm {rs qs : List (List V)} (hp : rs.Perm qs) (r : List V) : depthB rs r = depthB qs r := (hp.filter _).length_eq
theorem holes_perm {rs qs : List (List V)} (hp : rs.Perm qs) (r : List V) : (holesB rs r).Perm (holesB qs r) := by
 unfold holesB
 rw [show (fun s => decide (depthB rs s = depthB rs r + 1) && inB s r) = fun s => decide (depthB qs s = depthB qs r + 1) && inB s r from funext fun s => by rw [depth_perm hp s, depth_perm hp r]]
 exact hp.filter _
theorem total_perm {hs ks : List (List V)} (hp : hs.Perm ks) : total hs = total ks := by
 induction hp with
 | nil => rfl
 | cons x _ ih => rw [total, total, ih]
 | swap x y l => rw [total, total, total, total]; omega
 | trans _ _ h1 h2 => exact h1.trans h2
theorem shape_iff (o : List V) (hs : List (List V)) : shapeB o hs = true ↔ hs.length ≤ 6 ∧ (∀ r ∈ o :: hs, ringB r = true) ∧ total (o :: hs) ≤ 80 ∧ (∀ h ∈ hs, allB h o 2 = true ∧ apartB h o = true) ∧ hs.Pairwise fun h k => pairB k h = true := by
 unfold shapeB
 rw [Bool.and_eq_true, Bool.and_eq_true, Bool.and_eq_true, decide_eq_true_eq, decide_eq_true_eq, List.all_eq_true, allFrom_iff]
 refine ⟨fun ⟨h1, h2, h3, h4⟩ => ⟨h1, h2, h3, ?_, ?_⟩, fun ⟨h1, h2, h3, h4, h5⟩ => ⟨h1, h2, h3, fun i _ hi => ?_⟩⟩
 ·intro h hh
  obtain ⟨i, hi, rfl⟩ := List.getElem_of_mem hh
  have := h4 i (Nat.zero_le _) (by omega)
  unfold holeB at this
  rw [hAt_get hi] at this
  simp only [Bool.and_eq_true] at this
  exact this.1
 ·rw [List.pairwise_iff_getElem]
  intro i j hi hj hij
  have := h4 j (Nat.zero_le _) (by omega)
  unfold holeB at this
  simp only [Bool.and_eq_true] at this
  have h5 := allFrom_iff.1 this.2 i (Nat.zero_le _) (by omega)
  rw [hAt_get hi, hAt_get hj] at h5
  exact h5
 ·have hi2 : i < hs.length := by omega
  unfold holeB
  rw [hAt_get hi2]
  simp only [Bool.and_eq_true]
  refine ⟨h4 _ (List.getElem_mem hi2), allFrom_iff.2 fun k _ hk => ?_⟩
  have hk2 : k < hs.length := by omega
  rw [hAt_get hk2]
  rw [List.pairwise_iff_getElem] at h5
  exact h5 k i hk2 hi2 (by omega)
theorem shape_perm {o : List V} {hs ks : List (List V)} (hp : hs.Perm ks) : shapeB o hs = shapeB o ks := by
 have one : ∀ {hs ks : List (List V)}, hs.Perm ks → shapeB o hs = true → shapeB o ks = true := fun {hs ks} hp h => by
  rw [shape_iff] at h ⊢
  obtain ⟨h1, h2, h3, h4, h5⟩ := h
  refine ⟨by rw [← hp.length_eq]; exact h1, fun r hr => ?_, by rw [← total_perm (hp.cons o)]; exact h3, fun r hr => h4 r (hp.mem_iff.2 hr), ?_⟩
  ·exact h2 r ((hp.cons o).mem_iff.2 hr)
  ·exact pairwise_perm (P := fun r => ringB r = true) (fun a b ha hb hab => by rw [pair_sym ha hb]; exact hab) hp (fun r hr => h2 r (List.mem_cons_of_mem _ hr)) h5
 rw [Bool.eq_iff_iff]
 exact ⟨one hp, one hp.symm⟩
theorem begin_ring {r : List V} (h : ringB r = true) : ringB (beginL r) = true := ring_rot1 rot_begin h
theorem heads_apart {rs : List (List V)} (hr : ∀ r ∈ rs, ringB r = true) (h : ApartAll rs) : ((rs.map beginL).map hd).Nodup := by
 rw [List.map_map, List.nodup_iff_pairwise_ne, List.pairwise_map]
 refine List.Pairwise.imp_of_mem ?_ h
 intro a b ha hb hab
 obtain ⟨n1, l1, _⟩ := ring_near (hr a ha)
 obtain ⟨n2, l2, _⟩ := ring_near (hr b hb)
 exact apart_points (by omega) (by omega) n1 n2 hab (beginL_hd (by omega)) (beginL_hd (by omega))
theorem canon_perm {rs qs : List (List V)} (hp : rs.Perm qs) (hr : ∀ r ∈ rs, ringB r = true) (h : ApartAll rs) (r : List V) : canonOf rs r = canonOf qs r := by
 unfold canonOf
 congr 1
 have hsub : (holesB rs r).Sublist rs := List.filter_sublist
 have h1 : (((holesB rs r).map beginL).map hd).Nodup := heads_apart (fun s hs => hr s (hsub.subset hs)) (h.sublist hsub)
 exact (asc_one h1 ((sortH_perm _).trans ((holes_perm hp r).symm.map _)) (sortH_asc _)).symm
theorem outers_perm {rs qs : List (List V)} (hp : rs.Perm qs) : (outersB rs).Perm (outersB qs) := by
 unfold outersB
 rw [show (fun r => decide (depthB rs r % 2 = 0)) = fun r => decide (depthB qs r % 2 = 0) from funext fun r => by rw [depth_perm hp r]]
 exact hp.filter _
/-- Shapes in ascending order of the first vertices of their outer rings. -/
def AscS (l : List (List V × List (List V))) : Prop := l.Pairwise fun x y => less (hd y.1) (hd x.1) = false
theorem ascS_one {l m : List (List V × List (List V))} (hn : (l.map fun s => hd s.1).Nodup) (hp : l.Perm m) (h1 : AscS l) (h2 : AscS m) : l = m := by
 refine List.Perm.eq_of_pairwise (le := fun (x y : List V × List (List V)) => less (hd y.1) (hd x.1) = false) ?_ h1 h2 hp
 intro a b ha hb h3 h4
 have e : hd a.1 = hd b.1 := less_tri h4 h3
 have hb' := hp.mem_iff.2 hb
 obtain ⟨i, hi, rfl⟩ := List.getElem_of_mem ha
 obtain ⟨j, hj, rfl⟩ := List.getElem_of_mem hb'
 have h5 := List.nodup_iff_pairwise_ne.1 hn
 rw [List.pairwise_iff_getElem] at h5
 rcases Nat.lt_trichotomy i j with c | c | c
 ·exact absurd (by rw [List.getElem_map, List.getElem_map]; exact e) (h5 i j (by simpa using hi) (by simpa using hj) c)
 ·subst c; rfl
 ·exact absurd (by rw [List.getElem_map, List.getElem_map]; exact e.symm) (h5 j i (by simpa using hj) (by simpa using hi) c)
/-- What the program's Shapes answers of rings: the error, and the shapes in some ascending order. -/
def ShapesR (rs : List (List V)) (e : Int) (l : List (List V × List (List V))) : Prop :=
 (ApartAll rs ∧ (∀ r ∈ outersB rs, shapeB r (holesB rs r) = true) ∧ e = 0 ∧ l.Perm ((outersB rs).map (canonOf rs)) ∧ AscS l) ∨ (¬ (ApartAll rs ∧ ∀ r ∈ outersB rs, shapeB r (holesB rs r) = true) ∧ (e = 12 ∧ ¬ ApartAll rs ∨ e = 11 ∧ ApartAll rs) ∧ l = [])
/-- The order of the rings does not matter. -/
theorem shapes_order {rs qs : List (List V)} (hp : rs.Perm qs) (hr : ∀ r ∈ rs, ringB r = true) {e e' : Int} {l l' : List (List V × List (List V))} (h1 : ShapesR rs e l) (h2 : ShapesR qs e' l') : (e = 0 ↔ e' = 0) ∧ (e = 0 → l = l') := by
 have hq : ∀ r ∈ qs, ringB r = true := fun r hm => hr r (hp.mem_iff.2 hm)
 have hgood : (ApartAll rs ∧ ∀ r ∈ outersB rs, shapeB r (holesB rs r) = true) ↔ (ApartAll qs ∧ ∀ r ∈ outersB qs, shapeB r (holesB qs r) = true) := by
  constructor
  ·rintro ⟨a, b⟩
   refine ⟨apart_perm hp hr a, fun r hm => ?_⟩
   rw [← shape_perm (holes_perm hp r)]
   exact b r ((outers_perm hp).mem_iff.2 hm)
  ·rintro ⟨a, b⟩
   refine ⟨apart_perm hp.symm hq a, fun r hm => ?_⟩
   rw [shape_perm (holes_perm hp r)]
   exact b r ((outers_perm hp).mem_iff.1 hm)
 rcases h1 with ⟨a1, a2, a3, a4, a5⟩ | ⟨a1, a0, a3⟩
 ·rcases h2 with ⟨b1, b2, b3, b4, b5⟩ | ⟨b1, _, _⟩
  ·refine ⟨⟨fun _ => b3, fun _ => a3⟩, fun _ => ?_⟩
   have hpm : l.Perm l' := by
    refine a4.trans (List.Perm.trans ?_ b4.symm)
    rw [List.map_congr_left (fun r _ => canon_perm hp hr a1 r)]
    exact (outers_perm hp).map _
   refine ascS_one ?_ hpm a5 b5
   have hsub : (outersB rs).Sublist rs := List.filter_sublist
   have h3 := heads_apart (fun s hs => hr s (hsub.subset hs)) (a1.sublist hsub)
   have h4 : (l.map fun s => hd s.1).Perm (((outersB rs).map beginL).map hd) := by
    have := a4.map (fun s => hd s.1)
    rw [List.map_map] at this
    rw [List.map_map]
    exact this
   exact h4.nodup_iff.2 h3
  ·exact absurd (hgood.1 ⟨a1, a2⟩) b1
 ·have a2 : e ≠ 0 := by omega
  rcases h2 with ⟨b1, b2, _, _, _⟩ | ⟨_, b0, _⟩
  ·exact absurd (hgood.2 ⟨b1, b2⟩) a1
  ·have b2 : e' ≠ 0 := by omega
   exact ⟨⟨fun h => absurd h a2, fun h => absurd h b2⟩, fun h => absurd h a2⟩
/-- Of the same rings the same error. -/
theorem shapesR_err {rs : List (List V)} {e e' : Int} {l l' : List (List V × List (List V))} (h1 : ShapesR rs e l) (h2 : ShapesR rs e' l') : e = e' := by
 rcases h1 with ⟨a1, a2, a3, _⟩ | ⟨a1, a2, _⟩ <;> rcases h2 with ⟨b1, b2, b3, _⟩ | ⟨b1, b2, _⟩
 ·omega
 ·exact absurd ⟨a1, a2⟩ b1
 ·exact absurd ⟨b1, b2⟩ a1
 ·rcases a2 with ⟨a, x⟩ | ⟨a, x⟩ <;> rcases b2 with ⟨b, y⟩ | ⟨b, y⟩
  ·omega
  ·exact absurd y x
  ·exact absurd x y
  ·omega
end Go.Proofs.YtnmmhcchpcbeeaaGreat.Ge

namespace Go.Proofs.YtnmmhcchpcbeeaaGreat.Ge
open Go
theorem clean_valid {l : List V} (h : cleanE l = 0) : ringB (cleanR l) = true := by
 unfold cleanE at h
 unfold cleanR
 split at h
 ·cases h
 ·rename_i c1
  split at h
  ·cases h
  ·rename_i c2
   split at h
   ·rename_i c3
    rw [if_neg c1, if_neg c2, canonR_begin c3]
    exact begin_ring c3
   ·cases h
theorem ringsGo_valid (ps : List Pass) : ∀ (its : List Itm) (u : Nat → Bool) (acc : List (List V)), (∀ r ∈ acc, ringB r = true) → ∀ r ∈ (ringsGo ps its u acc).2, ringB r = true
 | [], u, acc, h => h
 | .ring l :: its, u, acc, h => by
  rw [ringsGo]
  split
  ·rename_i c
   refine ringsGo_valid ps its u _ fun r hr => ?_
   rcases List.mem_append.1 hr with hr | hr
   ·exact h r hr
   ·rw [List.mem_singleton.1 hr]; exact clean_valid c
  ·exact fun r hr => absurd hr List.not_mem_nil
 | .chain n :: its, u, acc, h => by
  rw [ringsGo]
  split
  ·exact ringsGo_valid ps its u acc h
  ·split
   ·rename_i c
    refine ringsGo_valid ps its _ _ fun r hr => ?_
    rcases List.mem_append.1 hr with hr | hr
    ·exact h r hr
    ·rw [List.mem_singleton.1 hr]; exact clean_valid c
   ·exact fun r hr => absurd hr List.not_mem_nil
/-- The rings that are answered are valid. -/
theorem ringsP_valid (fl : Ent → List V) (d : List Ent) (layer : List UInt8) (tol : Int) : ∀ r ∈ (ringsP fl d layer tol).2, ringB r = true := by
 unfold ringsP
 split
 ·split
  ·exact fun r hr => absurd hr List.not_mem_nil
  ·split
   ·exact ringsGo_valid _ _ _ [] fun r hr => absurd hr List.not_mem_nil
   ·exact fun r hr => absurd hr List.not_mem_nil
 ·exact fun r hr => absurd hr List.not_mem_nil
end Go.Proofs.YtnmmhcchpcbeeaaGreat.Ge

namespace Go.Proofs.YtnmmhcchpcbeeaaGreat.Ge
open Go
theorem range_getD {α : Type} (l : List α) (z : α) : (List.range l.length).map (fun k => l.getD k z) = l := by
 refine List.ext_getElem (by simp) fun i h1 h2 => ?_
 rw [List.getElem_map, List.getElem_range, List.getD_eq_getElem?_getD, List.getElem?_eq_getElem h2, Option.getD_some]
theorem range_filter {α : Type} (l : List α) (z : α) {p : α → Bool} {q : Nat → Bool} (h : ∀ k, k < l.length → q k = p (l.getD k z)) : ((List.range l.length).filter q).map (fun k => l.getD k z) = l.filter p := by
 have e : (List.range l.length).filter q = (List.range l.length).filter (p ∘ fun k => l.getD k z) := List.filter_congr fun k hk => h k (List.mem_range.1 hk)
 rw [e, ← List.filter_map, range_getD]
/-- A ring meets one ahead of it. -/
def meetsAt (rs : List (List V)) (i : Nat) : Bool := (rs.take i).any fun s => !apartB (rs.getD i []) s
theorem meets_iff {rs : List (List V)} (hr : ∀ r ∈ rs, ringB r = true) : (∀ i, i < rs.length → meetsAt rs i = false) ↔ ApartAll rs := by
 unfold ApartAll
 rw [List.pairwise_iff_getElem]
 constructor
 ·intro h i j hi hj hij
  have h1 := h j hj
  unfold meetsAt at h1
  rw [List.any_eq_false] at h1
  have h2 := h1 (rs[i]) (by rw [List.mem_take_iff_getElem]; exact ⟨i, by omega, rfl⟩)
  rw [List.getD_eq_getElem?_getD, List.getElem?_eq_getElem hj, Option.getD_some] at h2
  rw [apart_sym (hr _ (List.getElem_mem hi)) (hr _ (List.getElem_mem hj))]
  simpa using h2
 ·intro h i hi
  unfold meetsAt
  rw [List.any_eq_false]
  intro s hs
  obtain ⟨k, hk, rfl⟩ := List.mem_take_iff_getElem.1 hs
  have hk2 : k < rs.length := by omega
  have h1 := h k i hk2 hi (by omega)
  rw [apart_sym (hr _ (List.getElem_mem hk2)) (hr _ (List.getElem_mem hi))] at h1
  rw [List.getD_eq_getElem?_getD, List.getElem?_eq_getElem hi, Option.getD_some, h1]
  decide
/-- In how many other rings a ring lies, place by place. -/
def depthAt (rs : List (List V)) (i n : Nat) : Nat := ((List.range n).filter fun k => decide (i ≠ k) && inB (rs.getD i []) (rs.getD k [])).length
theorem depthAt_succ (rs : List (List V)) (i n : Nat) : depthAt rs i (n + 1) = depthAt rs i n + if (decide (i ≠ n) && inB (rs.getD i []) (rs.getD n [])) = true then 1 else 0 := by
 unfold depthAt
 rw [List.range_succ, List.filter_append, List.length_append]
 congr 1
 cases hb : decide (i ≠ n) && inB (rs.getD i []) (rs.getD n []) <;> (rw [List.filter_cons, hb]; rfl)
theorem getD_mem {α : Type} {l : List α} {i : Nat} (h : i < l.length) (z : α) : l.getD i z ∈ l := by
 rw [List.getD_eq_getElem?_getD, List.getElem?_eq_getElem h, Option.getD_some]
 exact List.getElem_mem h
theorem depthAt_eq {rs : List (List V)} (hr : ∀ r ∈ rs, ringB r = true) {i : Nat} (hi : i < rs.length) : depthAt rs i rs.length = depthB rs (rs.getD i []) := by
 unfold depthAt depthB
 rw [← range_filter rs [] (p := fun s => inB (rs.getD i []) s) (q := fun k => decide (i ≠ k) && inB (rs.getD i []) (rs.getD k [])) fun k hk => ?_, List.length_map]
 by_cases e : i = k
 ·subst e
  rw [in_self (hr _ (getD_mem hi []))]
  simp
 ·simp [e]
theorem outersAt_eq {rs : List (List V)} (hr : ∀ r ∈ rs, ringB r = true) : ((List.range rs.length).filter fun i => decide (depthAt rs i rs.length % 2 = 0)).map (fun i => rs.getD i []) = outersB rs :=
 range_filter rs [] fun k hk => by rw [depthAt_eq hr hk]
theorem holesAt_eq {rs : List (List V)} (hr : ∀ r ∈ rs, ringB r = true) {i : Nat} (hi : i < rs.length) : ((List.range rs.length).filter fun k => decide (depthAt rs k rs.length = depthAt rs i rs.length + 1) && inB (rs.getD k []) (rs.getD i [])).map (fun k => rs.getD k []) = holesB rs (rs.getD i []) :=
 range_filter rs [] fun k hk => by rw [depthAt_eq hr hk, depthAt_eq hr hi]
end Go.Proofs.YtnmmhcchpcbeeaaGreat.Ge

namespace Go.Proofs.YtnmmhcchpcbeeaaGreat.Ge
open Go
theorem getD_map {α : Type} (f : α → List V) (l : List α) {i : Nat} (h : i < l.length) : (l.map f).getD i [] = f l[i] := by
 rw [List.getD_eq_getElem?_getD, List.getElem?_eq_getElem (by simpa using h), Option.getD_some, List.getElem_map]
/-- The depths while they are counted: at place i, against the first k rings. -/
def depthN (rs : List (List V)) (n i k j : Nat) : Nat := if j < i then depthAt rs j n else if j = i then depthAt rs i k else 0
def depthRow (rs : List (List V)) (n i k : Nat) : List Value := (List.range n).map fun j => .int .i64 (depthN rs n i k j : Int)
theorem depthRow_len (rs : List (List V)) (n i k : Nat) : (depthRow rs n i k).length = n := by simp [depthRow]
theorem depthRow_zero (rs : List (List V)) (n : Nat) : depthRow rs n 0 0 = List.replicate n (.int .i64 0) := by
 refine List.ext_getElem (by simp [depthRow]) fun j h1 h2 => ?_
 simp only [depthRow, depthN, List.getElem_map, List.getElem_range, Nat.not_lt_zero, if_false, List.getElem_replicate]
 split <;> rfl
theorem depthRow_next (rs : List (List V)) (n i : Nat) : depthRow rs n i n = depthRow rs n (i + 1) 0 := by
 unfold depthRow
 refine List.map_congr_left fun j _ => ?_
 congr 2
 unfold depthN
 rcases Nat.lt_trichotomy j i with h | h | h
 ·rw [if_pos h, if_pos (by omega)]
 ·subst h; rw [if_neg (Nat.lt_irrefl _), if_pos rfl, if_pos (Nat.lt_succ_self _)]
 ·rw [if_neg (by omega), if_neg (by omega), if_neg (by omega)]
  split
  ·rfl
  ·rfl
theorem depthRow_same (rs : List (List V)) (n i k : Nat) (h : (decide (i ≠ k) && inB (rs.getD i []) (rs.getD k [])) = false) : depthRow rs n i k = depthRow rs n i (k + 1) := by
 unfold depthRow
 refine List.map_congr_left fun j _ => ?_
 congr 2
 unfold depthN
 rw [depthAt_succ, h]
 rfl
theorem depthRow_get (rs : List (List V)) (n i k j : Nat) (h : j < n) : (depthRow rs n i k).toArray[j]? = some (.int .i64 (depthN rs n i k j : Int)) := by
 rw [List.getElem?_toArray, List.getElem?_eq_getElem (by rw [depthRow_len]; exact h)]
 unfold depthRow
 rw [List.getElem_map, List.getElem_range]
theorem depthN_at (rs : List (List V)) (n i k : Nat) : depthN rs n i k i = depthAt rs i k := by
 unfold depthN
 rw [if_neg (Nat.lt_irrefl _), if_pos rfl]
theorem depthN_done (rs : List (List V)) {n j : Nat} (h : j < n) : depthN rs n n 0 j = depthAt rs j n := by
 unfold depthN
 rw [if_pos h]
theorem depthRow_set (rs : List (List V)) (n i k : Nat) (h : (decide (i ≠ k) && inB (rs.getD i []) (rs.getD k [])) = true) : (depthRow rs n i k).toArray.setIfInBounds i (.int .i64 ((depthAt rs i k : Int) + 1)) = (depthRow rs n i (k + 1)).toArray := by
 refine Array.ext (by simp [depthRow]) fun j h1 h2 => ?_
 have hj : j < n := by simpa [depthRow] using h2
 have e2 := depthRow_get rs n i (k + 1) j hj
 rw [Array.getElem?_eq_getElem (by simpa [depthRow] using hj)] at e2
 injection e2 with e2
 rw [e2]
 by_cases e : i = j
 ·subst e
  rw [Array.getElem_setIfInBounds_self, depthN_at, depthAt_succ, if_pos h]
  rfl
 ·rw [Array.getElem_setIfInBounds_ne (by simpa [depthRow] using hj) e]
  have e1 := depthRow_get rs n i k j hj
  rw [Array.getElem?_eq_getElem (by simpa [depthRow] using hj)] at e1
  injection e1 with e1
  rw [e1]
  congr 2
  unfold depthN
  rw [if_neg (fun h : j = i => e h.symm), if_neg (fun h : j = i => e h.symm)]
theorem depthAt_le (rs : List (List V)) (i n : Nat) : depthAt rs i n ≤ n := by
 unfold depthAt
 have := List.length_filter_le (fun k => decide (i ≠ k) && inB (rs.getD i []) (rs.getD k [])) (List.range n)
 simpa using this
/-- The shapes that the first i rings gave. -/
def evenAt (rs : List (List V)) (j : Nat) : Bool := decide (depthAt rs j rs.length % 2 = 0)
def doneAt (rs : List (List V)) (i : Nat) : List (List V × List (List V)) := ((List.range i).filter (evenAt rs)).map fun j => canonOf rs (rs.getD j [])
theorem doneAt_odd (rs : List (List V)) (i : Nat) (h : evenAt rs i = false) : doneAt rs (i + 1) = doneAt rs i := by
 unfold doneAt
 rw [List.range_succ, List.filter_append, List.filter_cons, h]
 simp
theorem doneAt_even (rs : List (List V)) (i : Nat) (h : evenAt rs i = true) : doneAt rs (i + 1) = doneAt rs i ++ [canonOf rs (rs.getD i [])] := by
 unfold doneAt
 rw [List.range_succ, List.filter_append, List.filter_cons, h]
 simp
theorem doneAt_all {rs : List (List V)} (hr : ∀ r ∈ rs, ringB r = true) : doneAt rs rs.length = (outersB rs).map (canonOf rs) := by
 rw [← outersAt_eq hr, List.map_map]
 rfl
/-- The holes of ring i among the first k rings. -/
def holeAt (rs : List (List V)) (i k : Nat) : Bool := decide (depthAt rs k rs.length = depthAt rs i rs.length + 1) && inB (rs.getD k []) (rs.getD i [])
def holesTo (rs : List (List V)) (i k : Nat) : List (List V) := ((List.range k).filter (holeAt rs i)).map fun k => rs.getD k []
theorem holesTo_no (rs : List (List V)) (i k : Nat) (h : holeAt rs i k = false) : holesTo rs i (k + 1) = holesTo rs i k := by
 unfold holesTo
 rw [List.range_succ, List.filter_append, List.filter_cons, h]
 simp
theorem holesTo_yes (rs : List (List V)) (i k : Nat) (h : holeAt rs i k = true) : holesTo rs i (k + 1) = holesTo rs i k ++ [rs.getD k []] := by
 unfold holesTo
 rw [List.range_succ, List.filter_append, List.filter_cons, h]
 simp
theorem holesTo_all {rs : List (List V)} (hr : ∀ r ∈ rs, ringB r = true) {i : Nat} (hi : i < rs.length) : holesTo rs i rs.length = holesB rs (rs.getD i []) := holesAt_eq hr hi
theorem even_outer {rs : List (List V)} (hr : ∀ r ∈ rs, ringB r = true) {r : List V} : r ∈ outersB rs ↔ ∃ i, i < rs.length ∧ evenAt rs i = true ∧ rs.getD i [] = r := by
 rw [← outersAt_eq hr, List.mem_map]
 constructor
 ·rintro ⟨i, hi, rfl⟩
  rw [List.mem_filter, List.mem_range] at hi
  exact ⟨i, hi.1, hi.2, rfl⟩
 ·rintro ⟨i, h1, h2, rfl⟩
  exact ⟨i, by rw [List.mem_filter, List.mem_range]; exact ⟨h1, h2⟩, rfl⟩
theorem shapesR_meet {rs : List (List V)} (hr : ∀ r ∈ rs, ringB r = true) {i : Nat} (hi : i < rs.length) (h : meetsAt rs i = true) : ShapesR rs 12 [] := by
 have hn : ¬ ApartAll rs := fun hh => by
  rw [(meets_iff hr).2 hh i hi] at h
  cases h
 exact .inr ⟨fun hh => hn hh.1, .inl ⟨rfl, hn⟩, rfl⟩
theorem shapesR_bad {rs : List (List V)} (hr : ∀ r ∈ rs, ringB r = true) {i : Nat} (hi : i < rs.length) (he : evenAt rs i = true) (h : shapeB (rs.getD i []) (holesTo rs i rs.length) = false) (hm : ∀ i, i < rs.length → meetsAt rs i = false) : ShapesR rs 11 [] := by
 refine .inr ⟨fun hh => ?_, .inr ⟨rfl, (meets_iff hr).1 hm⟩, rfl⟩
 have h1 := hh.2 _ ((even_outer hr).2 ⟨i, hi, he, rfl⟩)
 rw [holesTo_all hr hi] at h
 rw [h1] at h
 cases h
theorem shapesR_ok {rs : List (List V)} (hr : ∀ r ∈ rs, ringB r = true) (hm : ∀ i, i < rs.length → meetsAt rs i = false) (hs : ∀ i, i < rs.length → evenAt rs i = true → shapeB (rs.getD i []) (holesTo rs i rs.length) = true) {l : List (List V × List (List V))} (hp : l.Perm (doneAt rs rs.length)) (ha : AscS l) : ShapesR rs 0 l := by
 refine .inl ⟨(meets_iff hr).1 hm, fun r hm => ?_, rfl, ?_, ha⟩
 ·obtain ⟨i, hi, he, rfl⟩ := (even_outer hr).1 hm
  rw [← holesTo_all hr hi]
  exact hs i hi he
 ·rw [← doneAt_all hr]; exact hp
theorem ringsGo_len (ps : List Pass) : ∀ (its : List Itm) (u : Nat → Bool) (acc : List (List V)), (ringsGo ps its u acc).2.length ≤ acc.length + its.length
 | [], u, acc => Nat.le_refl _
 | .ring l :: its, u, acc => by
  rw [ringsGo]
  split
  ·have := ringsGo_len ps its u (acc ++ [cleanR l])
   simp only [List.length_append, List.length_cons, List.length_nil] at this ⊢
   omega
  ·exact Nat.zero_le _
 | .chain n :: its, u, acc => by
  rw [ringsGo]
  split
  ·have := ringsGo_len ps its u acc
   simp only [List.length_cons] at this ⊢
   omega
  ·split
   ·have := ringsGo_len ps its (chainL ps u n).2 (acc ++ [cleanR (chainL ps u n).1])
    simp only [List.length_append, List.length_cons, List.length_nil] at this ⊢
    omega
   ·exact Nat.zero_le _
theorem gather_len (fl : Ent → List V) (layer : List UInt8) : ∀ (d : List Ent) (st : List Pass × List Itm), (d.foldl (gatherS fl layer) st).2.length ≤ st.2.length + d.length
 | [], st => Nat.le_refl _
 | x :: d, st => by
  rw [List.foldl_cons]
  have h := gather_len fl layer d (gatherS fl layer st x)
  have h2 : (gatherS fl layer st x).2.length ≤ st.2.length + 1 := by
   unfold gatherS
   split
   ·split <;> simp
   ·omega
  rw [List.length_cons]
  omega
/-- At most so many rings as entities. -/
theorem ringsP_few (fl : Ent → List V) (d : List Ent) (layer : List UInt8) (tol : Int) : (ringsP fl d layer tol).2.length ≤ 200 := by
 unfold ringsP
 split
 ·rename_i hd
  have h200 : d.length ≤ 200 := by
   unfold drawOk at hd
   rw [Bool.and_eq_true, decide_eq_true_eq] at hd
   exact hd.1
  split
  ·exact Nat.zero_le _
  ·split
   ·have h1 := ringsGo_len (gather fl layer d).1 (gather fl layer d).2 (fun _ => false) []
    have h2 := gather_len fl layer d ([], [])
    unfold gather at h1 ⊢
    simp only [List.length_nil] at h1 h2
    omega
   ·exact Nat.zero_le _
 ·exact Nat.zero_le _
end Go.Proofs.YtnmmhcchpcbeeaaGreat.Ge
