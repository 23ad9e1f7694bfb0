/- Counts: the full tree, and what Build makes of a count, in plain Lean. Conditions: none. -/
import Derived.Test.YtjjohllfidmkjaaDoorPfQ1
namespace Go.Proofs.YtjjohllfidmkjaaDoor.Pf
open Go

/-- All leaves on one level, each node with as many kids. -/
def full (k : Nat) : Nat → T
  | 0 => .mk 0 [] [(k : Int)]
  | l + 1 => .mk ((l + 1 : Nat) : Int) (List.replicate k (full k l)) []
def fullN (k : Nat) : Nat → Nat
  | 0 => 1
  | l + 1 => 1 + k * fullN k l
/-- Kids built one behind the other. -/
def loopK (f : Nat → Except Int (T × Nat)) : Nat → List T → Nat → Except Int (List T × Nat)
  | 0, acc, n => .ok (acc, n)
  | j + 1, acc, n => match f n with
    | .error e => .error e
    | .ok (t, n1) => loopK f j (acc ++ [t]) n1
/-- What Build makes of a count on a level, with the number of nodes so far. -/
def bldC (k : Nat) : Nat → Nat → Nat → Except Int (T × Nat)
  | 0, d, n => if 2000 < n + 1 ∨ 40 < d then .error 9 else .ok (.mk 0 [] [(k : Int)], n + 1)
  | l + 1, d, n => if 2000 < n + 1 ∨ 40 < d then .error 9 else if 100 < k then .error 9 else match loopK (bldC k l (d + 1)) k [] (n + 1) with
    | .error e => .error e
    | .ok (ks, n2) => .ok (.mk ((l + 1 : Nat) : Int) ks [], n2)
theorem nodesL_rep (t : T) : ∀ k : Nat, nodesL (List.replicate k t) = k * nodes t
  | 0 => by simp [nodesL]
  | k + 1 => by
    rw [List.replicate_succ]
    unfold nodesL
    rw [nodesL_rep t k, Nat.succ_mul]
    omega
theorem full_nodes (k : Nat) : ∀ l : Nat, nodes (full k l) = fullN k l
  | 0 => by simp [full, fullN, nodes, nodesL]
  | l + 1 => by
    unfold full fullN nodes
    rw [nodesL_rep, full_nodes k l]
theorem depthL_rep (t : T) : ∀ k : Nat, 0 < k → depthL (List.replicate k t) = depth t
  | 0, h => by omega
  | 1, _ => by simp [depthL]
  | k + 2, _ => by
    rw [List.replicate_succ]
    unfold depthL
    rw [depthL_rep t (k + 1) (by omega)]
    omega
theorem full_depth (k : Nat) (hk : 0 < k) : ∀ l : Nat, depth (full k l) = l + 1
  | 0 => by simp [full, depth, depthL]
  | l + 1 => by
    unfold full depth
    rw [depthL_rep _ k hk, full_depth k hk l]
theorem allL_rep (t : T) (h : allB t = true) : ∀ k : Nat, allL (List.replicate k t) = true
  | 0 => by simp [allL]
  | k + 1 => by
    rw [List.replicate_succ]
    unfold allL
    rw [h, allL_rep t h k]
    rfl
theorem full_all (k : Nat) (hk0 : 0 < k) (hk : k ≤ 110) : ∀ l : Nat, l ≤ 45 → (l = 0 ∨ k ≤ 100) → allB (full k l) = true
  | 0, _, _ => by simp [full, allB, allL, nodeB, smallB]; omega
  | l + 1, hl, h => by
    have hk2 : k ≤ 100 := by omega
    have ih := full_all k hk0 hk l (by omega) (.inr hk2)
    unfold full allB
    rw [allL_rep _ ih k, List.length_replicate]
    simp [nodeB, smallB, hk0]
    omega
theorem fullN_pos (k l : Nat) : 1 ≤ fullN k l := by
  cases l <;> simp [fullN]
theorem fullN_mono (k l : Nat) (hk : 0 < k) : fullN k l + 1 ≤ fullN k (l + 1) := by
  have h := fullN_pos k l
  show fullN k l + 1 ≤ 1 + k * fullN k l
  have := Nat.mul_le_mul_right (fullN k l) hk
  omega
theorem loopK_ok {f : Nat → Except Int (T × Nat)} {t : T} {m : Nat} (h : ∀ n, n + m ≤ 2000 → f n = .ok (t, n + m)) : ∀ (j : Nat) (acc : List T) (n : Nat), n + j * m ≤ 2000 → loopK f j acc n = .ok (acc ++ List.replicate j t, n + j * m)
  | 0, acc, n, _ => by simp [loopK]
  | j + 1, acc, n, hn => by
    rw [Nat.succ_mul] at hn
    unfold loopK
    rw [h n (by omega)]
    simp only
    rw [loopK_ok h j _ _ (by omega), List.replicate_succ, List.append_assoc, List.singleton_append]
    congr 2
    rw [Nat.succ_mul]
    omega
theorem loopK_no {f : Nat → Except Int (T × Nat)} {t : T} {m : Nat} (h : ∀ n, n + m ≤ 2000 → f n = .ok (t, n + m)) (h2 : ∀ n, n ≤ 2000 → 2000 < n + m → f n = .error 9) : ∀ (j : Nat) (acc : List T) (n : Nat), n ≤ 2000 → 2000 < n + j * m → loopK f j acc n = .error 9
  | 0, acc, n, h0, hn => by omega
  | j + 1, acc, n, h0, hn => by
    rw [Nat.succ_mul] at hn
    unfold loopK
    by_cases hm : n + m ≤ 2000
    · rw [h n hm]
      simp only
      exact loopK_no h h2 j _ _ hm (by omega)
    · rw [h2 n h0 (by omega)]
theorem loopK_bad {f : Nat → Except Int (T × Nat)} (h : ∀ n, n ≤ 2000 → f n = .error 9) (j : Nat) (hj : 0 < j) (acc : List T) (n : Nat) (hn : n ≤ 2000) : loopK f j acc n = .error 9 := by
  obtain ⟨i, rfl⟩ : ∃ i, j = i + 1 := ⟨j - 1, by omega⟩
  unfold loopK
  rw [h n hn]
/-- The tree is built, or a limit is met. -/
theorem bldC_ok (k : Nat) (hk : 0 < k) : ∀ (l d n : Nat), d + l ≤ 40 → (l = 0 ∨ k ≤ 100) → n + fullN k l ≤ 2000 → bldC k l d n = .ok (full k l, n + fullN k l)
  | 0, d, n, hd, _, hn => by
    unfold fullN at hn
    rw [bldC, if_neg (by omega)]
    rfl
  | l + 1, d, n, hd, hk2, hn => by
    have h1 : n + (1 + k * fullN k l) ≤ 2000 := hn
    have hp := fullN_pos k l
    rw [bldC, if_neg (by omega), if_neg (by omega), loopK_ok (t := full k l) (m := fullN k l) (fun n hn => bldC_ok k hk l (d + 1) n (by omega) (.inr (by omega)) hn) k [] (n + 1) (by omega)]
    simp only [List.nil_append]
    show Except.ok (T.mk _ (List.replicate k (full k l)) [], n + 1 + k * fullN k l) = Except.ok (T.mk _ (List.replicate k (full k l)) [], n + (1 + k * fullN k l))
    rw [Nat.add_assoc]
theorem bldC_no (k : Nat) (hk : 0 < k) : ∀ (l d n : Nat), n ≤ 2000 → d ≤ 41 → (40 < d + l ∨ (l ≠ 0 ∧ 100 < k) ∨ 2000 < n + fullN k l) → bldC k l d n = .error 9
  | 0, d, n, hn, hd, h => by
    unfold fullN at h
    rw [bldC, if_pos (by omega)]
  | l + 1, d, n, hn, hd, h => by
    have h1 : 40 < d + (l + 1) ∨ (l + 1 ≠ 0 ∧ 100 < k) ∨ 2000 < n + (1 + k * fullN k l) := h
    rw [bldC]
    by_cases ho : 2000 < n + 1 ∨ 40 < d
    · rw [if_pos ho]
    · rw [if_neg ho]
      by_cases hk2 : 100 < k
      · rw [if_pos hk2]
      · rw [if_neg hk2]
        by_cases hdd : 40 < d + (l + 1)
        · rw [loopK_bad (fun n hn => bldC_no k hk l (d + 1) n hn (by omega) (.inl (by omega))) k hk [] (n + 1) (by omega)]
        · rw [loopK_no (t := full k l) (m := fullN k l) (fun n hn => bldC_ok k hk l (d + 1) n (by omega) (.inr (by omega)) hn) (fun n hn h2 => bldC_no k hk l (d + 1) n hn (by omega) (.inr (.inr h2))) k [] (n + 1) (by omega) (by omega)]
end Go.Proofs.YtjjohllfidmkjaaDoor.Pf
