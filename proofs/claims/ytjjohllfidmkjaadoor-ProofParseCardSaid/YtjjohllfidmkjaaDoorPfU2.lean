/- The reference's reader of trees reads what the program's reads, in plain Lean. Conditions: none. -/
import Derived.Test.YtjjohllfidmkjaaDoorPfX2
import Derived.Test.YtjjohllfidmkjaaDoorPfM1

namespace Go.Proofs.YtjjohllfidmkjaaDoor.Pf
open Go
def isDig (c : UInt8) : Bool := decide (48 ≤ c.toNat) && decide (c.toNat ≤ 57)
/-- The digits taken behind a number n, as long as it is small. -/
def rDig : Nat → List UInt8 → Nat × List UInt8
  | n, [] => (n, [])
  | n, c :: r => if isDig c && decide (n ≤ 1073741824) then rDig (10 * n + (c.toNat - 48)) r else (n, c :: r)
def val10 : Nat → List UInt8 → Nat
  | n, [] => n
  | n, c :: r => val10 (10 * n + (c.toNat - 48)) r
def rNumD (neg : Bool) (s : List UInt8) : Option (Int × List UInt8) :=
  if (rDig 0 s).2.length = s.length ∨ 1073741824 < (rDig 0 s).1 ∨ hp s 48 = true ∧ ((rDig 0 s).2.length + 1 < s.length ∨ neg = true) then none
  else some (if neg then -((rDig 0 s).1 : Int) else ((rDig 0 s).1 : Int), (rDig 0 s).2)
def rNum (s : List UInt8) : Option (Int × List UInt8) := rNumD (hp s 45) (tp s 45)
def rLeaf : Nat → List Int → List UInt8 → Option (List Int × List UInt8)
  | 0, _, _ => none
  | f + 1, acc, s =>
    if hp s 41 = true then some (acc, tp s 41)
    else if 0 < acc.length ∧ hp s 32 = false then none
    else match rNum (if 0 < acc.length then tp s 32 else s) with
      | none => none
      | some (n, r2) => rLeaf f (acc ++ [n]) r2
mutual
def rTree : Nat → Nat → List UInt8 → Option (T × List UInt8)
  | 0, _, _ => none
  | f + 1, d, s =>
    if 40 < d then none
    else if hp s 40 = true then match rLeaf f [] (tp s 40) with
        | none => none
        | some (l, r2) => some (.mk 0 [] l, r2)
    else if hp s 91 = true then match rNum (tp s 91) with
        | none => none
        | some (x, r2) => match rKids f d [] r2 with
          | none => none
          | some (ks, r3) => if ks.length = 0 then none else some (.mk x ks [], r3)
    else none
def rKids : Nat → Nat → List T → List UInt8 → Option (List T × List UInt8)
  | 0, _, _, _ => none
  | f + 1, d, acc, s =>
    if hp s 93 = true then some (acc, tp s 93)
    else if hp s 32 = false then none
    else match rTree f (d + 1) (tp s 32) with
      | none => none
      | some (k, r2) => rKids f d (acc ++ [k]) r2
end
def rParse (s : List UInt8) : Option T := match rTree (s.length + 1) 1 s with
  | some (t, r) => if r = [] ∧ validB t = true then some t else none
  | none => none

/-! ### Numbers -/
theorem rDig_split : ∀ (s : List UInt8) (n : Nat), ∃ ds, s = ds ++ (rDig n s).2 ∧ ds.all isDig = true ∧ (rDig n s).1 = val10 n ds
  | [], n => ⟨[], rfl, rfl, rfl⟩
  | c :: r, n => by
    unfold rDig
    by_cases h : (isDig c && decide (n ≤ 1073741824)) = true
    · rw [if_pos h]
      obtain ⟨ds, e1, e2, e3⟩ := rDig_split r (10 * n + (c.toNat - 48))
      rw [Bool.and_eq_true] at h
      refine ⟨c :: ds, by rw [List.cons_append, ← e1], by simp [h.1, e2], by rw [e3]; rfl⟩
    · rw [if_neg h]
      exact ⟨[], rfl, rfl, rfl⟩
theorem val10_snoc : ∀ (ds : List UInt8) (n : Nat) (c : UInt8), val10 n (ds ++ [c]) = 10 * val10 n ds + (c.toNat - 48)
  | [], _, _ => rfl
  | d :: ds, n, c => by
    show val10 _ (ds ++ [c]) = _
    rw [val10_snoc ds]
    rfl
theorem val10_le : ∀ (ds : List UInt8) (n : Nat), n ≤ val10 n ds
  | [], _ => Nat.le_refl _
  | c :: ds, n => by
    have := val10_le ds (10 * n + (c.toNat - 48))
    show n ≤ val10 _ ds
    omega
theorem dig_of {c : UInt8} (h : isDig c = true) : c = UInt8.ofNat (48 + (c.toNat - 48)) ∧ c.toNat - 48 < 10 := by
  unfold isDig at h
  simp only [Bool.and_eq_true, decide_eq_true_eq] at h
  refine ⟨?_, by omega⟩
  apply UInt8.toNat_inj.1
  rw [show 48 + (c.toNat - 48) = c.toNat by omega]
  simp
theorem ofNat_dig (k : Nat) (h : k < 10) : (UInt8.ofNat (48 + k)).toNat = 48 + k := by
  rcases (show k = 0 ∨ k = 1 ∨ k = 2 ∨ k = 3 ∨ k = 4 ∨ k = 5 ∨ k = 6 ∨ k = 7 ∨ k = 8 ∨ k = 9 by omega) with rfl | rfl | rfl | rfl | rfl | rfl | rfl | rfl | rfl | rfl <;> rfl
theorem isDig_of (k : Nat) (h : k < 10) : isDig (UInt8.ofNat (48 + k)) = true := by
  unfold isDig
  rw [ofNat_dig k h]
  simp; omega
theorem decD_small (k : Nat) (h : k < 10) : Lib.decDigits k = [UInt8.ofNat (48 + k)] := by rw [Lib.decDigits, dif_pos h]
theorem decD_step (k : Nat) (h : ¬ k < 10) : Lib.decDigits k = Lib.decDigits (k / 10) ++ [UInt8.ofNat (48 + k % 10)] := by rw [Lib.decDigits, dif_neg h]
/-- Digits without a nought ahead are the notation of their value. -/
theorem dec_val : ∀ (m : Nat) (ds : List UInt8), ds.length ≤ m → ds.all isDig = true → ds ≠ [] → (hp ds 48 = true → ds.length = 1) → Lib.decDigits (val10 0 ds) = ds ∧ (hp ds 48 = false → 1 ≤ val10 0 ds)
  | 0, ds, h, _, hne, _ => absurd (List.eq_nil_of_length_eq_zero (by omega)) hne
  | m + 1, ds, h, hd, hne, hz => by
    rcases List.eq_nil_or_concat ds with h0 | ⟨ds', c, rfl⟩
    · exact absurd h0 hne
    rw [List.concat_eq_append] at h hd hne hz ⊢
    simp only [List.all_append, List.all_cons, List.all_nil, Bool.and_true, Bool.and_eq_true] at hd
    obtain ⟨hc, hc10⟩ := dig_of hd.2
    rw [val10_snoc]
    cases ds' with
    | nil =>
      simp only [List.nil_append]
      have e : val10 0 [] = 0 := rfl
      rw [e, Nat.mul_zero, Nat.zero_add, decD_small _ hc10, ← hc]
      refine ⟨rfl, fun hq => ?_⟩
      rw [hp_cons] at hq
      rcases Nat.eq_zero_or_pos (c.toNat - 48) with h1 | h1
      · rw [h1] at hc
        rw [hc] at hq
        exact absurd hq (by decide)
      · exact h1
    | cons a ds'' =>
      have hza : hp (a :: ds'') 48 = false := by
        cases hq : hp (a :: ds'') 48
        · rfl
        · have : hp ((a :: ds'') ++ [c]) 48 = true := by rw [List.cons_append, hp_cons]; rw [hp_cons] at hq; exact hq
          have := hz this
          simp at this
      obtain ⟨h1, h2⟩ := dec_val m (a :: ds'') (by simp at h; simp; omega) hd.1 (by simp) (fun hq => by rw [hza] at hq; cases hq)
      have h3 := h2 hza
      refine ⟨?_, fun _ => by omega⟩
      rw [decD_step _ (by omega), show (10 * val10 0 (a :: ds'') + (c.toNat - 48)) / 10 = val10 0 (a :: ds'') by omega, show (10 * val10 0 (a :: ds'') + (c.toNat - 48)) % 10 = c.toNat - 48 by omega, h1, ← hc]
theorem hp_append {a b : List UInt8} {c : UInt8} (h : a ≠ []) : hp (a ++ b) c = hp a c := by
  cases a with
  | nil => exact absurd rfl h
  | cons x r => rw [List.cons_append, hp_cons, hp_cons]
theorem rNum_some {s : List UInt8} {n : Int} {r : List UInt8} (h : rNum s = some (n, r)) : s = Lib.itoa n ++ r ∧ smallB n = true := by
  unfold rNum rNumD at h
  obtain ⟨ds, e1, e2, e3⟩ := rDig_split (tp s 45) 0
  generalize hg : rDig 0 (tp s 45) = g at *
  split at h
  · cases h
  · rename_i hc
    have hlen := congrArg List.length e1
    rw [List.length_append] at hlen
    have hc1 : ¬ g.2.length = (tp s 45).length := fun h => hc (.inl h)
    have hc2 : ¬ 1073741824 < g.1 := fun h => hc (.inr (.inl h))
    have hc3 : ¬ (hp (tp s 45) 48 = true ∧ (g.2.length + 1 < (tp s 45).length ∨ hp s 45 = true)) := fun h => hc (.inr (.inr h))
    have hne : ds ≠ [] := by
      rintro rfl
      simp at hlen
      exact hc1 hlen.symm
    rw [e1, hp_append hne, ← e1] at hc3
    have hz : hp ds 48 = true → ds.length = 1 := fun hq => by
      have : ¬ (g.2.length + 1 < (tp s 45).length) := fun h => hc3 ⟨hq, .inl h⟩
      have : ds.length ≠ 0 := fun h => hne (List.eq_nil_of_length_eq_zero h)
      omega
    obtain ⟨hdv, hpos⟩ := dec_val ds.length ds (Nat.le_refl _) e2 hne hz
    rw [← e3] at hdv hpos
    simp only [Option.some.injEq, Prod.mk.injEq] at h
    obtain ⟨rfl, rfl⟩ := h
    cases hn : hp s 45
    · rw [tp_no hn] at e1
      simp only [Bool.false_eq_true, if_false]
      refine ⟨?_, ?_⟩
      · unfold Lib.itoa
        rw [if_neg (by omega), Int.toNat_natCast, hdv]
        exact e1
      · unfold smallB
        simp only [Bool.and_eq_true, decide_eq_true_eq]
        omega
    · simp only [if_true]
      have hz0 : hp ds 48 = false := by
        cases hq : hp ds 48
        · rfl
        · exact absurd ⟨hq, .inr hn⟩ hc3
      have h1 := hpos hz0
      refine ⟨?_, ?_⟩
      · unfold Lib.itoa
        rw [if_pos (by omega), show (-(g.1 : Int)).natAbs = g.1 by omega, hdv, List.cons_append, ← e1]
        exact tp_yes hn
      · unfold smallB
        simp only [Bool.and_eq_true, decide_eq_true_eq]
        omega
theorem rDig_run : ∀ (ds : List UInt8) (n : Nat) (r : List UInt8), ds.all isDig = true → val10 n ds ≤ 1073741824 → (∀ c r', r = c :: r' → isDig c = false) → rDig n (ds ++ r) = (val10 n ds, r)
  | [], n, r, _, _, hr => by
    rw [List.nil_append]
    cases r with
    | nil => rfl
    | cons c r' =>
      unfold rDig
      rw [hr c r' rfl, Bool.false_and, if_neg (by simp)]
      rfl
  | c :: ds, n, r, hd, hv, hr => by
    simp only [List.all_cons, Bool.and_eq_true] at hd
    have h1 := val10_le ds (10 * n + (c.toNat - 48))
    have hv' : val10 (10 * n + (c.toNat - 48)) ds ≤ 1073741824 := hv
    rw [List.cons_append]
    unfold rDig
    rw [if_pos (by rw [hd.1]; simp; omega), rDig_run ds _ r hd.2 hv' hr]
    rfl
theorem dec_all (m : Nat) : ∀ k, k ≤ m → (Lib.decDigits k).all isDig = true ∧ val10 0 (Lib.decDigits k) = k ∧ (1 ≤ k → hp (Lib.decDigits k) 48 = false) ∧ Lib.decDigits k ≠ [] := by
  induction m with
  | zero =>
    intro k hk
    obtain rfl : k = 0 := by omega
    rw [decD_small 0 (by omega)]
    exact ⟨by decide, by decide, by omega, by simp⟩
  | succ m ih =>
    intro k hk
    by_cases h : k < 10
    · rw [decD_small k h]
      refine ⟨by rw [List.all_cons, isDig_of k h]; rfl, ?_, fun h1 => ?_, by simp⟩
      · show 10 * 0 + ((UInt8.ofNat (48 + k)).toNat - 48) = k
        rw [ofNat_dig k h]; omega
      · rw [hp_cons]
        rw [beq_eq_false_iff_ne]
        intro e
        have := congrArg UInt8.toNat e
        rw [ofNat_dig k h] at this
        simp at this
        omega
    · rw [decD_step k h]
      obtain ⟨h1, h2, h3, h4⟩ := ih (k / 10) (by omega)
      refine ⟨by rw [List.all_append, h1, List.all_cons, isDig_of (k % 10) (by omega)]; rfl, ?_, fun _ => ?_, by simp⟩
      · rw [val10_snoc, h2, ofNat_dig _ (by omega)]; omega
      · rw [hp_append h4]; exact h3 (by omega)
theorem rNum_back {n : Int} (h : smallB n = true) {c : UInt8} {r : List UInt8} (hc : isDig c = false) (_h45 : c ≠ 45) : rNum (Lib.itoa n ++ c :: r) = some (n, c :: r) := by
  unfold smallB at h
  simp only [Bool.and_eq_true, decide_eq_true_eq] at h
  have hd : ∀ c' r', c :: r = c' :: r' → isDig c' = false := fun c' r' e => by cases e; exact hc
  by_cases hn : n < 0
  · obtain ⟨h1, h2, h3, h4⟩ := dec_all n.natAbs n.natAbs (Nat.le_refl _)
    have e : Lib.itoa n ++ c :: r = 45 :: (Lib.decDigits n.natAbs ++ c :: r) := by unfold Lib.itoa; rw [if_pos hn]; rfl
    have hrun := rDig_run (Lib.decDigits n.natAbs) 0 (c :: r) h1 (by rw [h2]; omega) hd
    have hl : (Lib.decDigits n.natAbs).length ≠ 0 := fun hq => h4 (List.eq_nil_of_length_eq_zero hq)
    unfold rNum
    rw [e, hp_cons, tp_self]
    unfold rNumD
    rw [hrun, h2, hp_append h4, h3 (by omega)]
    rw [if_neg]
    · simp; omega
    · simp only [List.length_append, List.length_cons]
      intro hq
      rcases hq with hq | hq | hq
      · omega
      · omega
      · cases hq.1
  · obtain ⟨k, rfl⟩ := Int.eq_ofNat_of_zero_le (by omega : 0 ≤ n)
    obtain ⟨h1, h2, h3, h4⟩ := dec_all k k (Nat.le_refl _)
    have e : Lib.itoa (k : Int) = Lib.decDigits k := by unfold Lib.itoa; rw [if_neg hn, Int.toNat_natCast]
    have hrun := rDig_run (Lib.decDigits k) 0 (c :: r) h1 (by rw [h2]; omega) hd
    have hl : (Lib.decDigits k).length ≠ 0 := fun hq => h4 (List.eq_nil_of_length_eq_zero hq)
    have h45 : hp (Lib.decDigits k ++ c :: r) 45 = false := by
      rw [hp_append h4]
      cases hq : Lib.decDigits k with
      | nil => exact absurd hq h4
      | cons x xs =>
        rw [hq] at h1
        simp only [List.all_cons, Bool.and_eq_true] at h1
        rw [hp_cons, beq_eq_false_iff_ne]
        rintro rfl
        exact absurd h1.1 (by decide)
    unfold rNum
    rw [e, h45, tp_no h45]
    unfold rNumD
    rw [hrun, h2, hp_append h4]
    rw [if_neg]
    · simp
    · simp only [List.length_append, List.length_cons]
      intro hq
      rcases hq with hq | hq | ⟨hq, hq2⟩
      · omega
      · omega
      · rcases hq2 with hq2 | hq2
        · by_cases hk : 1 ≤ k
          · rw [h3 hk] at hq; cases hq
          · obtain rfl : k = 0 := by omega
            rw [decD_small 0 (by omega)] at hq2
            simp only [List.length_cons, List.length_nil] at hq2
            omega
        · cases hq2
theorem rNum_len {s : List UInt8} {n : Int} {r : List UInt8} (h : rNum s = some (n, r)) : r.length < s.length := by
  obtain ⟨h1, h2⟩ := rNum_some h
  have h3 := (itoa_len h2).1
  rw [h1, List.length_append]
  omega
end Go.Proofs.YtjjohllfidmkjaaDoor.Pf

namespace Go.Proofs.YtjjohllfidmkjaaDoor.Pf
open Go
open PfW (len_nodes)
theorem rLeaf_some : ∀ (f : Nat) (acc : List Int) (s : List UInt8) (l : List Int) (r : List UInt8), rLeaf f acc s = some (l, r) →
    ∃ l2, l = acc ++ l2 ∧ l2.all smallB = true ∧ s = (if 0 < acc.length then tailText l2 else leafText l2) ++ 41 :: r
  | 0, _, _, _, _, h => by unfold rLeaf at h; cases h
  | f + 1, acc, s, l, r, h => by
    rw [rLeaf] at h
    by_cases h1 : hp s 41 = true
    · rw [if_pos h1] at h
      cases h
      refine ⟨[], by simp, rfl, ?_⟩
      have := tp_yes h1
      split <;> simpa [tailText, leafText] using this
    · rw [if_neg h1] at h
      by_cases h2 : 0 < acc.length ∧ hp s 32 = false
      · rw [if_pos h2] at h; cases h
      · rw [if_neg h2] at h
        cases hn : rNum (if 0 < acc.length then tp s 32 else s) with
        | none => rw [hn] at h; cases h
        | some p =>
          obtain ⟨n, r2⟩ := p
          rw [hn] at h
          simp only at h
          obtain ⟨e1, hs⟩ := rNum_some hn
          obtain ⟨l2, e2, hl2, e3⟩ := rLeaf_some f (acc ++ [n]) r2 l r h
          rw [if_pos (by simp)] at e3
          refine ⟨n :: l2, by rw [e2]; simp, by simp [hs, hl2], ?_⟩
          by_cases h0 : 0 < acc.length
          · rw [if_pos h0] at e1 ⊢
            have h32 : hp s 32 = true := by
              cases hh : hp s 32
              · exact absurd ⟨h0, hh⟩ h2
              · rfl
            rw [tp_yes h32, e1, e3]
            simp [tailText]
          · rw [if_neg h0] at e1 ⊢
            rw [e1, e3, leafText_cons]
            simp
theorem rLeaf_len {f : Nat} {acc : List Int} {s : List UInt8} {l : List Int} {r : List UInt8} (h : rLeaf f acc s = some (l, r)) : r.length < s.length ∧ l.length + r.length ≤ acc.length + s.length := by
  obtain ⟨l2, e, hs, e3⟩ := rLeaf_some f acc s l r h
  have h1 : l2.length ≤ (if 0 < acc.length then tailText l2 else leafText l2).length := by
    split
    · exact tail_len l2
    · exact leaf_len l2 hs
  have h2 := congrArg List.length e3
  have h3 := congrArg List.length e
  simp only [List.length_append, List.length_cons] at h2 h3
  omega
mutual
theorem rTree_some : ∀ (f d : Nat) (s : List UInt8) (t : T) (r : List UInt8), rTree f d s = some (t, r) → s = text t ++ r ∧ (s.length ≤ 1000000 → Fit t) ∧ nodes t + r.length ≤ s.length
  | 0, _, _, _, _, h => by unfold rTree at h; cases h
  | f + 1, d, s, t, r, h => by
    rw [rTree] at h
    by_cases h1 : 40 < d
    · rw [if_pos h1] at h; cases h
    · rw [if_neg h1] at h
      by_cases h2 : hp s 40 = true
      · rw [if_pos h2] at h
        cases hl : rLeaf f [] (tp s 40) with
        | none => rw [hl] at h; cases h
        | some p =>
          obtain ⟨l, r2⟩ := p
          rw [hl] at h
          cases h
          have hll := rLeaf_len hl
          have htl := tp_len h2
          obtain ⟨l2, e2, hl2, e3⟩ := rLeaf_some f [] _ _ _ hl
          simp only [List.nil_append] at e2
          subst e2
          rw [if_neg (by simp)] at e3
          refine ⟨?_, fun hs => ?_, ?_⟩
          · rw [tp_yes h2, e3]
            have ht : text (.mk 0 [] l) = 40 :: leafText l ++ [41] := by unfold text; exact if_pos rfl
            rw [ht]
            simp
          · simp only [List.length_nil] at hll
            unfold Fit FitL
            exact ⟨by simp, by omega, trivial⟩
          · have : nodes (.mk 0 [] l) = 1 := by simp [nodes, nodesL]
            omega
      · rw [if_neg h2] at h
        by_cases h3 : hp s 91 = true
        · rw [if_pos h3] at h
          cases hn : rNum (tp s 91) with
          | none => rw [hn] at h; cases h
          | some p =>
            obtain ⟨x, r2⟩ := p
            rw [hn] at h
            simp only at h
            cases hk : rKids f d [] r2 with
            | none => rw [hk] at h; cases h
            | some q =>
              obtain ⟨ks, r3⟩ := q
              rw [hk] at h
              simp only at h
              by_cases h0 : ks.length = 0
              · rw [if_pos h0] at h; cases h
              · rw [if_neg h0] at h
                cases h
                obtain ⟨e1, hs⟩ := rNum_some hn
                have hnl := rNum_len hn
                have htl := tp_len h3
                obtain ⟨ks2, e2, hfk, hnk, e3⟩ := rKids_some f d [] r2 ks _ hk
                simp only [List.nil_append] at e2
                subst e2
                have hlk := len_nodes ks
                refine ⟨?_, fun hs => ?_, ?_⟩
                · rw [tp_yes h3, e1, e3]
                  have ht : text (.mk x ks []) = 91 :: Lib.itoa x ++ kidsText ks ++ [93] := by unfold text; exact if_neg h0
                  rw [ht]
                  simp
                · unfold Fit
                  exact ⟨by omega, by simp, hfk (by omega)⟩
                · unfold nodes
                  omega
        · rw [if_neg h3] at h; cases h
theorem rKids_some : ∀ (f d : Nat) (acc : List T) (s : List UInt8) (ks : List T) (r : List UInt8), rKids f d acc s = some (ks, r) →
    ∃ ks2, ks = acc ++ ks2 ∧ (s.length ≤ 1000000 → FitL ks2) ∧ nodesL ks2 + r.length < s.length ∧ s = kidsText ks2 ++ 93 :: r
  | 0, _, _, _, _, _, h => by unfold rKids at h; cases h
  | f + 1, d, acc, s, ks, r, h => by
    rw [rKids] at h
    by_cases h1 : hp s 93 = true
    · rw [if_pos h1] at h
      cases h
      have := tp_len h1
      refine ⟨[], by simp, fun _ => by unfold FitL; trivial, by unfold nodesL; omega, ?_⟩
      rw [kidsText]
      exact tp_yes h1
    · rw [if_neg h1] at h
      by_cases h2 : hp s 32 = false
      · rw [if_pos h2] at h; cases h
      · rw [if_neg h2] at h
        have h32 : hp s 32 = true := by simpa using h2
        have htl := tp_len h32
        cases hk : rTree f (d + 1) (tp s 32) with
        | none => rw [hk] at h; cases h
        | some p =>
          obtain ⟨k, r2⟩ := p
          rw [hk] at h
          simp only at h
          obtain ⟨e1, hf1, hn1⟩ := rTree_some f (d + 1) _ k r2 hk
          obtain ⟨ks2, e2, hf2, hn2, e3⟩ := rKids_some f d (acc ++ [k]) r2 ks r h
          refine ⟨k :: ks2, by rw [e2]; simp, fun hs => ?_, by unfold nodesL; omega, ?_⟩
          · unfold FitL
            exact ⟨hf1 (by omega), hf2 (by omega)⟩
          · rw [tp_yes h32, e1, e3]
            rw [kidsText]
            simp
end
theorem rNum_tail {n : Int} (h : smallB n = true) (l : List Int) (r : List UInt8) : rNum (Lib.itoa n ++ (tailText l ++ 41 :: r)) = some (n, tailText l ++ 41 :: r) := by
  cases l with
  | nil => exact rNum_back h (by decide) (by decide)
  | cons m l => exact rNum_back h (by decide) (by decide)
theorem rLeaf_tail : ∀ (l : List Int) (f : Nat) (acc : List Int) (r : List UInt8), l.all smallB = true → 0 < acc.length → l.length < f → rLeaf f acc (tailText l ++ 41 :: r) = some (acc ++ l, r)
  | [], f + 1, acc, r, _, _, _ => by
    show rLeaf (f + 1) acc (41 :: r) = _
    rw [rLeaf, if_pos (by rw [hp_cons]; rfl), tp_self, List.append_nil]
  | n :: l, f + 1, acc, r, hs, ha, hf => by
    simp only [List.all_cons, Bool.and_eq_true] at hs
    simp only [List.length_cons] at hf
    have e : tailText (n :: l) ++ 41 :: r = 32 :: (Lib.itoa n ++ (tailText l ++ 41 :: r)) := by
      show (32 :: Lib.itoa n ++ tailText l) ++ 41 :: r = _
      simp
    rw [e, rLeaf, if_neg (by rw [hp_cons]; decide), if_neg (by rw [hp_cons]; simp), if_pos ha, tp_self, rNum_tail hs.1]
    simp only
    rw [rLeaf_tail l f (acc ++ [n]) r hs.2 (by simp) (by omega)]
    simp
theorem rLeaf_text (l : List Int) (f : Nat) (r : List UInt8) (hs : l.all smallB = true) (hf : l.length < f) : rLeaf f [] (leafText l ++ 41 :: r) = some (l, r) := by
  obtain ⟨f, rfl⟩ : ∃ g, f = g + 1 := ⟨f - 1, by omega⟩
  cases l with
  | nil =>
    show rLeaf (f + 1) [] (41 :: r) = _
    rw [rLeaf, if_pos (by rw [hp_cons]; rfl), tp_self]
  | cons n l =>
    simp only [List.all_cons, Bool.and_eq_true] at hs
    simp only [List.length_cons] at hf
    rw [leafText_cons, List.append_assoc, rLeaf, if_neg (by rw [hp_no (itoa_ne hs.1) (itoa_no n 41 (by decide) (by decide))]; simp), if_neg (by simp), if_neg (by simp), rNum_tail hs.1]
    simp only
    rw [rLeaf_tail l f ([] ++ [n]) r hs.2 (by simp) (by omega)]
    simp
mutual
theorem rTree_text : ∀ (t : T) (f d : Nat) (r : List UInt8), allB t = true → depth t + d ≤ 41 → (text t).length < f → rTree f d (text t ++ r) = some (t, r)
  | .mk s ks lf, f, d, r, ha, hd, hf => by
    obtain ⟨f, rfl⟩ : ∃ g, f = g + 1 := ⟨f - 1, by omega⟩
    obtain ⟨hnd, hak⟩ := all_parts ha
    unfold depth at hd
    unfold nodeB at hnd
    by_cases h0 : ks.length = 0
    · obtain rfl : ks = [] := List.eq_nil_of_length_eq_zero h0
      rw [if_neg (by simp)] at hnd
      simp only [Bool.and_eq_true, decide_eq_true_eq] at hnd
      obtain ⟨⟨hs, hl⟩, hsm⟩ := hnd
      subst hs
      have ht : text (.mk 0 [] lf) = 40 :: leafText lf ++ [41] := by unfold text; exact if_pos rfl
      rw [ht] at hf ⊢
      have hll := leaf_len lf hsm
      simp only [List.length_append, List.length_cons, List.length_nil] at hf
      rw [show (40 :: leafText lf ++ [41]) ++ r = 40 :: (leafText lf ++ 41 :: r) by simp, rTree, if_neg (by omega), if_pos (by rw [hp_cons]; rfl), tp_self, rLeaf_text lf f r hsm (by omega)]
    · rw [if_pos (by omega)] at hnd
      simp only [Bool.and_eq_true, decide_eq_true_eq] at hnd
      obtain ⟨⟨hl, hk⟩, hs⟩ := hnd
      obtain rfl : lf = [] := List.eq_nil_of_length_eq_zero hl
      have ht : text (.mk s ks []) = 91 :: Lib.itoa s ++ kidsText ks ++ [93] := by unfold text; rw [if_neg h0]
      rw [ht] at hf ⊢
      simp only [List.length_append, List.length_cons, List.length_nil] at hf
      have hnum : rNum (Lib.itoa s ++ (kidsText ks ++ 93 :: r)) = some (s, kidsText ks ++ 93 :: r) := by
        match ks, h0 with
        | k :: ks, _ =>
          show rNum (Lib.itoa s ++ 32 :: (text k ++ kidsText ks ++ 93 :: r)) = some (s, 32 :: (text k ++ kidsText ks ++ 93 :: r))
          exact rNum_back hs (by decide) (by decide)
      rw [show (91 :: Lib.itoa s ++ kidsText ks ++ [93]) ++ r = 91 :: (Lib.itoa s ++ (kidsText ks ++ 93 :: r)) by simp, rTree, if_neg (by omega), if_neg (by rw [hp_cons]; decide), if_pos (by rw [hp_cons]; rfl), tp_self, hnum]
      simp only
      rw [rKids_text ks f d [] r hak (by omega) (by omega)]
      simp only [List.nil_append]
      rw [if_neg h0]
theorem rKids_text : ∀ (ks : List T) (f d : Nat) (acc : List T) (r : List UInt8), allL ks = true → depthL ks + (d + 1) ≤ 41 → (kidsText ks).length < f → rKids f d acc (kidsText ks ++ 93 :: r) = some (acc ++ ks, r)
  | [], f, d, acc, r, _, _, hf => by
    obtain ⟨f, rfl⟩ : ∃ g, f = g + 1 := ⟨f - 1, by omega⟩
    show rKids (f + 1) d acc (93 :: r) = _
    rw [rKids, if_pos (by rw [hp_cons]; rfl), tp_self]
    simp
  | k :: ks, f, d, acc, r, ha, hd, hf => by
    obtain ⟨f, rfl⟩ : ∃ g, f = g + 1 := ⟨f - 1, by omega⟩
    unfold allL at ha
    simp only [Bool.and_eq_true] at ha
    unfold depthL at hd
    have e : kidsText (k :: ks) = 32 :: text k ++ kidsText ks := by rw [kidsText]
    rw [e] at hf ⊢
    simp only [List.length_append, List.length_cons] at hf
    rw [show (32 :: text k ++ kidsText ks) ++ 93 :: r = 32 :: (text k ++ (kidsText ks ++ 93 :: r)) by simp, rKids, if_neg (by rw [hp_cons]; decide), if_neg (by rw [hp_cons]; simp), tp_self, rTree_text k f (d + 1) _ ha.1 (by omega) (by omega)]
    simp only
    rw [rKids_text ks f d (acc ++ [k]) r ha.2 (by omega) (by omega)]
    simp only [List.append_assoc, List.singleton_append]
end
/-- The two readers read the same. -/
theorem rParse_eq (s : List UInt8) (hs : s.length ≤ 1000000) : rParse s = pParse s := by
  unfold rParse
  cases hr : rTree (s.length + 1) 1 s with
  | none =>
    cases hp : pParse s with
    | none => rfl
    | some t =>
      obtain ⟨e, hv, hn⟩ := parse_some hp
      unfold validB at hv
      rw [nW_eq t (by omega), (dW_eq t (by omega)).1] at hv
      simp only [Bool.and_eq_true, decide_eq_true_eq] at hv
      have := rTree_text t (s.length + 1) 1 [] hv.2 (by omega) (by rw [e]; omega)
      rw [List.append_nil, ← e, hr] at this
      cases this
  | some p =>
    obtain ⟨t, r⟩ := p
    obtain ⟨e, _, hn⟩ := rTree_some _ _ _ _ _ hr
    simp only
    by_cases h : r = [] ∧ validB t = true
    · rw [if_pos h]
      rw [h.1, List.append_nil] at e
      rw [e, parse_text (by omega) h.2]
    · rw [if_neg h]
      cases hp : pParse s with
      | none => rfl
      | some u =>
        obtain ⟨e2, hv, hn2⟩ := parse_some hp
        have hv2 := hv
        unfold validB at hv
        rw [nW_eq u (by omega), (dW_eq u (by omega)).1] at hv
        simp only [Bool.and_eq_true, decide_eq_true_eq] at hv
        have := rTree_text u (s.length + 1) 1 [] hv.2 (by omega) (by rw [e2]; omega)
        rw [List.append_nil, ← e2, hr] at this
        cases this
        exact absurd ⟨rfl, hv2⟩ h
end Go.Proofs.YtjjohllfidmkjaaDoor.Pf
