/- Plain: the text of a leaf, number by number. Conditions: none. -/
import Derived.Test.YtjjohllfidmkjaaDoorPfX3
namespace Go.Proofs.YtjjohllfidmkjaaDoor.Pf
open Go
theorem tailText_snoc : ∀ (l : List Int) (n : Int), tailText (l ++ [n]) = tailText l ++ (32 :: Lib.itoa n)
  | [], n => by simp [tailText]
  | m :: l, n => by
    show 32 :: Lib.itoa m ++ tailText (l ++ [n]) = 32 :: Lib.itoa m ++ tailText l ++ (32 :: Lib.itoa n)
    rw [tailText_snoc l n, List.append_assoc]
theorem leafText_snoc (l : List Int) (n : Int) : leafText (l ++ [n]) = leafText l ++ (if 0 < l.length then 32 :: Lib.itoa n else Lib.itoa n) := by
  cases l with
  | nil => simp [leafText]
  | cons m l =>
    rw [List.cons_append, leafText_cons, leafText_cons, tailText_snoc, if_pos (by simp), List.append_assoc]
theorem leafText_take (l : List Int) (j : Nat) (h : j < l.length) : leafText (l.take (j + 1)) = leafText (l.take j) ++ (if 0 < j then 32 :: Lib.itoa l[j] else Lib.itoa l[j]) := by
  rw [List.take_succ_eq_append_getElem h, leafText_snoc]
  congr 1
  simp only [List.length_take]
  by_cases h0 : 0 < j
  · rw [if_pos h0, if_pos (by omega)]
  · rw [if_neg h0, if_neg (by omega)]
/-- A leaf's text is short. -/
theorem leafText_len (l : List Int) (hs : l.all smallB = true) : (leafText l).length ≤ 12 * l.length := by
  have ht : ∀ l : List Int, l.all smallB = true → (tailText l).length ≤ 12 * l.length := by
    intro l
    induction l with
    | nil => intro _; simp [tailText]
    | cons n l ih =>
      intro h
      simp only [List.all_cons, Bool.and_eq_true] at h
      have h1 := ih h.2
      have h2 := (itoa_len h.1).2
      unfold tailText
      simp only [List.length_append, List.length_cons]
      omega
  cases l with
  | nil => simp [leafText]
  | cons n l =>
    simp only [List.all_cons, Bool.and_eq_true] at hs
    rw [leafText_cons]
    have h1 := ht l hs.2
    have h2 := (itoa_len hs.1).2
    simp only [List.length_append, List.length_cons]
    omega
theorem kidsText_take (ks : List T) (j : Nat) (h : j < ks.length) : kidsText (ks.take (j + 1)) = kidsText (ks.take j) ++ (32 :: text ks[j]) := by
  have hs : ∀ (l : List T) (k : T), kidsText (l ++ [k]) = kidsText l ++ (32 :: text k) := by
    intro l k
    induction l with
    | nil => simp [kidsText]
    | cons m l ih => simp [kidsText, ih]
  rw [List.take_succ_eq_append_getElem h, hs]
mutual
/-- The text of a well-formed tree is short. -/
theorem text_len : ∀ t : T, allB t = true → (text t).length + 1 ≤ 600 * nodes t
  | .mk s ks lf, h => by
    obtain ⟨hnd, hak⟩ := all_parts h
    unfold nodeB at hnd
    unfold nodes
    by_cases h0 : ks.length = 0
    · rw [if_neg (by omega)] at hnd
      simp only [Bool.and_eq_true, decide_eq_true_eq] at hnd
      have h1 := leafText_len lf hnd.2
      have ht : text (.mk s ks lf) = 40 :: leafText lf ++ [41] := by unfold text; exact if_pos h0
      rw [ht]
      simp only [List.length_append, List.length_cons, List.length_nil]
      omega
    · rw [if_pos (by omega)] at hnd
      simp only [Bool.and_eq_true, decide_eq_true_eq] at hnd
      have h1 := (itoa_len hnd.2).2
      have h2 := kidsText_len ks hak
      have ht : text (.mk s ks lf) = 91 :: Lib.itoa s ++ kidsText ks ++ [93] := by unfold text; exact if_neg h0
      rw [ht]
      simp only [List.length_append, List.length_cons, List.length_nil]
      omega
theorem kidsText_len : ∀ ks : List T, allL ks = true → (kidsText ks).length ≤ 600 * nodesL ks
  | [], _ => by simp [kidsText]
  | k :: ks, h => by
    unfold allL at h
    simp only [Bool.and_eq_true] at h
    have h1 := text_len k h.1
    have h2 := kidsText_len ks h.2
    unfold kidsText nodesL
    simp only [List.length_append, List.length_cons]
    omega
end
end Go.Proofs.YtjjohllfidmkjaaDoor.Pf
