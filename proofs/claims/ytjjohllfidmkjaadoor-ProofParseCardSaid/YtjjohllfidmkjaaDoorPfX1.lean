/- The text of a tree is read back, in plain Lean. Conditions: the tree is valid. -/
import Derived.Test.YtjjohllfidmkjaaDoorPfNum
namespace Go.Proofs.YtjjohllfidmkjaaDoor.Pf
open Go

def tailText : List Int → List UInt8
  | [] => []
  | n :: r => 32 :: Lib.itoa n ++ tailText r
theorem leafText_cons : ∀ (r : List Int) (n : Int), leafText (n :: r) = Lib.itoa n ++ tailText r
  | [], n => by simp [leafText, tailText]
  | m :: r, n => by
    have h := leafText_cons r m
    show Lib.itoa n ++ 32 :: leafText (m :: r) = Lib.itoa n ++ (32 :: Lib.itoa m ++ tailText r)
    rw [h]
    rfl
theorem hp_no {l r : List UInt8} {c : UInt8} (h : l ≠ []) (hc : c ∉ l) : hp (l ++ r) c = false := by
  match l, h, hc with
  | x :: l, _, hc =>
    rw [List.cons_append, hp_cons]
    simp only [List.mem_cons, not_or] at hc
    exact beq_eq_false_iff_ne.2 hc.1
theorem itoa_ne {n : Int} (h : smallB n = true) : Lib.itoa n ≠ [] := fun e => by
  have := (itoa_len h).1
  rw [e] at this
  simp at this
theorem pNum_tail {n : Int} (h : smallB n = true) (l : List Int) (r : List UInt8) : pNum (Lib.itoa n ++ (tailText l ++ 41 :: r)) = some (n, tailText l ++ 41 :: r) := by
  cases l with
  | nil => exact pNum_back h (by decide)
  | cons m l => exact pNum_back h (by decide)
theorem pLeaf_tail : ∀ (l : List Int) (f : Nat) (acc : List Int) (r : List UInt8), l.all smallB = true → 0 < acc.length → acc.length + l.length ≤ 40 → l.length < f → pLeaf f acc (tailText l ++ 41 :: r) = some (acc ++ l, r)
  | [], f + 1, acc, r, _, _, _, _ => by
    show pLeaf (f + 1) acc (41 :: r) = _
    rw [pLeaf, if_pos (by rw [hp_cons]; rfl), tp_self, List.append_nil]
  | n :: l, f + 1, acc, r, hs, ha, hb, hf => by
    simp only [List.all_cons, Bool.and_eq_true] at hs
    simp only [List.length_cons] at hb hf
    have e : tailText (n :: l) ++ 41 :: r = 32 :: (Lib.itoa n ++ (tailText l ++ 41 :: r)) := by
      show (32 :: Lib.itoa n ++ tailText l) ++ 41 :: r = _
      simp
    rw [e, pLeaf, if_neg (by rw [hp_cons]; decide), if_neg (by rw [hp_cons]; simp), if_neg (by omega), if_pos ha, tp_self, pNum_tail hs.1]
    simp only
    rw [pLeaf_tail l f (acc ++ [n]) r hs.2 (by simp) (by simp; omega) (by omega)]
    simp
theorem pLeaf_text (l : List Int) (f : Nat) (r : List UInt8) (hs : l.all smallB = true) (hl : l.length ≤ 40) (hf : l.length < f) : pLeaf f [] (leafText l ++ 41 :: r) = some (l, r) := by
  obtain ⟨f, rfl⟩ : ∃ g, f = g + 1 := ⟨f - 1, by omega⟩
  cases l with
  | nil =>
    show pLeaf (f + 1) [] (41 :: r) = _
    rw [pLeaf, if_pos (by rw [hp_cons]; rfl), tp_self]
  | cons n l =>
    simp only [List.all_cons, Bool.and_eq_true] at hs
    simp only [List.length_cons] at hl hf
    rw [leafText_cons, List.append_assoc, pLeaf, if_neg (by rw [hp_no (itoa_ne hs.1) (itoa_no n 41 (by decide) (by decide))]; simp), if_neg (by simp), if_neg (by simp), if_neg (by simp), pNum_tail hs.1]
    simp only
    rw [pLeaf_tail l f ([] ++ [n]) r hs.2 (by simp) (by simp; omega) (by omega)]
    simp
theorem tail_len : ∀ l : List Int, l.length ≤ (tailText l).length
  | [] => by simp
  | n :: r => by
    have := tail_len r
    unfold tailText
    simp
    omega
theorem leaf_len (l : List Int) (hs : l.all smallB = true) : l.length ≤ (leafText l).length := by
  cases l with
  | nil => simp
  | cons n l =>
    simp only [List.all_cons, Bool.and_eq_true] at hs
    rw [leafText_cons]
    have h1 := tail_len l
    have h2 := (itoa_len hs.1).1
    simp
    omega
theorem all_parts {s : Int} {ks : List T} {lf : List Int} (h : allB (.mk s ks lf) = true) : nodeB s ks.length lf = true ∧ allL ks = true := by
  unfold allB at h
  simpa using h
mutual
theorem pTree_text : ∀ (t : T) (f d n : Nat) (r : List UInt8), allB t = true → depth t + d ≤ 41 → n + nodes t ≤ 2000 → (text t).length < f → pTree f d n (text t ++ r) = some (t, n + nodes t, r)
  | .mk s ks lf, f, d, n, r, ha, hd, hn, hf => by
    obtain ⟨f, rfl⟩ : ∃ g, f = g + 1 := ⟨f - 1, by omega⟩
    obtain ⟨hnd, hak⟩ := all_parts ha
    unfold depth at hd
    unfold nodes at hn
    unfold nodeB at hnd
    by_cases h0 : ks.length = 0
    · obtain rfl : ks = [] := List.eq_nil_of_length_eq_zero h0
      rw [if_neg (by simp)] at hnd
      simp only [Bool.and_eq_true, decide_eq_true_eq] at hnd
      obtain ⟨⟨hs, hl⟩, hsm⟩ := hnd
      subst hs
      have ht : text (.mk 0 [] lf) = 40 :: leafText lf ++ [41] := by unfold text; exact if_pos rfl
      rw [ht] at hf ⊢
      have hll := leaf_len lf hsm
      simp only [List.length_append, List.length_cons, List.length_nil] at hf
      rw [show (40 :: leafText lf ++ [41]) ++ r = 40 :: (leafText lf ++ 41 :: r) by simp, pTree, if_neg (by simp [nodesL] at hn; omega), if_pos (by rw [hp_cons]; rfl), tp_self, pLeaf_text lf f r hsm hl (by omega)]
      simp only [nodes, nodesL]
    · rw [if_pos (by omega)] at hnd
      simp only [Bool.and_eq_true, decide_eq_true_eq] at hnd
      obtain ⟨⟨hl, hk⟩, hs⟩ := hnd
      obtain rfl : lf = [] := List.eq_nil_of_length_eq_zero hl
      have ht : text (.mk s ks []) = 91 :: Lib.itoa s ++ kidsText ks ++ [93] := by unfold text; rw [if_neg h0]
      rw [ht] at hf ⊢
      simp only [List.length_append, List.length_cons, List.length_nil] at hf
      have hnum : pNum (Lib.itoa s ++ (kidsText ks ++ 93 :: r)) = some (s, kidsText ks ++ 93 :: r) := by
        match ks, h0 with
        | k :: ks, _ =>
          show pNum (Lib.itoa s ++ 32 :: (text k ++ kidsText ks ++ 93 :: r)) = some (s, 32 :: (text k ++ kidsText ks ++ 93 :: r))
          exact pNum_back hs (by decide)
      rw [show (91 :: Lib.itoa s ++ kidsText ks ++ [93]) ++ r = 91 :: (Lib.itoa s ++ (kidsText ks ++ 93 :: r)) by simp, pTree, if_neg (by omega), if_neg (by rw [hp_cons]; decide), if_pos (by rw [hp_cons]; rfl), tp_self, hnum]
      simp only
      rw [pKids_text ks f d (n + 1) [] r hak (by omega) (by omega) (by simp; omega) (by simp; omega) (by omega)]
      simp only [List.nil_append, nodes]
      rw [Nat.add_assoc]
theorem pKids_text : ∀ (ks : List T) (f d n : Nat) (acc : List T) (r : List UInt8), allL ks = true → depthL ks + (d + 1) ≤ 41 → n + nodesL ks ≤ 2000 → acc.length + ks.length ≤ 100 → 0 < acc.length + ks.length → (kidsText ks).length < f → pKids f d n acc (kidsText ks ++ 93 :: r) = some (acc ++ ks, n + nodesL ks, r)
  | [], f, d, n, acc, r, _, _, _, _, hp0, hf => by
    obtain ⟨f, rfl⟩ : ∃ g, f = g + 1 := ⟨f - 1, by omega⟩
    show pKids (f + 1) d n acc (93 :: r) = _
    rw [pKids, if_neg (by rw [hp_cons]; decide), if_pos ⟨by simpa using hp0, by rw [hp_cons]; rfl⟩, tp_self]
    simp [nodesL]
  | k :: ks, f, d, n, acc, r, ha, hd, hn, hk, _, hf => by
    obtain ⟨f, rfl⟩ : ∃ g, f = g + 1 := ⟨f - 1, by omega⟩
    unfold allL at ha
    simp only [Bool.and_eq_true] at ha
    unfold depthL at hd
    unfold nodesL at hn ⊢
    simp only [List.length_cons] at hk
    have e : kidsText (k :: ks) = 32 :: text k ++ kidsText ks := by rw [kidsText]
    rw [e] at hf ⊢
    simp only [List.length_append, List.length_cons] at hf
    rw [show (32 :: text k ++ kidsText ks) ++ 93 :: r = 32 :: (text k ++ (kidsText ks ++ 93 :: r)) by simp, pKids, if_pos (by rw [hp_cons]; rfl), tp_self, pTree_text k f (d + 1) n _ ha.1 (by omega) (by omega) (by omega)]
    simp only
    rw [if_neg (by omega), pKids_text ks f d (n + nodes k) (acc ++ [k]) r ha.2 (by omega) (by omega) (by simp; omega) (by simp; omega) (by omega)]
    simp only [List.append_assoc, List.singleton_append]
    congr 3
    omega
end
end Go.Proofs.YtjjohllfidmkjaaDoor.Pf
