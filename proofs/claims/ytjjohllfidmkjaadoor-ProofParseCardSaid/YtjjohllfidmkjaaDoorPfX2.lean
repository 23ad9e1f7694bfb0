/- What the program's reader takes is the text of the tree, and the tree is valid; in plain Lean. Conditions: none. -/
import Derived.Test.YtjjohllfidmkjaaDoorPfX1
import Derived.Test.YtjjohllfidmkjaaDoorPfR2
namespace Go.Proofs.YtjjohllfidmkjaaDoor.Pf
open Go

theorem pLeaf_some : ∀ (f : Nat) (acc : List Int) (s : List UInt8) (l : List Int) (r : List UInt8), acc.length ≤ 40 → pLeaf f acc s = some (l, r) →
    ∃ l2, l = acc ++ l2 ∧ l2.all smallB = true ∧ l.length ≤ 40 ∧ s = (if 0 < acc.length then tailText l2 else leafText l2) ++ 41 :: r
  | 0, _, _, _, _, _, h => by unfold pLeaf at h; cases h
  | f + 1, acc, s, l, r, ha, h => by
    rw [pLeaf] at h
    by_cases h1 : hp s 41 = true
    · rw [if_pos h1] at h
      cases h
      refine ⟨[], by simp, rfl, ha, ?_⟩
      have := tp_yes h1
      split <;> simpa [tailText, leafText] using this
    · rw [if_neg h1] at h
      by_cases h2 : 0 < acc.length ∧ hp s 32 = false
      · rw [if_pos h2] at h; cases h
      · rw [if_neg h2] at h
        by_cases h3 : acc.length = 40
        · rw [if_pos h3] at h; cases h
        · rw [if_neg h3] at h
          cases hn : pNum (if 0 < acc.length then tp s 32 else s) with
          | none => rw [hn] at h; cases h
          | some p =>
            obtain ⟨n, r2⟩ := p
            rw [hn] at h
            simp only at h
            obtain ⟨e1, hs, _⟩ := pNum_some hn
            obtain ⟨l2, e2, hl2, hlen, e3⟩ := pLeaf_some f (acc ++ [n]) r2 l r (by simp; omega) h
            rw [if_pos (by simp)] at e3
            refine ⟨n :: l2, by rw [e2]; simp, by simp [hs, hl2], hlen, ?_⟩
            by_cases h0 : 0 < acc.length
            · rw [if_pos h0] at e1 ⊢
              have h32 : hp s 32 = true := by
                cases hh : hp s 32
                · exact absurd ⟨h0, hh⟩ h2
                · rfl
              rw [tp_yes h32, e1, e3]
              simp [tailText]
            · rw [if_neg h0] at e1 ⊢
              rw [e1, e3, leafText_cons]
              simp
mutual
theorem pTree_some : ∀ (f d n : Nat) (s : List UInt8) (t : T) (m : Nat) (r : List UInt8), pTree f d n s = some (t, m, r) → s = text t ++ r ∧ allB t = true ∧ depth t + d ≤ 41 ∧ m = n + nodes t
  | 0, _, _, _, _, _, _, h => by unfold pTree at h; cases h
  | f + 1, d, n, s, t, m, r, h => by
    rw [pTree] at h
    by_cases h1 : 2000 < n + 1 ∨ 40 < d
    · rw [if_pos h1] at h; cases h
    · rw [if_neg h1] at h
      by_cases h2 : hp s 40 = true
      · rw [if_pos h2] at h
        cases hl : pLeaf f [] (tp s 40) with
        | none => rw [hl] at h; cases h
        | some p =>
          obtain ⟨l, r2⟩ := p
          rw [hl] at h
          cases h
          obtain ⟨l2, e2, hl2, hlen, e3⟩ := pLeaf_some f [] _ _ _ (by simp) hl
          simp only [List.nil_append] at e2
          subst e2
          rw [if_neg (by simp)] at e3
          refine ⟨?_, ?_, by simp [depth, depthL]; omega, by simp [nodes, nodesL]⟩
          · rw [tp_yes h2, e3]
            have ht : text (.mk 0 [] l) = 40 :: leafText l ++ [41] := by unfold text; exact if_pos rfl
            rw [ht]
            simp
          · simp [allB, allL, nodeB, hl2, hlen]
      · rw [if_neg h2] at h
        by_cases h3 : hp s 91 = true
        · rw [if_pos h3] at h
          cases hn : pNum (tp s 91) with
          | none => rw [hn] at h; cases h
          | some p =>
            obtain ⟨x, r2⟩ := p
            rw [hn] at h
            simp only at h
            cases hk : pKids f d (n + 1) [] r2 with
            | none => rw [hk] at h; cases h
            | some q =>
              obtain ⟨ks, n2, r3⟩ := q
              rw [hk] at h
              cases h
              obtain ⟨e1, hs, _⟩ := pNum_some hn
              obtain ⟨ks2, e2, hak, hdk, hm, hlen, hpos, e3⟩ := pKids_some f d (n + 1) [] r2 ks _ _ (by simp) hk
              simp only [List.nil_append] at e2
              subst e2
              have hdk2 : depthL ks + (d + 1) ≤ 41 := hdk.elim (fun h => h) (fun h => by rw [h] at hpos; simp at hpos)
              refine ⟨?_, ?_, by unfold depth; omega, by unfold nodes; omega⟩
              · rw [tp_yes h3, e1, e3]
                have ht : text (.mk x ks []) = 91 :: Lib.itoa x ++ kidsText ks ++ [93] := by unfold text; exact if_neg (by omega)
                rw [ht]
                simp
              · simp [allB, hak, nodeB, hs, hpos, hlen]
        · rw [if_neg h3] at h; cases h
theorem pKids_some : ∀ (f d n : Nat) (acc : List T) (s : List UInt8) (ks : List T) (m : Nat) (r : List UInt8), acc.length ≤ 100 → pKids f d n acc s = some (ks, m, r) →
    ∃ ks2, ks = acc ++ ks2 ∧ allL ks2 = true ∧ (depthL ks2 + (d + 1) ≤ 41 ∨ ks2 = []) ∧ m = n + nodesL ks2 ∧ ks.length ≤ 100 ∧ 0 < ks.length ∧ s = kidsText ks2 ++ 93 :: r
  | 0, _, _, _, _, _, _, _, _, h => by unfold pKids at h; cases h
  | f + 1, d, n, acc, s, ks, m, r, ha, h => by
    rw [pKids] at h
    by_cases h1 : hp s 32 = true
    · rw [if_pos h1] at h
      cases hk : pTree f (d + 1) n (tp s 32) with
      | none => rw [hk] at h; cases h
      | some p =>
        obtain ⟨k, n2, r2⟩ := p
        rw [hk] at h
        simp only at h
        by_cases h2 : acc.length = 100
        · rw [if_pos h2] at h; cases h
        · rw [if_neg h2] at h
          obtain ⟨e1, hak, hdk, hm⟩ := pTree_some f (d + 1) n _ k n2 r2 hk
          obtain ⟨ks2, e2, hak2, hdk2, hm2, hlen, hpos, e3⟩ := pKids_some f d n2 (acc ++ [k]) r2 ks m r (by simp; omega) h
          refine ⟨k :: ks2, by rw [e2]; simp, by unfold allL; rw [hak, hak2]; rfl, .inl ?_, by unfold nodesL; omega, hlen, hpos, ?_⟩
          · unfold depthL
            rcases hdk2 with h9 | h9
            · omega
            · subst h9
              unfold depthL
              omega
          · rw [tp_yes h1, e1, e3]
            rw [kidsText]
            simp
    · rw [if_neg h1] at h
      by_cases h2 : 0 < acc.length ∧ hp s 93 = true
      · rw [if_pos h2] at h
        cases h
        refine ⟨[], by simp, rfl, .inr rfl, by simp [nodesL], ha, h2.1, ?_⟩
        rw [kidsText]
        exact tp_yes h2.2
      · rw [if_neg h2] at h; cases h
end
/-- A valid tree's text is parsed to the tree. -/
theorem parse_text {t : T} (hf : nodes t ≤ 1000000000000) (h : validB t = true) : pParse (text t) = some t := by
  unfold validB at h
  rw [nW_eq t hf, (dW_eq t hf).1] at h
  simp only [Bool.and_eq_true, decide_eq_true_eq] at h
  have h9 := pTree_text t ((text t).length + 1) 1 0 [] h.2 (by omega) (by omega) (by omega)
  rw [List.append_nil] at h9
  unfold pParse
  rw [h9]
  simp
/-- What is parsed is the text of the tree, which is valid. -/
theorem parse_some {s : List UInt8} {t : T} (h : pParse s = some t) : s = text t ∧ validB t = true ∧ nodes t ≤ 2000 := by
  unfold pParse at h
  cases hp : pTree (s.length + 1) 1 0 s with
  | none => rw [hp] at h; cases h
  | some p =>
    obtain ⟨u, m, r⟩ := p
    rw [hp] at h
    simp only at h
    split at h
    · rename_i hr
      cases h
      subst hr
      obtain ⟨e1, hal, hd, hm⟩ := pTree_some _ _ _ _ _ _ _ hp
      have hl := (pTree_len _ _ _ _ _ _ _ hp).2
      have hn : nodes t ≤ 1000000000000 := by omega
      refine ⟨by rw [List.append_nil] at e1; exact e1, ?_, by omega⟩
      unfold validB
      rw [nW_eq t hn, (dW_eq t hn).1, hal]
      simp only [Bool.and_true, Bool.and_eq_true, decide_eq_true_eq]
      omega
    · cases h
end Go.Proofs.YtjjohllfidmkjaaDoor.Pf
