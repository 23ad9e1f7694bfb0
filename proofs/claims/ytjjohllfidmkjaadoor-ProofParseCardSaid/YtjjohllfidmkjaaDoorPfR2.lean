/- The program's reader of trees, in plain Lean: what is left, how many nodes. Conditions: none. -/
import Derived.Test.YtjjohllfidmkjaaDoorPfNum
namespace Go.Proofs.YtjjohllfidmkjaaDoor.Pf
open Go

theorem pLeaf_len : ∀ (f : Nat) (acc : List Int) (s : List UInt8) (l : List Int) (r : List UInt8), pLeaf f acc s = some (l, r) → r.length < s.length
  | 0, _, _, _, _, h => by cases h
  | f + 1, acc, s, l, r, h => by
    rw [pLeaf] at h
    split at h
    · rename_i h1
      cases h
      have := tp_len h1
      omega
    · split at h
      · cases h
      · split at h
        · cases h
        · split at h
          · cases h
          · rename_i n r2 hn
            have h1 := pLeaf_len f _ _ _ _ h
            have h2 := pNum_len hn
            split at h2
            · have := tp_le s 32; omega
            · omega
mutual
theorem pTree_len : ∀ (f d n : Nat) (s : List UInt8) (t : T) (m : Nat) (r : List UInt8), pTree f d n s = some (t, m, r) → r.length < s.length ∧ m ≤ 2000
  | 0, _, _, _, _, _, _, h => by cases h
  | f + 1, d, n, s, t, m, r, h => by
    rw [pTree] at h
    split at h
    · cases h
    · rename_i h0
      split at h
      · rename_i h1
        split at h
        · cases h
        · rename_i l r2 hl
          cases h
          have := pLeaf_len _ _ _ _ _ hl
          have := tp_len h1
          omega
      · split at h
        · rename_i h1
          split at h
          · cases h
          · rename_i x r2 hx
            split at h
            · cases h
            · rename_i ks n2 r3 hk
              cases h
              have h2 := pKids_len f d (n + 1) [] r2 ks m r hk (by omega)
              have h3 := pNum_len hx
              have h4 := tp_len h1
              omega
        · cases h
theorem pKids_len : ∀ (f d n : Nat) (acc : List T) (s : List UInt8) (ks : List T) (m : Nat) (r : List UInt8), pKids f d n acc s = some (ks, m, r) → n ≤ 2000 → r.length < s.length ∧ m ≤ 2000
  | 0, _, _, _, _, _, _, _, h, _ => by cases h
  | f + 1, d, n, acc, s, ks, m, r, h, hn => by
    rw [pKids] at h
    split at h
    · rename_i h1
      split at h
      · cases h
      · rename_i k n2 r2 hk
        split at h
        · cases h
        · have h2 := pTree_len f (d + 1) n _ _ _ _ hk
          have h3 := pKids_len f d n2 _ r2 ks m r h h2.2
          have h4 := tp_len h1
          omega
    · split at h
      · rename_i h1
        cases h
        have := tp_len h1.2
        omega
      · cases h
end
end Go.Proofs.YtjjohllfidmkjaaDoor.Pf
