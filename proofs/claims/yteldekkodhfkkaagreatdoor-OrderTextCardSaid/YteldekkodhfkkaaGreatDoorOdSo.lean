/- A row of the call's own, sorted: its cells are those of a sorted permutation. No function of the program is in sight. Conditions: as stated. -/
import Derived.Test.YteldekkodhfkkaaGreatDoorRowK
import Derived.Test.YteldekkodhfkkaaGreatDoorOdPlain
import Derived.Shelf.SlSortCmp.WholeK
import Derived.Shelf.SlSortCmp.NoneTotal
namespace Go.Proofs.YteldekkodhfkkaaGreatDoor.OdW
open Go Go.RowKit Go.Proofs.YteldekkodhfkkaaGreatDoor.Mem
open Go.Sort Go.Shelf
section
variable {P : Program} {ρ : Ren} {α : Type} [Inhabited α]
theorem flatK_get {enc : α → List Value} {k : Nat} (hk : ∀ x, (enc x).length = k) (l : List α) (t : Nat) (h : t < l.length * k) : (l.flatMap enc)[t]? = some (flatK enc k l.toArray)[t]! := by
  have k0 : 0 < k := by
    rcases Nat.eq_zero_or_pos k with h0 | h0
    · subst h0; simp at h
    · exact h0
  have hd : t / k < l.length := (Nat.div_lt_iff_lt_mul k0).2 h
  have hm : t % k < k := Nat.mod_lt _ k0
  have e : t / k * k + t % k = t := by rw [Nat.mul_comm]; exact Nat.div_add_mod t k
  have h1 := flatMap_get hk l (t / k) (t % k) hd hm
  rw [e] at h1
  rw [h1, get_flatK _ _ _ _ (by simpa using h)]
  have e2 : (l.toArray)[t / k]! = l[t / k] := by
    rw [getElem!_pos _ _ (by simpa using hd)]
    simp
  rw [e2, getElem!_pos (enc l[t / k]) (t % k) (by rw [hk]; exact hm), List.getElem?_eq_getElem (by rw [hk]; exact hm)]
theorem below_sorted (enc : α → List Value) (k : Nat) (w : World) (g m base : Nat) (d : Array α) (os : Array Obj) (hb : base ≤ g) (hg : g < w.heap.size) : Below base w (sortWorldK enc k w g 0 m d os) := by
  unfold sortWorldK putRowK putRow mapBlock grow Go.Sort.ahead
  refine ⟨rfl, rfl, rfl, by simp, fun j hj => ?_⟩
  have hlt : j < w.heap.size := by omega
  have hne : ¬ g = j := by omega
  rw [Array.getElem?_append_left (by simpa using hlt), Array.getElem?_modify, if_neg hne]
theorem holds_own {enc : α → List Value} {k : Nat} (hk : ∀ x, (enc x).length = k) {w : World} {base : Nat} {e : TypeId} {g c n : Nat} {l : List α} (hn : n = l.length) (h : w.ownsRow base e k (.slice (some ⟨g, 0, none⟩) n c) n (l.flatMap enc)) (h0 : 0 < n) : HoldsK enc k w g 0 l.toArray ∧ g < w.heap.size ∧ base ≤ g := by
  rcases h.2 with ⟨h1, h2⟩ | ⟨g', cap, cur, hv, hb, hh, hn', hc, hs, ht⟩
  · omega
  · injection hv with hv1
    injection hv1 with hv1
    injection hv1 with hv1
    subst hv1
    have hlt : g < w.heap.size := (Array.getElem?_eq_some_iff.1 hh).1
    refine ⟨fun j hj => ?_, hlt, hb⟩
    rw [size_flatK] at hj
    have hj' : j < l.length * k := by simpa using hj
    have e1 := flatK_get hk l j hj'
    have e2 := h.cellAt (g := g) j (by rw [hn]; exact hj')
    refine ⟨?_, ?_⟩
    · rw [Nat.zero_add, e2, e1]; rfl
    · unfold World.frozen?
      rw [hh]
      simp
theorem sort_own (L : Go.Proofs.SlLaysF0.n6 P ρ) (k : Nat) (aE : ∀ w, (isAgg (ρ.t 24)).run P w = .ok true w) (zE : ∀ w, (Go.sizeOf (ρ.t 24)).run P w = .ok k w) (enc : α → List Value) (hk : ∀ x, (enc x).length = k) (h1 : ∀ x, ∀ v ∈ enc x, v.oneCell' = true) (cf : α → α → Int) (hO : SWO (ltOf cf)) (g : Nat)
    (eg : ∀ args w, (callFunc g args).run P w = .ok (.enter g args) w)
    (hc : ∀ x y W, Calls P g #[.agg (enc x).toArray, .agg (enc y).toArray] W fun e w' => e = .returned (.int .i64 (cf x y)) ∧ ∃ q os, w' = grow (W.drewN q) os)
    (base : Nat) (e : TypeId) (v : Value) (l : List α) (n : Nat) (w : World) (hn : n = l.length) (hown : w.ownsRow base e k v n (l.flatMap enc)) (hsz : n < 4611686018427387904) :
    Calls P (ρ.f 6) #[v, .func (.func g) #[] #[]] w fun e' w' => e' = .returned (.tuple #[]) ∧ Below base w w' ∧ ∃ (l' : List α) (A : Option Addr) (c : Nat), v = .slice A n c ∧ Row w' A (l'.flatMap enc) ∧ l'.Perm l ∧ l'.Pairwise fun x y => ltOf cf y x = false := by
  rcases Nat.eq_zero_or_pos n with h0 | h0
  · subst h0
    have hl : l = [] := List.eq_nil_of_length_eq_zero hn.symm
    subst hl
    obtain ⟨A, c, rfl, _⟩ := own_shape hown
    refine (Go.Proofs.AnyF.slices_SortFunc_none L A c _ w).mono ?_
    rintro e' w' ⟨rfl, rfl⟩
    exact ⟨rfl, Below.refl _ _, [], A, c, rfl, Row.nil _ _, List.Perm.refl _, List.Pairwise.nil⟩
  · obtain ⟨A, c, rfl, _⟩ := own_shape hown
    obtain ⟨b, rfl⟩ : ∃ b, A = some ⟨b, 0, none⟩ := by
      rcases hown.2 with ⟨_, h2⟩ | ⟨g', cap, cur, hv, _⟩
      · omega
      · injection hv with hv1
        exact ⟨g', hv1⟩
    obtain ⟨hH, hlt, hb⟩ := holds_own hk hn hown h0
    subst hn
    have hs : l.toArray.size = l.length := by simp
    have hcmp : Go.Proofs.CmpLays P g #[] enc k cf b 0 l.toArray.size w := fun m os dk _ x y => by
      have := hc x y (sortWorldK enc k w b 0 m dk os)
      simpa using this
    have hmain := Go.Proofs.AnyQ.slices_SortFunc L k aE zE enc hk h1 cf hO g #[] b 0 c l.toArray w eg hcmp hH hlt (by rw [hs]; exact hsz)
    rw [hs] at hmain
    refine hmain.mono ?_
    rintro e' w' ⟨rfl, d', m, os, hp, hso, rfl⟩
    have hds : d'.size = l.toArray.size := hp.1
    refine ⟨rfl, below_sorted enc k w b m base d' os hb hlt, d'.toList, _, c, rfl, ?_, ?_, ?_⟩
    · have hK := holdsK_sortWorldK_c enc k w b 0 l.toArray d' m os hH hlt hds
      intro _
      refine ⟨b, 0, rfl, ?_, fun j hj => ?_⟩
      · have := (below_sorted enc k w b m base d' os hb hlt).size
        omega
      · rw [flatMap_len hk] at hj
        have h2 := (hK j (by rw [size_flatK]; simpa using hj)).1
        rw [h2]
        have h3 := flatK_get hk d'.toList j hj
        rw [h3]
        rfl
    · have := hp.2.2
      have e1 : d'.extract 0 l.length = d' := by
        rw [← hs, ← hds]
        exact Array.extract_size
      have e2 : l.toArray.extract 0 l.length = l.toArray := by
        rw [← hs]
        exact Array.extract_size
      rw [e1, e2] at this
      simpa using this
    · rw [List.pairwise_iff_getElem]
      intro i j hi hj hij
      have := hso i j (Nat.zero_le _) hij (by rw [← hs, ← hds]; simpa using hj)
      rw [getElem!_pos d' i (by simpa using hi), getElem!_pos d' j (by simpa using hj)] at this
      simpa using this
end
theorem swo_key {α β : Type} {lt : β → β → Bool} (T : Od.Tot lt) (key : α → β) (cf : α → α → Int) (h : ∀ x y, ltOf cf x y = lt (key x) (key y)) : SWO (ltOf cf) where
  irrefl x := by rw [h, T.irr]
  trans x y z h1 h2 := by rw [h] at *; exact T.trans _ _ _ h1 h2
  ntrans x y z h1 h2 := by
    rw [h] at *
    cases h3 : lt (key x) (key z)
    · rfl
    · cases h4 : lt (key y) (key x)
      · rw [T.tri _ _ h1 h4, h2] at h3
        cases h3
      · rw [T.trans _ _ _ h4 h3] at h2
        cases h2
end Go.Proofs.YteldekkodhfkkaaGreatDoor.OdW
