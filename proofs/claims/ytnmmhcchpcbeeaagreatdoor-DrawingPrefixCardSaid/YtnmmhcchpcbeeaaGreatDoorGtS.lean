/- Drawings as texts, plain law: a proper prefix of the text of a drawing is wrong at its end. Conditions: none. -/
import Derived.Test.YtnmmhcchpcbeeaaGreatDoorGtSe

namespace Go.Proofs.YtnmmhcchpcbeeaaGreatDoor.Gt
open Go Go.Proofs.YtnmmhcchpcbeeaaGreatDoor.Ge

/-- Where a reader of the first n lines stands, beside one of all of them: at the same place, or at the end, in vain. -/
def Rel (n : Nat) (s s' : S) : Prop := (s'.bad = false ∧ s' = s ∧ s.i ≤ n) ∨ s' = ⟨n, true⟩
def Sim {α} (F : Op α) : Prop := ∀ L n s s', Rel n s s' → (F L s).2.bad = false → Rel n (F L s).2 (F (L.take n) s').2 ∧ ((F (L.take n) s').2.bad = false → (F (L.take n) s').1 = (F L s).1)
theorem Sim.bnd {α β} {F : Op α} {G : α → Op β} (hF : Sim F) (hG : ∀ a, Sim (G a)) (hS : ∀ a, Stay (G a)) : Sim (bnd F G) := fun L n s s' h hb => by
 have hb1 : (F L s).2.bad = false := not_bad (hS _) hb
 obtain ⟨h1, h2⟩ := hF L n s s' h hb1
 show Rel n (G (F L s).1 L (F L s).2).2 (G (F (L.take n) s').1 (L.take n) (F (L.take n) s').2).2 ∧ ((G (F (L.take n) s').1 (L.take n) (F (L.take n) s').2).2.bad = false → (G (F (L.take n) s').1 (L.take n) (F (L.take n) s').2).1 = (G (F L s).1 L (F L s).2).1)
 cases hx : (F (L.take n) s').2.bad with
 | false =>
  rw [h2 hx]
  exact hG _ L n _ _ h1 hb
 | true =>
  have e : (F (L.take n) s').2 = ⟨n, true⟩ := by
   rcases h1 with h1 | h1
   ·rw [h1.1] at hx; cases hx
   ·exact h1
  have e2 := hS (F (L.take n) s').1 (L.take n) (F (L.take n) s').2 hx
  exact ⟨.inr (e2.trans e), fun h => by rw [e2, hx] at h; cases h⟩
theorem sim_nx (g) : Sim (opNx g) := fun L n s s' h hb => by
 rcases h with ⟨h1, h2, h3⟩ | h
 ·subst h2
  by_cases hn : s'.i < n
  ·have e : opNx g (L.take n) s' = opNx g L s' := by
    unfold opNx nx
    rw [List.getElem?_take, if_pos hn]
   rw [e]
   refine ⟨.inl ⟨hb, rfl, ?_⟩, fun _ => rfl⟩
   unfold opNx nx at hb ⊢
   simp only [h1] at hb ⊢
   rcases hx : L[s'.i]? with _ | x
   ·simp only [hx] at hb; cases hb
   ·simp only [hx] at hb ⊢
    by_cases hg : g x = true
    ·simp [hg]; omega
    ·simp [hg] at hb
  ·have e : opNx g (L.take n) s' = ([], ⟨n, true⟩) := by
    have : s'.i = n := by omega
    unfold opNx nx
    rw [List.getElem?_take, if_neg hn, this]
    simp [h1]
   rw [e]
   exact ⟨.inr rfl, fun h => by cases h⟩
 ·subst h
  have e := stay_nx g (L.take n) ⟨n, true⟩ rfl
  exact ⟨.inr e, fun h => by rw [e] at h; cases h⟩
theorem sim_cd (c) : Sim (opCd c) := fun L n s s' h hb => ⟨(sim_nx (fun x => decide (x = Lib.itoa c)) L n s s' h hb).1, fun _ => rfl⟩
theorem sim_ck (b) : Sim (opCk b) := fun L n s s' h hb => by
 refine ⟨?_, fun _ => rfl⟩
 rcases h with ⟨h1, h2, h3⟩ | h
 ·subst h2
  have : ck b s' = s' := by
   unfold opCk ck at hb
   unfold ck
   by_cases hc : s'.bad = false ∧ b = false
   ·rw [if_pos hc] at hb; cases hb
   ·rw [if_neg hc]
  show Rel n (ck b s') (ck b s')
  rw [this]
  exact .inl ⟨h1, rfl, h3⟩
 ·subst h
  exact .inr (stay_ck b (L.take n) ⟨n, true⟩ rfl)
theorem sim_ret {α} (a : α) : Sim (opRet a) := fun _ _ _ _ h _ => ⟨h, fun _ => rfl⟩
theorem sim_nb (c lo hi) : Sim (opNb c lo hi) := (sim_cd c).bnd (fun _ => (sim_nx _).bnd (fun _ => sim_ret _) (fun _ => stay_ret _)) (fun _ => (stay_nx _).bnd fun _ => stay_ret _)
theorem sim_pt (c) : Sim (opPt c) := (sim_nb _ _ _).bnd (fun _ => (sim_nb _ _ _).bnd (fun _ => sim_ret _) (fun _ => stay_ret _)) (fun _ => (stay_nb _ _ _).bnd fun _ => stay_ret _)
theorem sim_pts : ∀ n acc, Sim (opPts n acc)
 | 0, acc => sim_ret acc
 | n + 1, acc => (sim_pt 10).bnd (fun v => sim_pts n (acc ++ [v])) (fun _ => stay_pts _ _)
theorem sim_line (l) : Sim (opLine l) := (sim_pt 10).bnd (fun _ => (sim_pt 11).bnd (fun _ => (sim_ck _).bnd (fun _ => sim_ret _) (fun _ => stay_ret _)) (fun _ => (stay_ck _).bnd fun _ => stay_ret _)) (fun _ => (stay_pt 11).bnd fun _ => (stay_ck _).bnd fun _ => stay_ret _)
theorem sim_arc (l) : Sim (opArc l) := (sim_pt 10).bnd (fun _ => (sim_pt 11).bnd (fun _ => (sim_pt 12).bnd (fun _ => (sim_nb _ _ _).bnd (fun _ => (sim_ck _).bnd (fun _ => sim_ret _) (fun _ => stay_ret _)) (fun _ => (stay_ck _).bnd fun _ => stay_ret _)) (fun _ => (stay_nb _ _ _).bnd fun _ => (stay_ck _).bnd fun _ => stay_ret _)) (fun _ => (stay_pt 12).bnd fun _ => (stay_nb _ _ _).bnd fun _ => (stay_ck _).bnd fun _ => stay_ret _)) (fun _ => (stay_pt 11).bnd fun _ => (stay_pt 12).bnd fun _ => (stay_nb _ _ _).bnd fun _ => (stay_ck _).bnd fun _ => stay_ret _)
theorem sim_poly (l) : Sim (opPoly l) := (sim_nb _ _ _).bnd (fun _ => (sim_pts _ _).bnd (fun _ => sim_ret _) (fun _ => stay_ret _)) (fun _ => (stay_pts _ _).bnd fun _ => stay_ret _)
theorem sim_kind (k l) : Sim (opKind k l) := by
 unfold opKind
 split
 ·exact sim_line l
 ·split
  ·exact sim_arc l
  ·exact sim_poly l
theorem sim_ent (k) : Sim (opEnt k) := (sim_cd 8).bnd (fun _ => (sim_nx _).bnd (fun l => sim_kind k l) (fun l => stay_kind k l)) (fun _ => (stay_nx _).bnd fun l => stay_kind k l)
theorem sim_name (m) : Sim (opName m) := (sim_cd 0).bnd (fun _ => sim_nx _) (fun _ => stay_nx _)
theorem ents_sim : ∀ (f : Nat) (L : List (List UInt8)) (n : Nat) (s s' : S) (d d' : List Ent), Rel n s s' → (s'.bad = false → d' = d) → (ents L f s d).1.bad = false → Rel n (ents L f s d).1 (ents (L.take n) f s' d').1
 | 0, _, _, _, _, _, _, h, _, _ => h
 | f + 1, L, n, s, s', d, d', h, hd, hb => by
  rcases h with h | h
  ·have hdd := hd h.1
   subst hdd
   have hs := h.2.1
   have hs0 : s.bad = false := by rw [← hs]; exact h.1
   have hbn : (rdName L d'.length s).2.bad = false := by
    rcases Decidable.em ((rdName L d'.length s).2.bad = false) with hx | hx
    ·exact hx
    ·rw [ents_stop f L s d' hs0 (.inr (bad_of hx))] at hb
     exact absurd hb hx
   obtain ⟨h1, h2⟩ := sim_name d'.length L n s s' (.inl h) hbn
   have h1' : Rel n (rdName L d'.length s).2 (rdName (L.take n) d'.length s').2 := h1
   have h2' : (rdName (L.take n) d'.length s').2.bad = false → (rdName (L.take n) d'.length s').1 = (rdName L d'.length s).1 := h2
   by_cases hx : (rdName (L.take n) d'.length s').2.bad = true
   ·have e : (rdName (L.take n) d'.length s').2 = ⟨n, true⟩ := by
     rcases h1' with h1 | h1
     ·rw [h1.1] at hx; cases hx
     ·exact h1
    have e2 : (ents (L.take n) (f + 1) s' d').1 = (rdName (L.take n) d'.length s').2 := by
     rw [ents_stop f (L.take n) s' d' h.1 (.inr hx)]
    exact .inr (e2.trans e)
   ·have hxf : (rdName (L.take n) d'.length s').2.bad = false := by
     cases hy : (rdName (L.take n) d'.length s').2.bad with
     | false => rfl
     | true => exact absurd hy hx
    have hk := h2' hxf
    by_cases he : (rdName L d'.length s).1 = kEof
    ·rw [ents_stop f L s d' hs0 (.inl he), ents_stop f (L.take n) s' d' h.1 (.inl (hk.trans he))]
     exact h1'
    ·rw [ents_go f L s d' hs0 he hbn] at hb ⊢
     rw [ents_go f (L.take n) s' d' h.1 (by rw [hk]; exact he) hxf, hk]
     have hE := rdEnt_eq L (rdName L d'.length s).1 (rdName L d'.length s).2
     have hE' := rdEnt_eq (L.take n) (rdName L d'.length s).1 (rdName (L.take n) d'.length s').2
     have hbe : (opEnt (rdName L d'.length s).1 L (rdName L d'.length s).2).2.bad = false := by
      rcases Decidable.em ((opEnt (rdName L d'.length s).1 L (rdName L d'.length s).2).2.bad = false) with hy | hy
      ·exact hy
      ·rw [ents_bad f L _ _ (by rw [hE.1]; exact bad_of hy), hE.1] at hb
       exact hb
     obtain ⟨h3, h4⟩ := sim_ent (rdName L d'.length s).1 L n _ _ h1' hbe
     refine ents_sim f L n _ _ _ _ (by rw [hE.1, hE'.1]; exact h3) ?_ hb
     intro hz
     rw [hE'.1] at hz
     rw [hE'.2 hz, hE.2 hbe, h4 hz]
  ·subst h
   exact .inr (ents_bad (f + 1) (L.take n) ⟨n, true⟩ d' rfl)

/-- The lines of a beginning of a text. -/
theorem pieces_take : ∀ (l : List (List UInt8)) (k : Nat), k < (textOf l).length → (∀ y ∈ l, (10 : UInt8) ∉ y) → ∃ n x, n < l.length ∧ (10 : UInt8) ∉ x ∧ (textOf l).take k = textOf (l.take n) ++ x
 | [], k, hk, _ => by simp [textOf] at hk
 | y :: l, k, hk, h => by
  by_cases hy : k ≤ y.length
  ·refine ⟨0, y.take k, by simp, fun hm => h y (by simp) (List.mem_of_mem_take hm), ?_⟩
   rw [textOf_cons, List.take_append_of_le_length hy]
   simp [textOf]
  ·rw [textOf_cons] at hk ⊢
   simp only [List.length_append, List.length_cons] at hk
   obtain ⟨n, x, h1, h2, h3⟩ := pieces_take l (k - (y.length + 1)) (by omega) (fun z hz => h z (by simp [hz]))
   refine ⟨n + 1, x, by simp; omega, h2, ?_⟩
   rw [List.take_succ_cons, textOf_cons, List.append_assoc, List.cons_append, ← h3]
   rw [List.take_append, List.take_of_length_le (by omega)]
   congr 1
   obtain ⟨m, hm⟩ : ∃ m, k - y.length = m + 1 := ⟨k - y.length - 1, by omega⟩
   rw [hm, List.take_succ_cons]
   congr 2
   omega
theorem textOf_count : ∀ (l : List (List UInt8)), (∀ y ∈ l, (10 : UInt8) ∉ y) → (textOf l).count 10 = l.length
 | [], _ => by simp [textOf]
 | y :: l, h => by
  rw [textOf_cons, List.count_append, List.count_cons, textOf_count l (fun z hz => h z (by simp [hz])), List.count_eq_zero.2 (h y (by simp))]
  simp
/-- No proper prefix of the text of a drawing is one; it is wrong at its last line. -/
theorem dec_prefix {d : List Ent} (h : drawOk d = true) {k : Nat} (hk : k < (enc d).length) : dec ((enc d).take k) = ([], ((enc d).take k).count 10, 4) := by
 obtain ⟨h1, h2⟩ := draw_parts h
 have hL := draw_line h2
 obtain ⟨n, x, hn, hx, e⟩ := pieces_take (drawL d) k hk hL
 have hT : ∀ y ∈ (drawL d).take n, (10 : UInt8) ∉ y := fun y hy => hL y (List.mem_of_mem_take hy)
 have hl := linesOf_text hT hx
 have e' : (enc d).take k = textOf ((drawL d).take n) ++ x := e
 obtain ⟨e1, e2, e3⟩ := ents_reads d 202 (drawL d) ⟨0, false⟩ [] (by omega) (by simpa using h1) h2 rfl (by simp)
 have hs := ents_sim 202 (drawL d) n ⟨0, false⟩ ⟨0, false⟩ [] [] (.inl ⟨rfl, rfl, by simp⟩) (fun _ => rfl) e2
 have hf : (fin ((drawL d).take n)).1 = ⟨n, true⟩ := by
  rcases hs with hs | hs
  ·have := hs.2.2
   omega
  ·exact hs
 rw [e']
 have hc : (textOf ((drawL d).take n) ++ x).count 10 = n := by
  rw [List.count_append, textOf_count _ hT, List.count_eq_zero.2 hx, List.length_take]
  omega
 rw [hc]
 unfold dec
 rw [hl.1, hf, if_pos (.inl rfl)]
end Go.Proofs.YtnmmhcchpcbeeaaGreatDoor.Gt
