/- 'm[k] += v' on a map that the call made, the key reckoned once: the entry made ahead of the look-up or behind it. Conditions: as stated; no function is in sight. -/
import Derived.Test.YteldekkodhfkkaaGreatDoorProg
import Derived.Maps.OwnSet
import Derived.WideKeyEntry
import Derived.DeepKeys4
namespace Go.Proofs.YteldekkodhfkkaaGreatDoor.OdW
open Go Go.RowKit
open Go.WideMaps (KeyLaw)
open Go.ChangeMaps (setBlock heap_setBlock_same heap_setBlock_other)
open Go.Maps (Keyed)
section
variable {H : Type} {P : Program} {t k e : TypeId}

theorem setBlock_self {w : World} {b : Nat} {o : Obj} (h : w.heap[b]? = some o) : setBlock w b o = w := by
  unfold setBlock
  have : w.heap.setIfInBounds b o = w.heap := by
    apply Array.ext_getElem?
    intro i
    rw [Array.getElem?_setIfInBounds]
    split
    · rename_i hbi
      subst hbi
      split
      · exact h.symm
      · rename_i hlt
        rw [Array.getElem?_eq_none (by omega)] at h
        cases h
    · rfl
  rw [this]
theorem map_add {w : World} {b n : Nat} {D : DataW H} (h : w.ownsMap P k (plainElem P e) b n D) (KL : KeyLaw P k) (ht : P.underlying t = some (.map k e)) (he : P.underlying e = some (.int .i64))
    (hz : ∀ u : World, (zeroValue e).run P u = .ok (.int .i64 0) u) (hn : n < maxLen) {key : Value} {kl : Lit} (hkey : keyOf P k key = some kl) :
    ∃ (c : Int) (v0 : Value) (st : Nat) (w2 : World), D.atKey kl (.lit (.int .i64 0)) = .lit (.int .i64 c) ∧ (Lit.int .i64 c).wf = true ∧
      (Instr.lookup t (.map (some b)) key false).run P w = .ok (.int .i64 c) w ∧
      (Instr.mapEntry t (.map (some b)) key).run P w = .ok (.tuple #[v0, goInt st]) w2 ∧
      (Instr.lookup t (.map (some b)) key false).run P w2 = .ok (.int .i64 c) w2 ∧ w.grownBy w2 (some b) ∧ w2.heap.size = w.heap.size ∧
      ∀ q : Int, (Lit.int .i64 q).wf = true → ∃ w3, (Instr.entryStore t (.map (some b)) (goInt st) (.int .i64 q)).run P w2 = .ok () w3 ∧ w3.ownsMap P k (plainElem P e) b (n + 1) (D.put kl (.lit (.int .i64 q))) ∧ w.grownBy w3 (some b) ∧ w3.heap.size = w.heap.size := by
  have K : Keyed P k := Keyed.of_law KL
  obtain ⟨c, hlook, hat, hwc⟩ := h.lookup_int K ht he (hz w) hkey
  have h' := h
  obtain ⟨es, clock, hb, F, hs, hD⟩ := h
  obtain ⟨v0, st, es1, clock1, hE, _, hS⟩ := WideElems.entry_then_store KL ht hz hb F hkey
  have hgrow : ∀ o : Obj, w.grownBy (setBlock w b o) (some b) := fun o => ⟨rfl, rfl, rfl, by simp [setBlock], fun i _ hi => heap_setBlock_other hb _ (fun e => hi (by rw [e]))⟩
  have hsize : ∀ o : Obj, (setBlock w b o).heap.size = w.heap.size := fun o => by simp [setBlock]
  refine ⟨c, v0, st, setBlock w b (.map es1 clock1), hat, hwc, hlook, hE, ?_, hgrow _, hsize _, ?_⟩
  · rcases KL.find w hkey es.toList F.keys with ⟨h1, h2⟩ | ⟨j, e0, h1, h2, h3⟩
    · -- no entry yet: one with nought is made
      have hrun : (Instr.mapUpdate t (.map (some b)) key (.int .i64 0)).run P w = .ok () (setBlock w b (.map (es.push ⟨key, .int .i64 0, clock⟩) (clock + 1))) := by
        simp [Instr.mapUpdate, run_underlying ht, MapKept.run_getObj_map hb, KL.check w false hkey, h1, MapKept.run_setObj_map _ hb, Result.andThen, setBlock]
      have hent : (Instr.mapEntry t (.map (some b)) key).run P w = .ok (.tuple #[.int .i64 0, goInt clock]) (setBlock w b (.map (es.push ⟨key, .int .i64 0, clock⟩) (clock + 1))) := by
        simp [Instr.mapEntry, run_underlying ht, MapKept.run_getObj_map hb, KL.check w false hkey, h1, hz, MapKept.run_setObj_map _ hb, Result.andThen, setBlock]
      rw [hE] at hent
      have hw := (Result.ok.inj hent).2
      obtain ⟨w', hrun', hown', _⟩ := h'.update K ht hn hkey (plainElem_int he (a := 0) (by decide))
      rw [hrun] at hrun'
      have hw' := (Result.ok.inj hrun').2
      subst hw'
      obtain ⟨c', hlook', hat', _⟩ := hown'.lookup_int K ht he (hz _) hkey
      rw [hw]
      have e1 : c' = 0 := by
        have hkl := K.key hkey
        rw [Maps.atKey_put_same h'.isMap hkl] at hat'
        simpa using hat'.symm
      have e2 : c = 0 := by
        have hlk : (Instr.lookup t (.map (some b)) key false).run P w = .ok (.int .i64 0) w := by
          simp [Instr.lookup, run_underlying ht, MapKept.run_getObj_map hb, KL.check w es.isEmpty hkey, h1, hz, Result.andThen]
        rw [hlook] at hlk
        have h := (Result.ok.inj hlk).1
        simpa using h
      rw [e2]
      rw [e1] at hlook'
      exact hlook'
    · have hj : es[j]? = some e0 := by simpa using h2
      have hsame : es.modify j (fun e => { e with key := key }) = es := by
        apply Array.ext_getElem?
        intro i
        rw [Array.getElem?_modify]
        split
        · rename_i hij
          subst hij
          rw [hj, ← h3]
          rfl
        · rfl
      have hent : (Instr.mapEntry t (.map (some b)) key).run P w = .ok (.tuple #[e0.val, goInt e0.born]) (setBlock w b (.map es clock)) := by
        simp [Instr.mapEntry, run_underlying ht, MapKept.run_getObj_map hb, KL.check w false hkey, h1, hj, h3, KL.stays w hkey, hsame, MapKept.run_setObj_map _ hb, Result.andThen, setBlock]
      rw [hE] at hent
      have hw := (Result.ok.inj hent).2
      rw [hw, setBlock_self hb]
      exact hlook
  · intro q hq
    obtain ⟨es', clock', hst, hup⟩ := hS (setBlock w b (.map es1 clock1)) (.int .i64 q) (heap_setBlock_same hb _)
    obtain ⟨w', hrun', hown', hg'⟩ := h'.update K ht hn hkey (plainElem_int he hq)
    rw [hup] at hrun'
    have hw' := (Result.ok.inj hrun').2
    subst hw'
    have e2 : setBlock (setBlock w b (.map es1 clock1)) b (.map es' clock') = setBlock w b (.map es' clock') := by
      unfold setBlock
      simp
    refine ⟨_, hst, ?_, ?_, ?_⟩
    · rw [e2]; exact hown'
    · rw [e2]; exact hg'
    · rw [e2]; exact hsize _
end
end Go.Proofs.YteldekkodhfkkaaGreatDoor.OdW
