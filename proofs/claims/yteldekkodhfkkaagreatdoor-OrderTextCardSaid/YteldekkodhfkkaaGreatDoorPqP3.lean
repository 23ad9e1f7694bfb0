/- Walk: the program's Print. Conditions: the library's table of digits holds what its text lays; the list lies in memory; its texts are short. -/
import Derived.Test.YteldekkodhfkkaaGreatDoorProg
import Derived.Test.YteldekkodhfkkaaGreatDoorMem
import Derived.Lib.Strings
import Derived.Lib.Slices
import Derived.Lib.Walk
import Derived.Lib.Builder
import Derived.Lib.AppendStr
import Derived.Lib.UnsafeStr
import Derived.WalkKit
import Derived.Lib.Hide
import Derived.Laws.Externs
import Derived.Laws.IdiomCopy
import Derived.Shelf.Abstract
import Derived.Test.YteldekkodhfkkaaGreatDoorShelf2
import Derived.Lib.OthersKept
import Derived.Test.YteldekkodhfkkaaGreatDoorPqP2

namespace Go.Proofs.YteldekkodhfkkaaGreatDoor.NcW
open Go Go.RowKit Go.Proofs.YteldekkodhfkkaaGreatDoor.Mem

theorem b_size : (Tryz.prog.info? 60).map (·.size) = some 2 := by kernel_rfl
theorem b_lies : liesAt Tryz.prog Tryz.prog.depth 60 (2 / Tryz.prog.cellsOf 60) 0 60 1 = true := by kernel_rfl
theorem byte_info : (Tryz.prog.info? 5).map (fun i => (i.zero, i.size, i.bytes)) = some (some (.int .u8 0), 1, 1) := by kernel_rfl

set_option maxHeartbeats 1000000 in
set_option maxRecDepth 100000 in
theorem copyCheck_used (b : Nat) (w : World) (h0 : w.cell? ⟨b, 0, none⟩ = some (.pointer (some ⟨b, 0, none⟩))) :
    Calls Tryz.prog 47 #[.pointer (some ⟨b, 0, none⟩)] w fun e w' => e = .returned (.tuple #[]) ∧ w' = w := by
  obtain ⟨j, hj, _⟩ := Option.map_eq_some_iff.1 b_size
  go_enter Tryz.func47, Tryz.ntmps47
  go_wp2
  rw [Lib.run_neq_ptr_same w _ Tryz.underlying57 hj]
  go_wp2
  go_end0
  exact ⟨rfl, rfl⟩
set_option maxHeartbeats 1000000 in
set_option maxRecDepth 100000 in
theorem copyCheck_fresh (b : Nat) (w : World) (h0 : w.cell? ⟨b, 0, none⟩ = some (.pointer none)) (hsh : w.shape? b = some (60, 2)) (hfz : w.frozen? ⟨b, 0, none⟩ = false) :
    Calls Tryz.prog 47 #[.pointer (some ⟨b, 0, none⟩)] w fun e w' => e = .returned (.tuple #[]) ∧ w' = w.setCell ⟨b, 0, none⟩ (.pointer (some ⟨b, 0, none⟩)) := by
  obtain ⟨j, hj, hjs⟩ := Option.map_eq_some_iff.1 b_size
  go_enter Tryz.func47, Tryz.ntmps47
  go_wp2
  rw [Lib.run_to_unsafe w ⟨b, 0, none⟩ Tryz.underlying57 Tryz.underlying102 hj (by rw [hjs]; decide) hsh (Nat.zero_lt_succ 1)]
  simp only [Result.andThen]
  rw [Oper.upon_value]
  go_wp2
  rw [run_callFunc_extern Tryz.func70 (by kernel_rfl) (by kernel_rfl) (by kernel_rfl) (e := Extern.AbiNoEscape.same) (by kernel_rfl)]
  rw [Lib.run_noEscape]
  simp only [Result.andThen]
  rw [Oper.upon_value]
  go_wp2
  rw [Lib.run_from_unsafe w ⟨b, 0, none⟩ Tryz.underlying102 Tryz.underlying57 hj hsh b_lies]
  simp only [Result.andThen]
  rw [Oper.upon_value]
  go_wp2
  go_end0
  exact ⟨rfl, rfl⟩
theorem copyCheck_any (B b : Nat) (bs : List Value) (w : World) (h : Lib.IsBuilder 60 5 B b bs w) :
    Calls Tryz.prog 47 #[.pointer (some ⟨b, 0, none⟩)] w fun e w' => e = .returned (.tuple #[]) ∧ (Lib.BuilderAt 60 5 B b (.pointer (some ⟨b, 0, none⟩)) bs w' ∧ Below B w w') := by
  rcases h with h | h
  · refine (copyCheck_fresh b w h.cell0 h.shape h.frozen0).mono ?_
    rintro e w' ⟨rfl, rfl⟩
    exact ⟨rfl, h.used _, (Below.refl B w).setCell (p := ⟨b, 0, none⟩) h.1 _⟩
  · refine (copyCheck_used b w h.cell0).mono ?_
    rintro e w' ⟨rfl, rfl⟩
    exact ⟨rfl, h, Below.refl B _⟩

set_option maxHeartbeats 2000000 in
set_option maxRecDepth 100000 in
theorem writeString_any (B b : Nat) (bs : List Value) (s : ByteArray) (w : World) (h : Lib.IsBuilder 60 5 B b bs w) (hlen : bs.length + s.size ≤ 140737488355328) (hBw : B ≤ w.heap.size) :
    Calls Tryz.prog 24 #[.pointer (some ⟨b, 0, none⟩), .string s] w fun e w' => e = .returned (.tuple #[.int .i64 s.size, .nilIface]) ∧ (Lib.BuilderAt 60 5 B b (.pointer (some ⟨b, 0, none⟩)) (bs ++ Lib.strCells s) w' ∧ Below B w w') := by
  obtain ⟨i0, hi, hz0, hz1, hz2⟩ := info_parts byte_info
  go_enter Tryz.func24, Tryz.ntmps24
  go_wp2_with (go_at_call 47; refine (copyCheck_any B b bs _ h).mono ?_)
  rintro e w1 ⟨rfl, h1, hb1⟩
  obtain ⟨hB, v, hbk, hown, hne⟩ := h1
  have c0 : w1.cell? ⟨b, 0, none⟩ = some (.pointer (some ⟨b, 0, none⟩)) := by rw [Lib.cell_of_heap hbk]; rfl
  have c1 : w1.cell? ⟨b, 1, none⟩ = some v := by rw [Lib.cell_of_heap hbk]; rfl
  go_wp2_with (at_builtin; refine Lib.wpList_append_own_string _ rfl _ _ 58 9 rfl B 5 i0 Tryz.underlying58 Tryz.underlying9 hi hz0 hz1 hz2 _ _ _ rfl hown s rfl ?c3 ?c4 ?c5 ?_)
  case c3 => unfold maxLen; omega
  case c4 => omega
  case c5 => have := hb1.size; omega
  intro v' w2 hown' hgrow _
  have hlt : b < w1.heap.size := by
    rcases Nat.lt_or_ge b w1.heap.size with h' | h'
    · exact h'
    · simp [Array.getElem?_eq_none h'] at hbk
  have hb2 : w2.heap[b]? = some (.cells #[.pointer (some ⟨b, 0, none⟩), v] 60 (0, 0)) := by
    rw [hgrow.block b hlt (fun e => hne e.symm)]
    exact hbk
  have d0 : w2.cell? ⟨b, 0, none⟩ = some (.pointer (some ⟨b, 0, none⟩)) := by rw [Lib.cell_of_heap hb2]; rfl
  have d1 : w2.cell? ⟨b, 1, none⟩ = some v := by rw [Lib.cell_of_heap hb2]; rfl
  have f1 : w2.frozen? ⟨b, 1, none⟩ = false := Lib.frozen_of_heap hb2 1
  obtain ⟨ao, n', cap, rfl⟩ : ∃ ao n' cap, v' = .slice ao n' cap := by
    rcases hown'.2 with ⟨hv, _⟩ | ⟨g, cap, cur, hv, _⟩
    · exact ⟨_, _, _, hv⟩
    · exact ⟨_, _, _, hv⟩
  go_wp2
  go_ret2
  refine ⟨rfl, ?_, ?_⟩
  · exact Lib.BuilderAt.put (T := 60) (e := 5) hB hb2 (bs' := bs ++ Lib.strCells s) (by simpa [Lib.strCells_length] using hown') (by decide)
  · exact (hb1.grown hgrow (by have := hb1.size; omega) (fun k hk => (hown.lt k hk).1)).setCell (p := ⟨b, 1, none⟩) hB _
end Go.Proofs.YteldekkodhfkkaaGreatDoor.NcW

namespace Go.Proofs.YteldekkodhfkkaaGreatDoor.PqW
open Go Go.RowKit Go.Proofs.YteldekkodhfkkaaGreatDoor.Mem
open Go.Proofs.YteldekkodhfkkaaGreatDoor.NcW (copyCheck_used copyCheck_fresh byte_info)

theorem copyCheck_k (B b : Nat) (bs : List Value) (w : World) (h : Lib.IsBuilder 60 5 B b bs w) :
    Calls Tryz.prog 47 #[.pointer (some ⟨b, 0, none⟩)] w fun e w' => e = .returned (.tuple #[]) ∧ (Lib.BuilderAt 60 5 B b (.pointer (some ⟨b, 0, none⟩)) bs w' ∧ Below B w w' ∧ Lib.OthersKept 5 (some b) w w') := by
  rcases h with h | h
  · refine (copyCheck_fresh b w h.cell0 h.shape h.frozen0).mono ?_
    rintro e w' ⟨rfl, rfl⟩
    exact ⟨rfl, h.used _, (Below.refl B w).setCell (p := ⟨b, 0, none⟩) h.1 _, (Lib.OthersKept.refl _ _ w).setCell ⟨b, 0, none⟩ rfl _⟩
  · refine (copyCheck_used b w h.cell0).mono ?_
    rintro e w' ⟨rfl, rfl⟩
    exact ⟨rfl, h, Below.refl B _, Lib.OthersKept.refl _ _ _⟩

set_option maxHeartbeats 2000000 in
set_option maxRecDepth 100000 in
theorem writeString_k (B b : Nat) (bs : List Value) (s : ByteArray) (w : World) (h : Lib.IsBuilder 60 5 B b bs w) (hlen : bs.length + s.size ≤ 140737488355328) (hBw : B ≤ w.heap.size) :
    Calls Tryz.prog 24 #[.pointer (some ⟨b, 0, none⟩), .string s] w fun e w' => e = .returned (.tuple #[.int .i64 s.size, .nilIface]) ∧ (Lib.BuilderAt 60 5 B b (.pointer (some ⟨b, 0, none⟩)) (bs ++ Lib.strCells s) w' ∧ Below B w w' ∧ Lib.OthersKept 5 (some b) w w') := by
  obtain ⟨i0, hi, hz0, hz1, hz2⟩ := info_parts byte_info
  go_enter Tryz.func24, Tryz.ntmps24
  go_wp2_with (go_at_call 47; refine (copyCheck_k B b bs _ h).mono ?_)
  rintro e w1 ⟨rfl, h1, hb1, hk1⟩
  have HK1 := Lib.hid hk1
  clear hk1
  obtain ⟨hB, v, hbk, hown, hne⟩ := h1
  have c0 : w1.cell? ⟨b, 0, none⟩ = some (.pointer (some ⟨b, 0, none⟩)) := by rw [Lib.cell_of_heap hbk]; rfl
  have c1 : w1.cell? ⟨b, 1, none⟩ = some v := by rw [Lib.cell_of_heap hbk]; rfl
  go_wp2_with (at_builtin; refine Lib.wpList_append_own_string _ rfl _ _ 58 9 rfl B 5 i0 Tryz.underlying58 Tryz.underlying9 hi hz0 hz1 hz2 _ _ _ rfl hown s rfl ?c3 ?c4 ?c5 ?_)
  case c3 => unfold maxLen; omega
  case c4 => omega
  case c5 => have := hb1.size; omega
  intro v' w2 hown' hgrow _
  have hlt : b < w1.heap.size := by
    rcases Nat.lt_or_ge b w1.heap.size with h' | h'
    · exact h'
    · simp [Array.getElem?_eq_none h'] at hbk
  have hb2 : w2.heap[b]? = some (.cells #[.pointer (some ⟨b, 0, none⟩), v] 60 (0, 0)) := by
    rw [hgrow.block b hlt (fun e => hne e.symm)]
    exact hbk
  have d0 : w2.cell? ⟨b, 0, none⟩ = some (.pointer (some ⟨b, 0, none⟩)) := by rw [Lib.cell_of_heap hb2]; rfl
  have d1 : w2.cell? ⟨b, 1, none⟩ = some v := by rw [Lib.cell_of_heap hb2]; rfl
  have f1 : w2.frozen? ⟨b, 1, none⟩ = false := Lib.frozen_of_heap hb2 1
  obtain ⟨ao, n', cap, rfl⟩ : ∃ ao n' cap, v' = .slice ao n' cap := by
    rcases hown'.2 with ⟨hv, _⟩ | ⟨g, cap, cur, hv, _⟩
    · exact ⟨_, _, _, hv⟩
    · exact ⟨_, _, _, hv⟩
  go_wp2
  go_ret2
  refine ⟨rfl, ?_, ?_, ?_⟩
  · exact Lib.BuilderAt.put (T := 60) (e := 5) hB hb2 (bs' := bs ++ Lib.strCells s) (by simpa [Lib.strCells_length] using hown') (by decide)
  · exact (hb1.grown hgrow (by have := hb1.size; omega) (fun k hk => (hown.lt k hk).1)).setCell (p := ⟨b, 1, none⟩) hB _
  · refine (HK1.out.grown hgrow (fun g hg => ?_)).setCell ⟨b, 1, none⟩ rfl _
    rcases hown.2 with ⟨hv, _⟩ | ⟨g', cap', cur', hv, _, hh, _⟩
    · rw [hv] at hg
      simp [Value.ownBlock] at hg
    · rw [hv] at hg
      have : g' = g := by simpa [Value.ownBlock] using hg
      subst this
      exact ⟨_, _, hh⟩

theorem strCells_mk (l : List UInt8) : Lib.strCells ⟨l.toArray⟩ = Lib.byteCells l := by
  simp [Lib.strCells, Lib.byteCells]
theorem byteCells_app (a b : List UInt8) : Lib.byteCells (a ++ b) = Lib.byteCells a ++ Lib.byteCells b := by simp [Lib.byteCells]
theorem isBuilder_below {T e : TypeId} {B b : Nat} {bs : List Value} {w w' : World} (h : Lib.IsBuilder T e B b bs w) (hb : Below w.heap.size w w') : Lib.IsBuilder T e B b bs w' := by
  have hat : ∀ p, Lib.BuilderAt T e B b p bs w → Lib.BuilderAt T e B b p bs w' := by
    rintro p hp
    have hlt := hp.lt
    obtain ⟨hB, v, hbk, hown, hne⟩ := hp
    exact ⟨hB, v, by rw [hb.block b hlt]; exact hbk, own_below hown hb, hne⟩
  exact h.elim (fun x => .inl (hat _ x)) (fun x => .inr (hat _ x))
theorem b_new (w : World) (B : Nat) (hB : B ≤ w.heap.size) : Lib.IsBuilder 60 5 B w.heap.size [] (w.alloc (.cells #[.pointer none, .slice none 0 0] 60)) :=
  .inl ⟨hB, .slice none 0 0, heap_alloc_new w _, World.ownsRow_nil _ _ _ _, by simp [Value.ownBlock]⟩
end Go.Proofs.YteldekkodhfkkaaGreatDoor.PqW

namespace Go.Proofs.YteldekkodhfkkaaGreatDoor.PqW
open Go Go.RowKit Go.Proofs.YteldekkodhfkkaaGreatDoor.Mem
open Go.Proofs.YteldekkodhfkkaaGreatDoor.OdW (itCells it_len text_eq valid_any)
open Go.Proofs.YteldekkodhfkkaaGreatDoor.LexW (itoa_any Laid)
attribute [local go_sem ↓] Go.wp_at_zero Go.wp_at_succ

theorem open_str0 (o : List UInt8) : (ByteArray.mk #[111, 114, 100, 101, 114, 32]) ++ (ByteArray.mk o.toArray) ++ (ByteArray.mk #[32, 123, 10]) = ⟨(Pq.openT o).toArray⟩ := by
  have h1 := str_append Pq.cOrder o
  have h2 := str_append (Pq.cOrder ++ o) Pq.cOpen
  rw [← h1] at h2
  exact h2
theorem line_str0 (p q d : List UInt8) : (ByteArray.mk #[9, 112, 97, 114, 116, 32]) ++ (ByteArray.mk p.toArray) ++ (ByteArray.mk #[32, 113, 117, 97, 110, 116, 105, 116, 121, 32]) ++ (ByteArray.mk q.toArray) ++ (ByteArray.mk #[32, 100, 117, 101, 32]) ++ (ByteArray.mk d.toArray) ++ (ByteArray.mk #[59, 10]) = ⟨(Pq.cPart ++ p ++ Pq.cQuantity ++ q ++ Pq.cDue ++ d ++ Pq.cSemi).toArray⟩ := by
  have h2 := str_append Pq.cPart p
  have h3 := str_append (Pq.cPart ++ p) Pq.cQuantity
  have h4 := str_append (Pq.cPart ++ p ++ Pq.cQuantity) q
  have h5 := str_append (Pq.cPart ++ p ++ Pq.cQuantity ++ q) Pq.cDue
  have h6 := str_append (Pq.cPart ++ p ++ Pq.cQuantity ++ q ++ Pq.cDue) d
  have h7 := str_append (Pq.cPart ++ p ++ Pq.cQuantity ++ q ++ Pq.cDue ++ d) Pq.cSemi
  rw [← h6, ← h5, ← h4, ← h3, ← h2] at h7
  exact h7
theorem keepx {w w' : World} {xb : Nat} {o : Obj} (h : w.heap[xb]? = some o) (hb : Below w.heap.size w w') : w'.heap[xb]? = some o := (hb.block xb (heap_lt h)).trans h
theorem cells3 {w : World} {xb : Nat} {a b c d : Value} {T : TypeId} (h : w.heap[xb]? = some (.cells #[a, b, c, d] T (0, 0))) : w.cell? ⟨xb, 1, none⟩ = some b ∧ w.cell? ⟨xb, 2, none⟩ = some c ∧ w.cell? ⟨xb, 3, none⟩ = some d :=
  ⟨cell_of h 1 _ rfl, cell_of h 2 _ rfl, cell_of h 3 _ rfl⟩
theorem keep3 {w w' : World} {xb : Nat} {b c d : Value} (h : w.cell? ⟨xb, 1, none⟩ = some b ∧ w.cell? ⟨xb, 2, none⟩ = some c ∧ w.cell? ⟨xb, 3, none⟩ = some d) (hb : Below w.heap.size w w') : w'.cell? ⟨xb, 1, none⟩ = some b ∧ w'.cell? ⟨xb, 2, none⟩ = some c ∧ w'.cell? ⟨xb, 3, none⟩ = some d := by
  have hl := World.block_lt_of_cell? w _ h.1
  exact ⟨(hb.cell (p := ⟨xb, 1, none⟩) hl).trans h.1, (hb.cell (p := ⟨xb, 2, none⟩) hl).trans h.2.1, (hb.cell (p := ⟨xb, 3, none⟩) hl).trans h.2.2⟩
theorem byteCells_len (l : List UInt8) : (Lib.byteCells l).length = l.length := by simp [Lib.byteCells]

set_option maxRecDepth 100000 in
set_option maxHeartbeats 4000000 in
theorem print_any (l : List Od.It) (A : Option Addr) (c : Nat) (w : World) (hL : Laid w) (hr : Row w A (l.flatMap itCells)) (hl : l.length ≤ 1000000) (hsh : ∀ m ∈ l, Od.Short m) :
    Calls Tryz.prog 8 #[.slice A l.length c] w fun e w' => e = .returned (.tuple #[.string ⟨(Pq.print l).1.toArray⟩, .int .i64 (Pq.print l).2]) ∧ Below w.heap.size w w' := by
  have HV := Lib.hid (fun W h => valid_any l A c W h hl hsh)
  have HR := Lib.hid hr
  have HL := Lib.hid hL
  clear hr hL
  by_cases hv : Od.valid l = true
  · rw [hv] at HV
    have hl100 := Od.valid_len hv
    have HOK := Lib.hid (fun x (hx : x ∈ l) => Od.valid_ok hv hx)
    have HP := Lib.hid (show Pq.print l = (Pq.text none l, 0) by unfold Pq.print; rw [if_pos hv])
    have hst : Hid ([] ++ Pq.text (Pq.prev l 0) (l.drop 0) = Pq.text none l) := Lib.hid rfl
    have HTT : Hid ((Pq.text none l).length ≤ 10000) := Lib.hid (by have := Pq.text_len l none (fun x hx => Od.valid_ok hv hx); omega)
    generalize hTT : Pq.text none l = TT at *
    clear hv hTT
    go_enter Tryz.func8, Tryz.ntmps8
    go_wp2_with fail
    refine (HV.out _ HR.out).mono ?_
    rintro e w1 ⟨rfl, hb1⟩
    have hbn := Lib.hid (b_new w1 w.heap.size hb1.size)
    have hb2 := Lib.hid (hb1.alloc hb1.size (.cells #[.pointer none, .slice none 0 0] 60))
    clear hb1
    go_wp2_with fail
    generalize hbb : w1.heap.size = b at *
    go_loopw [12] (fun t wr => ∃ (k : Nat) (acc : List UInt8), k ≤ l.length ∧ t = .int .i64 k ∧ Lib.IsBuilder 60 5 w.heap.size b (Lib.byteCells acc) wr ∧ Hid (acc ++ Pq.text (Pq.prev l k) (l.drop k) = TT ∧ acc.length ≤ 20000) ∧ Below w.heap.size w wr) (fun t _ => l.length - (intOf t).toNat)
    case atStart => exact ⟨0, [], Nat.zero_le _, rfl, hbn.out, Lib.hid ⟨hst.out, by simp⟩, hb2.out⟩
    case round =>
      obtain ⟨k, acc, hk, rfl, hBld, HACC, hbel⟩ := hrel
      have hbx : b < wr.heap.size := hBld.elim (fun h => h.lt) (fun h => h.lt)
      by_cases hlt : k < l.length
      · by_cases hz : k = 0
        · by_cases hla : k = l.length - 1
          · obtain ⟨g, off, hAe, hg, ca⟩ := row_get it_len (by decide) HR.out (by omega)
            subst hAe
            have a0 := (hbel.cell (p := ⟨g, _, none⟩) hg).trans (ca (k) hlt 0 (by decide))
            have a1 := (hbel.cell (p := ⟨g, _, none⟩) hg).trans (ca (k) hlt 1 (by decide))
            have a2 := (hbel.cell (p := ⟨g, _, none⟩) hg).trans (ca (k) hlt 2 (by decide))
            have a3 := (hbel.cell (p := ⟨g, _, none⟩) hg).trans (ca (k) hlt 3 (by decide))
            have hlen := Pq.ok_lens (HOK.out l[k] (List.getElem_mem hlt))
            have hqd := Od.ok_parts (HOK.out l[k] (List.getElem_mem hlt))
            have HQ := Lib.hid (fun W h => itoa_any l[k].q W h (by omega) (by omega))
            have HD := Lib.hid (fun W h => itoa_any l[k].d W h (by omega) (by omega))
            have hnew : Pq.prev l k ≠ some l[k].o := by unfold Pq.prev; rw [if_pos hz]; simp
            have kz : ((k : Int) == 0) = true := by simp; omega
            have hend : Pq.ends l[k].o (l.drop (k + 1)) = true := by rw [List.drop_eq_nil_of_le (by omega)]; rfl
            have lz : ((k : Int) == (l.length : Int) - 1) = true := by simp; omega
            have x2 : IntKind.i64.wrap ((l.length : Int) - 1) = (l.length : Int) - 1 := by rw [wrapEq]; unfold wrap64; omega
            have i0 : (0 : Int) ≤ (k : Int) := by omega
            have i1 : (k : Int) < (l.length : Int) := by omega
            have hst := Pq.text_drop hlt
            rw [if_neg hnew, if_pos hend] at hst
            have HST := Lib.hid hst
            clear hst hend hnew ca
            generalize hM : l[k] = m at *
            clear hM
            obtain ⟨mo, mp, mq, md⟩ := m
            simp only [itCells, List.getElem?_cons_zero, List.getElem?_cons_succ, Nat.add_zero] at a0 a1 a2 a3
            simp only at hlen hqd HQ HD HST
            unfold Pq.lineT at HST
            simp only at HST
            have hsz := HACC.out.2
            rw [← str_size mo, ← str_size mp, ← str_size (Lib.itoa mq), ← str_size (Lib.itoa md)] at hlen
            obtain ⟨acc1, HA1⟩ : ∃ acc1, Hid (acc1 = acc ++ Pq.openT mo) := ⟨_, Lib.hid rfl⟩
            obtain ⟨acc2, HA2⟩ : ∃ acc2, Hid (acc2 = acc1 ++ (Pq.cPart ++ mp ++ Pq.cQuantity ++ Lib.itoa mq ++ Pq.cDue ++ Lib.itoa md ++ Pq.cSemi)) := ⟨_, Lib.hid rfl⟩
            obtain ⟨acc3, HA3⟩ : ∃ acc3, Hid (acc3 = acc2 ++ Pq.cClose) := ⟨_, Lib.hid rfl⟩
            have HNX : Hid (acc3 ++ Pq.text (Pq.prev l (k + 1)) (l.drop (k + 1)) = TT ∧ acc3.length ≤ 20000) := Lib.hid (by
              have e : acc3 ++ Pq.text (Pq.prev l (k + 1)) (l.drop (k + 1)) = TT := by
                rw [← HACC.out.1, HST.out, HA3.out, HA2.out, HA1.out]
                simp
              refine ⟨e, ?_⟩
              have := congrArg List.length e
              rw [List.length_append] at this
              have := HTT.out
              omega)
            have HL3 : Hid (acc1.length ≤ 20000 ∧ acc2.length ≤ 20000) := Lib.hid (by
              have h9 := HNX.out.2
              have e2 := congrArg List.length HA2.out
              have e3 := congrArg List.length HA3.out
              simp only [List.length_append] at e2 e3
              omega)
            have E1 := Lib.hid (open_str0 mo)
            have E2 := Lib.hid (line_str0 mp (Lib.itoa mq) (Lib.itoa md))
            generalize Lib.itoa mq = tq at *
            generalize Lib.itoa md = td at *
            generalize (Pq.cPart ++ mp ++ Pq.cQuantity ++ tq ++ Pq.cDue ++ td ++ Pq.cSemi) = ln at *
            generalize Pq.openT mo = op at *
            generalize hOB : (ByteArray.mk mo.toArray) = OB at *
            generalize hPB : (ByteArray.mk mp.toArray) = PB at *
            generalize hQB : (ByteArray.mk tq.toArray) = QB at *
            generalize hDB : (ByteArray.mk td.toArray) = DB at *
            clear hOB hPB hQB hDB
            have m2 : (9223372036854775807 < 6 + OB.size) = False := eq_false (by omega)
            have m3 : (9223372036854775807 < 6 + OB.size + 3) = False := eq_false (by omega)
            have HN1 : Hid ((Lib.byteCells acc).length + (ByteArray.mk #[111, 114, 100, 101, 114, 32] ++ OB ++ ByteArray.mk #[32, 123, 10]).size ≤ 140737488355328) := Lib.hid (by rw [byteCells_len, ByteArray.size_append, ByteArray.size_append]; have : (ByteArray.mk #[111, 114, 100, 101, 114, 32]).size = 6 := rfl; have : (ByteArray.mk #[32, 123, 10]).size = 3 := rfl; omega)
            have HN2 : Hid ((Lib.byteCells acc1).length + (ByteArray.mk #[9, 112, 97, 114, 116, 32] ++ PB ++ ByteArray.mk #[32, 113, 117, 97, 110, 116, 105, 116, 121, 32] ++ QB ++ ByteArray.mk #[32, 100, 117, 101, 32] ++ DB ++ ByteArray.mk #[59, 10]).size ≤ 140737488355328) := Lib.hid (by
              have := HL3.out.1
              rw [byteCells_len, ByteArray.size_append, ByteArray.size_append, ByteArray.size_append, ByteArray.size_append, ByteArray.size_append, ByteArray.size_append]; have : (ByteArray.mk #[9, 112, 97, 114, 116, 32]).size = 6 := rfl; have : (ByteArray.mk #[32, 113, 117, 97, 110, 116, 105, 116, 121, 32]).size = 10 := rfl; have : (ByteArray.mk #[32, 100, 117, 101, 32]).size = 5 := rfl; have : (ByteArray.mk #[59, 10]).size = 2 := rfl; omega)
            have HN3 : Hid ((Lib.byteCells acc2).length + (ByteArray.mk #[125, 10]).size ≤ 140737488355328) := Lib.hid (by have := HL3.out.2; rw [byteCells_len]; have : (ByteArray.mk #[125, 10]).size = 2 := rfl; omega)
            have p1 : (9223372036854775807 < 6 + PB.size) = False := eq_false (by omega)
            have p2 : (9223372036854775807 < 6 + PB.size + 10) = False := eq_false (by omega)
            have p3 : (9223372036854775807 < 6 + PB.size + 10 + QB.size) = False := eq_false (by omega)
            have p4 : (9223372036854775807 < 6 + PB.size + 10 + QB.size + 5) = False := eq_false (by omega)
            have p5 : (9223372036854775807 < 6 + PB.size + 10 + QB.size + 5 + DB.size) = False := eq_false (by omega)
            have p6 : (9223372036854775807 < 6 + PB.size + 10 + QB.size + 5 + DB.size + 2) = False := eq_false (by omega)
            clear hz
            clear hla
            have HBL1 := Lib.hid (isBuilder_below hBld (bel1 wr (.cells #[.string OB, .string PB, .int .i64 mq, .int .i64 md] 33)))
            have HBE1 := Lib.hid (hbel.alloc hbel.size (.cells #[.string OB, .string PB, .int .i64 mq, .int .i64 md] 33))
            have HX1 := Lib.hid (heap_alloc_new wr (.cells #[.string OB, .string PB, .int .i64 mq, .int .i64 md] 33))
            have hxb : b < wr.heap.size := hbx
            have hgx : g < wr.heap.size := Nat.lt_of_lt_of_le hg hbel.size
            clear hsz hlen hqd hBld hbel hbx
            go_wp2_with fail
            generalize wr.alloc (.cells #[.string OB, .string PB, .int .i64 mq, .int .i64 md] 33) = W1 at *
            have y0 := cell_of HX1.out 0 _ rfl
            clear a0 a1 a2 a3
            go_quiet (fail)
            have HBL2 := Lib.hid (isBuilder_below HBL1.out (below_drewN (Below.refl _ _) nq))
            have HBE2 := Lib.hid (below_drewN HBE1.out nq)
            have HX2 : Hid ((W1.drewN nq).heap[wr.heap.size]? = some (.cells #[.string OB, .string PB, .int .i64 mq, .int .i64 md] 33)) := Lib.hid HX1.out
            generalize (W1.drewN nq) = W2 at *
            generalize wr.heap.size = xb at *
            clear HBL1 HBE1 HX1 y0
            have y0 := cell_of HX2.out 0 _ rfl
            go_wp2_with fail
            refine (writeString_k w.heap.size b _ _ _ HBL2.out HN1.out HBE2.out.size).mono ?_
            rintro e W3 ⟨rfl, hB3, hb3, hk3⟩
            rw [E1.out, strCells_mk, ← byteCells_app, ← HA1.out] at hB3
            have HBL3 : Hid (Lib.IsBuilder 60 5 w.heap.size b (Lib.byteCells acc1) W3) := Lib.hid (.inr hB3)
            have HBE3 := Lib.hid (HBE2.out.trans hb3)
            have HX3 := Lib.hid (hk3 xb _ HX2.out (by intro e; injection e; omega) (by intro c fz e; cases e))
            clear hB3 hb3 hk3 HBL2 HBE2 HX2 y0
            have HLW := Lib.hid (HL.out.below HBE3.out)
            have hc3 := cells3 HX3.out
            go_wp2_with fail
            go_region_held3 (fun w' => w'.cell? ⟨xb, 1, none⟩ = some (.string PB) ∧ w'.cell? ⟨xb, 2, none⟩ = some (.int .i64 mq) ∧ w'.cell? ⟨xb, 3, none⟩ = some (.int .i64 md))
              (first | assumption | exact cells3 (keepx HX3.out (bdrew (Below.refl _ _))) | exact cells3 HX6.out | exact cells3 HX5.out | exact cells3 HX4.out)
              (first
                | (go_at_call_of 25 (Value.int .i64 mq); refine (HQ.out _ (HLW.out.below (bdrew (Below.refl _ _)))).mono ?_; rintro e w4 ⟨rfl, hb4⟩; have HX4 := Lib.hid (keepx (w := W3.drew) HX3.out hb4))
                | (go_at_call_of 25 (Value.int .i64 md); refine (HD.out _ ((HLW.out.below (bdrew (Below.refl _ _))).below hb4)).mono ?_; rintro e w5 ⟨rfl, hb5⟩; have HX5 := Lib.hid (keepx HX4.out hb5); have HBL5 := Lib.hid (isBuilder_below (isBuilder_below (isBuilder_below HBL3.out (bdrew (Below.refl _ _))) hb4) hb5); have HBE5 := Lib.hid (((bdrew HBE3.out).trans (hb4.mono (bdrew HBE3.out).size)).trans (hb5.mono (((bdrew HBE3.out).trans (hb4.mono (bdrew HBE3.out).size))).size)))
                | (go_at_call 24; refine (writeString_k w.heap.size b _ _ _ HBL5.out HN2.out HBE5.out.size).mono ?_; rintro e w6 ⟨rfl, hB6, hb6, hk6⟩; have HX6 := Lib.hid (hk6 xb _ HX5.out (by intro e; injection e; omega) (by intro c fz e; cases e))))
            rw [E2.out, strCells_mk, ← byteCells_app, ← HA2.out] at hB6
            have HBL6 : Hid (Lib.IsBuilder 60 5 w.heap.size b (Lib.byteCells acc2) w6) := Lib.hid (.inr hB6)
            have HBE6 := Lib.hid (HBE5.out.trans hb6)
            have y0 := cell_of HX6.out 0 _ rfl
            clear hB6 hb6 hk6 hb4 hb5 hc3
            go_wp2_with fail
            go_quiet (fail)
            have HBL7 := Lib.hid (isBuilder_below HBL6.out (below_drewN (Below.refl _ _) nq))
            have HBE7 := Lib.hid (below_drewN HBE6.out nq)
            go_wp2_with fail
            refine (writeString_k w.heap.size b _ _ _ HBL7.out HN3.out HBE7.out.size).mono ?_
            rintro e w8 ⟨rfl, hB8, hb8, hk8⟩
            have hsc : Lib.strCells (ByteArray.mk #[125, 10]) = Lib.byteCells Pq.cClose := rfl
            rw [hsc, ← byteCells_app, ← HA3.out] at hB8
            have HBL8 : Hid (Lib.IsBuilder 60 5 w.heap.size b (Lib.byteCells acc3) w8) := Lib.hid (.inr hB8)
            have HBE8 := Lib.hid (HBE7.out.trans hb8)
            clear hB8 hb8 hk8 hsc
            go_wp2
            go_roundw
            case rel => exact ⟨k + 1, acc3, by omega, by go_num, HBL8.out, HNX, HBE8.out⟩
            case measure => simp [intOf]; omega

          · have hk9 : k + 1 < l.length := by omega
            by_cases hno : l[k + 1].o = l[k].o
            · obtain ⟨g, off, hAe, hg, ca⟩ := row_get it_len (by decide) HR.out (by omega)
              subst hAe
              have a0 := (hbel.cell (p := ⟨g, _, none⟩) hg).trans (ca (k) hlt 0 (by decide))
              have a1 := (hbel.cell (p := ⟨g, _, none⟩) hg).trans (ca (k) hlt 1 (by decide))
              have a2 := (hbel.cell (p := ⟨g, _, none⟩) hg).trans (ca (k) hlt 2 (by decide))
              have a3 := (hbel.cell (p := ⟨g, _, none⟩) hg).trans (ca (k) hlt 3 (by decide))
              have hlen := Pq.ok_lens (HOK.out l[k] (List.getElem_mem hlt))
              have hqd := Od.ok_parts (HOK.out l[k] (List.getElem_mem hlt))
              have HQ := Lib.hid (fun W h => itoa_any l[k].q W h (by omega) (by omega))
              have HD := Lib.hid (fun W h => itoa_any l[k].d W h (by omega) (by omega))
              have hnew : Pq.prev l k ≠ some l[k].o := by unfold Pq.prev; rw [if_pos hz]; simp
              have kz : ((k : Int) == 0) = true := by simp; omega
              have n0 := ca (k + 1) (by omega) 0 (by decide)
              have hend : Pq.ends l[k].o (l.drop (k + 1)) = false := by rw [List.drop_eq_getElem_cons (by omega : k + 1 < l.length)]; simp [Pq.ends, hno]
              have lz : ((k : Int) == (l.length : Int) - 1) = false := by rw [beq_eq_false_iff_ne]; omega
              have es2 := text_eq l[k + 1].o l[k].o
              rw [decide_eq_true hno] at es2
              have i2 : (0 : Int) ≤ (k : Int) + 1 := by omega
              have i3 : (k : Int) + 1 < (l.length : Int) := by omega
              have x1 : IntKind.i64.wrap ((k : Int) + 1) = (k : Int) + 1 := by rw [wrapEq]; unfold wrap64; omega
              have x2 : IntKind.i64.wrap ((l.length : Int) - 1) = (l.length : Int) - 1 := by rw [wrapEq]; unfold wrap64; omega
              have i0 : (0 : Int) ≤ (k : Int) := by omega
              have i1 : (k : Int) < (l.length : Int) := by omega
              have hst := Pq.text_drop hlt
              rw [if_neg hnew, if_neg (by rw [hend]; simp)] at hst
              have HST := Lib.hid hst
              clear hst hend hnew ca
              simp only [itCells, List.getElem?_cons_zero, Nat.add_zero] at n0
              generalize hNO : l[k + 1].o = no at *
              clear hNO
              generalize hM : l[k] = m at *
              clear hM
              obtain ⟨mo, mp, mq, md⟩ := m
              simp only [itCells, List.getElem?_cons_zero, List.getElem?_cons_succ, Nat.add_zero] at a0 a1 a2 a3
              simp only at hlen hqd HQ HD HST es2
              unfold Pq.lineT at HST
              simp only at HST
              have hsz := HACC.out.2
              rw [← str_size mo, ← str_size mp, ← str_size (Lib.itoa mq), ← str_size (Lib.itoa md)] at hlen
              obtain ⟨acc1, HA1⟩ : ∃ acc1, Hid (acc1 = acc ++ Pq.openT mo) := ⟨_, Lib.hid rfl⟩
              obtain ⟨acc2, HA2⟩ : ∃ acc2, Hid (acc2 = acc1 ++ (Pq.cPart ++ mp ++ Pq.cQuantity ++ Lib.itoa mq ++ Pq.cDue ++ Lib.itoa md ++ Pq.cSemi)) := ⟨_, Lib.hid rfl⟩
              obtain ⟨acc3, HA3⟩ : ∃ acc3, Hid (acc3 = acc2) := ⟨_, Lib.hid rfl⟩
              have HNX : Hid (acc3 ++ Pq.text (Pq.prev l (k + 1)) (l.drop (k + 1)) = TT ∧ acc3.length ≤ 20000) := Lib.hid (by
                have e : acc3 ++ Pq.text (Pq.prev l (k + 1)) (l.drop (k + 1)) = TT := by
                  rw [← HACC.out.1, HST.out, HA3.out, HA2.out, HA1.out]
                  simp
                refine ⟨e, ?_⟩
                have := congrArg List.length e
                rw [List.length_append] at this
                have := HTT.out
                omega)
              have HL3 : Hid (acc1.length ≤ 20000 ∧ acc2.length ≤ 20000) := Lib.hid (by
                have h9 := HNX.out.2
                have e2 := congrArg List.length HA2.out
                have e3 := congrArg List.length HA3.out
                simp only [List.length_append] at e2 e3
                omega)
              have E1 := Lib.hid (open_str0 mo)
              have E2 := Lib.hid (line_str0 mp (Lib.itoa mq) (Lib.itoa md))
              have hA3 := HA3.out.symm
              subst hA3
              generalize Lib.itoa mq = tq at *
              generalize Lib.itoa md = td at *
              generalize (Pq.cPart ++ mp ++ Pq.cQuantity ++ tq ++ Pq.cDue ++ td ++ Pq.cSemi) = ln at *
              generalize Pq.openT mo = op at *
              generalize hOB : (ByteArray.mk mo.toArray) = OB at *
              generalize hPB : (ByteArray.mk mp.toArray) = PB at *
              generalize hQB : (ByteArray.mk tq.toArray) = QB at *
              generalize hDB : (ByteArray.mk td.toArray) = DB at *
              clear hOB hPB hQB hDB
              have m2 : (9223372036854775807 < 6 + OB.size) = False := eq_false (by omega)
              have m3 : (9223372036854775807 < 6 + OB.size + 3) = False := eq_false (by omega)
              have HN1 : Hid ((Lib.byteCells acc).length + (ByteArray.mk #[111, 114, 100, 101, 114, 32] ++ OB ++ ByteArray.mk #[32, 123, 10]).size ≤ 140737488355328) := Lib.hid (by rw [byteCells_len, ByteArray.size_append, ByteArray.size_append]; have : (ByteArray.mk #[111, 114, 100, 101, 114, 32]).size = 6 := rfl; have : (ByteArray.mk #[32, 123, 10]).size = 3 := rfl; omega)
              have HN2 : Hid ((Lib.byteCells acc1).length + (ByteArray.mk #[9, 112, 97, 114, 116, 32] ++ PB ++ ByteArray.mk #[32, 113, 117, 97, 110, 116, 105, 116, 121, 32] ++ QB ++ ByteArray.mk #[32, 100, 117, 101, 32] ++ DB ++ ByteArray.mk #[59, 10]).size ≤ 140737488355328) := Lib.hid (by
                have := HL3.out.1
                rw [byteCells_len, ByteArray.size_append, ByteArray.size_append, ByteArray.size_append, ByteArray.size_append, ByteArray.size_append, ByteArray.size_append]; have : (ByteArray.mk #[9, 112, 97, 114, 116, 32]).size = 6 := rfl; have : (ByteArray.mk #[32, 113, 117, 97, 110, 116, 105, 116, 121, 32]).size = 10 := rfl; have : (ByteArray.mk #[32, 100, 117, 101, 32]).size = 5 := rfl; have : (ByteArray.mk #[59, 10]).size = 2 := rfl; omega)
              generalize (ByteArray.mk no.toArray) = NO at *
              have ne2 : (NO.toList != OB.toList) = false := by unfold bne; rw [es2]; rfl
              have p1 : (9223372036854775807 < 6 + PB.size) = False := eq_false (by omega)
              have p2 : (9223372036854775807 < 6 + PB.size + 10) = False := eq_false (by omega)
              have p3 : (9223372036854775807 < 6 + PB.size + 10 + QB.size) = False := eq_false (by omega)
              have p4 : (9223372036854775807 < 6 + PB.size + 10 + QB.size + 5) = False := eq_false (by omega)
              have p5 : (9223372036854775807 < 6 + PB.size + 10 + QB.size + 5 + DB.size) = False := eq_false (by omega)
              have p6 : (9223372036854775807 < 6 + PB.size + 10 + QB.size + 5 + DB.size + 2) = False := eq_false (by omega)
              clear hz
              clear hla hno
              have HBL1 := Lib.hid (isBuilder_below hBld (bel1 wr (.cells #[.string OB, .string PB, .int .i64 mq, .int .i64 md] 33)))
              have HBE1 := Lib.hid (hbel.alloc hbel.size (.cells #[.string OB, .string PB, .int .i64 mq, .int .i64 md] 33))
              have HX1 := Lib.hid (heap_alloc_new wr (.cells #[.string OB, .string PB, .int .i64 mq, .int .i64 md] 33))
              have hxb : b < wr.heap.size := hbx
              have hgx : g < wr.heap.size := Nat.lt_of_lt_of_le hg hbel.size
              clear hsz hlen hqd hBld hbel hbx
              go_wp2_with fail
              generalize wr.alloc (.cells #[.string OB, .string PB, .int .i64 mq, .int .i64 md] 33) = W1 at *
              have y0 := cell_of HX1.out 0 _ rfl
              clear a0 a1 a2 a3
              go_quiet (fail)
              have HBL2 := Lib.hid (isBuilder_below HBL1.out (below_drewN (Below.refl _ _) nq))
              have HBE2 := Lib.hid (below_drewN HBE1.out nq)
              have HX2 : Hid ((W1.drewN nq).heap[wr.heap.size]? = some (.cells #[.string OB, .string PB, .int .i64 mq, .int .i64 md] 33)) := Lib.hid HX1.out
              generalize (W1.drewN nq) = W2 at *
              generalize wr.heap.size = xb at *
              clear HBL1 HBE1 HX1 y0
              have y0 := cell_of HX2.out 0 _ rfl
              go_wp2_with fail
              refine (writeString_k w.heap.size b _ _ _ HBL2.out HN1.out HBE2.out.size).mono ?_
              rintro e W3 ⟨rfl, hB3, hb3, hk3⟩
              rw [E1.out, strCells_mk, ← byteCells_app, ← HA1.out] at hB3
              have HBL3 : Hid (Lib.IsBuilder 60 5 w.heap.size b (Lib.byteCells acc1) W3) := Lib.hid (.inr hB3)
              have HBE3 := Lib.hid (HBE2.out.trans hb3)
              have HX3 := Lib.hid (hk3 xb _ HX2.out (by intro e; injection e; omega) (by intro c fz e; cases e))
              clear hB3 hb3 hk3 HBL2 HBE2 HX2 y0
              have HLW := Lib.hid (HL.out.below HBE3.out)
              have hc3 := cells3 HX3.out
              go_wp2_with fail
              go_region_held3 (fun w' => w'.cell? ⟨xb, 1, none⟩ = some (.string PB) ∧ w'.cell? ⟨xb, 2, none⟩ = some (.int .i64 mq) ∧ w'.cell? ⟨xb, 3, none⟩ = some (.int .i64 md))
                (first | assumption | exact cells3 (keepx HX3.out (bdrew (Below.refl _ _))) | exact cells3 HX6.out | exact cells3 HX5.out | exact cells3 HX4.out)
                (first
                  | (go_at_call_of 25 (Value.int .i64 mq); refine (HQ.out _ (HLW.out.below (bdrew (Below.refl _ _)))).mono ?_; rintro e w4 ⟨rfl, hb4⟩; have HX4 := Lib.hid (keepx (w := W3.drew) HX3.out hb4))
                  | (go_at_call_of 25 (Value.int .i64 md); refine (HD.out _ ((HLW.out.below (bdrew (Below.refl _ _))).below hb4)).mono ?_; rintro e w5 ⟨rfl, hb5⟩; have HX5 := Lib.hid (keepx HX4.out hb5); have HBL5 := Lib.hid (isBuilder_below (isBuilder_below (isBuilder_below HBL3.out (bdrew (Below.refl _ _))) hb4) hb5); have HBE5 := Lib.hid (((bdrew HBE3.out).trans (hb4.mono (bdrew HBE3.out).size)).trans (hb5.mono (((bdrew HBE3.out).trans (hb4.mono (bdrew HBE3.out).size))).size)))
                  | (go_at_call 24; refine (writeString_k w.heap.size b _ _ _ HBL5.out HN2.out HBE5.out.size).mono ?_; rintro e w6 ⟨rfl, hB6, hb6, hk6⟩; have HX6 := Lib.hid (hk6 xb _ HX5.out (by intro e; injection e; omega) (by intro c fz e; cases e))))
              rw [E2.out, strCells_mk, ← byteCells_app, ← HA2.out] at hB6
              have HBL6 : Hid (Lib.IsBuilder 60 5 w.heap.size b (Lib.byteCells acc2) w6) := Lib.hid (.inr hB6)
              have HBE6 := Lib.hid (HBE5.out.trans hb6)
              have y0 := cell_of HX6.out 0 _ rfl
              have u4 := (HBE6.out.cell (p := ⟨g, _, none⟩) hg).trans n0
              clear n0
              clear hB6 hb6 hk6 hb4 hb5 hc3
              go_wp2_with fail
              go_quiet (fail)
              have HBL8 := Lib.hid (isBuilder_below HBL6.out (below_drewN (Below.refl _ _) nq))
              have HBE8 := Lib.hid (below_drewN HBE6.out nq)
              go_wp2
              go_roundw
              case rel => exact ⟨k + 1, acc2, by omega, by go_num, HBL8.out, HNX, HBE8.out⟩
              case measure => simp [intOf]; omega

            · obtain ⟨g, off, hAe, hg, ca⟩ := row_get it_len (by decide) HR.out (by omega)
              subst hAe
              have a0 := (hbel.cell (p := ⟨g, _, none⟩) hg).trans (ca (k) hlt 0 (by decide))
              have a1 := (hbel.cell (p := ⟨g, _, none⟩) hg).trans (ca (k) hlt 1 (by decide))
              have a2 := (hbel.cell (p := ⟨g, _, none⟩) hg).trans (ca (k) hlt 2 (by decide))
              have a3 := (hbel.cell (p := ⟨g, _, none⟩) hg).trans (ca (k) hlt 3 (by decide))
              have hlen := Pq.ok_lens (HOK.out l[k] (List.getElem_mem hlt))
              have hqd := Od.ok_parts (HOK.out l[k] (List.getElem_mem hlt))
              have HQ := Lib.hid (fun W h => itoa_any l[k].q W h (by omega) (by omega))
              have HD := Lib.hid (fun W h => itoa_any l[k].d W h (by omega) (by omega))
              have hnew : Pq.prev l k ≠ some l[k].o := by unfold Pq.prev; rw [if_pos hz]; simp
              have kz : ((k : Int) == 0) = true := by simp; omega
              have n0 := ca (k + 1) (by omega) 0 (by decide)
              have hend : Pq.ends l[k].o (l.drop (k + 1)) = true := by rw [List.drop_eq_getElem_cons (by omega : k + 1 < l.length)]; simp [Pq.ends, hno]
              have lz : ((k : Int) == (l.length : Int) - 1) = false := by rw [beq_eq_false_iff_ne]; omega
              have es2 := text_eq l[k + 1].o l[k].o
              rw [decide_eq_false hno] at es2
              have i2 : (0 : Int) ≤ (k : Int) + 1 := by omega
              have i3 : (k : Int) + 1 < (l.length : Int) := by omega
              have x1 : IntKind.i64.wrap ((k : Int) + 1) = (k : Int) + 1 := by rw [wrapEq]; unfold wrap64; omega
              have x2 : IntKind.i64.wrap ((l.length : Int) - 1) = (l.length : Int) - 1 := by rw [wrapEq]; unfold wrap64; omega
              have i0 : (0 : Int) ≤ (k : Int) := by omega
              have i1 : (k : Int) < (l.length : Int) := by omega
              have hst := Pq.text_drop hlt
              rw [if_neg hnew, if_pos hend] at hst
              have HST := Lib.hid hst
              clear hst hend hnew ca
              simp only [itCells, List.getElem?_cons_zero, Nat.add_zero] at n0
              generalize hNO : l[k + 1].o = no at *
              clear hNO
              generalize hM : l[k] = m at *
              clear hM
              obtain ⟨mo, mp, mq, md⟩ := m
              simp only [itCells, List.getElem?_cons_zero, List.getElem?_cons_succ, Nat.add_zero] at a0 a1 a2 a3
              simp only at hlen hqd HQ HD HST es2
              unfold Pq.lineT at HST
              simp only at HST
              have hsz := HACC.out.2
              rw [← str_size mo, ← str_size mp, ← str_size (Lib.itoa mq), ← str_size (Lib.itoa md)] at hlen
              obtain ⟨acc1, HA1⟩ : ∃ acc1, Hid (acc1 = acc ++ Pq.openT mo) := ⟨_, Lib.hid rfl⟩
              obtain ⟨acc2, HA2⟩ : ∃ acc2, Hid (acc2 = acc1 ++ (Pq.cPart ++ mp ++ Pq.cQuantity ++ Lib.itoa mq ++ Pq.cDue ++ Lib.itoa md ++ Pq.cSemi)) := ⟨_, Lib.hid rfl⟩
              obtain ⟨acc3, HA3⟩ : ∃ acc3, Hid (acc3 = acc2 ++ Pq.cClose) := ⟨_, Lib.hid rfl⟩
              have HNX : Hid (acc3 ++ Pq.text (Pq.prev l (k + 1)) (l.drop (k + 1)) = TT ∧ acc3.length ≤ 20000) := Lib.hid (by
                have e : acc3 ++ Pq.text (Pq.prev l (k + 1)) (l.drop (k + 1)) = TT := by
                  rw [← HACC.out.1, HST.out, HA3.out, HA2.out, HA1.out]
                  simp
                refine ⟨e, ?_⟩
                have := congrArg List.length e
                rw [List.length_append] at this
                have := HTT.out
                omega)
              have HL3 : Hid (acc1.length ≤ 20000 ∧ acc2.length ≤ 20000) := Lib.hid (by
                have h9 := HNX.out.2
                have e2 := congrArg List.length HA2.out
                have e3 := congrArg List.length HA3.out
                simp only [List.length_append] at e2 e3
                omega)
              have E1 := Lib.hid (open_str0 mo)
              have E2 := Lib.hid (line_str0 mp (Lib.itoa mq) (Lib.itoa md))
              generalize Lib.itoa mq = tq at *
              generalize Lib.itoa md = td at *
              generalize (Pq.cPart ++ mp ++ Pq.cQuantity ++ tq ++ Pq.cDue ++ td ++ Pq.cSemi) = ln at *
              generalize Pq.openT mo = op at *
              generalize hOB : (ByteArray.mk mo.toArray) = OB at *
              generalize hPB : (ByteArray.mk mp.toArray) = PB at *
              generalize hQB : (ByteArray.mk tq.toArray) = QB at *
              generalize hDB : (ByteArray.mk td.toArray) = DB at *
              clear hOB hPB hQB hDB
              have m2 : (9223372036854775807 < 6 + OB.size) = False := eq_false (by omega)
              have m3 : (9223372036854775807 < 6 + OB.size + 3) = False := eq_false (by omega)
              have HN1 : Hid ((Lib.byteCells acc).length + (ByteArray.mk #[111, 114, 100, 101, 114, 32] ++ OB ++ ByteArray.mk #[32, 123, 10]).size ≤ 140737488355328) := Lib.hid (by rw [byteCells_len, ByteArray.size_append, ByteArray.size_append]; have : (ByteArray.mk #[111, 114, 100, 101, 114, 32]).size = 6 := rfl; have : (ByteArray.mk #[32, 123, 10]).size = 3 := rfl; omega)
              have HN2 : Hid ((Lib.byteCells acc1).length + (ByteArray.mk #[9, 112, 97, 114, 116, 32] ++ PB ++ ByteArray.mk #[32, 113, 117, 97, 110, 116, 105, 116, 121, 32] ++ QB ++ ByteArray.mk #[32, 100, 117, 101, 32] ++ DB ++ ByteArray.mk #[59, 10]).size ≤ 140737488355328) := Lib.hid (by
                have := HL3.out.1
                rw [byteCells_len, ByteArray.size_append, ByteArray.size_append, ByteArray.size_append, ByteArray.size_append, ByteArray.size_append, ByteArray.size_append]; have : (ByteArray.mk #[9, 112, 97, 114, 116, 32]).size = 6 := rfl; have : (ByteArray.mk #[32, 113, 117, 97, 110, 116, 105, 116, 121, 32]).size = 10 := rfl; have : (ByteArray.mk #[32, 100, 117, 101, 32]).size = 5 := rfl; have : (ByteArray.mk #[59, 10]).size = 2 := rfl; omega)
              have HN3 : Hid ((Lib.byteCells acc2).length + (ByteArray.mk #[125, 10]).size ≤ 140737488355328) := Lib.hid (by have := HL3.out.2; rw [byteCells_len]; have : (ByteArray.mk #[125, 10]).size = 2 := rfl; omega)
              generalize (ByteArray.mk no.toArray) = NO at *
              have ne2 : (NO.toList != OB.toList) = true := by unfold bne; rw [es2]; rfl
              have p1 : (9223372036854775807 < 6 + PB.size) = False := eq_false (by omega)
              have p2 : (9223372036854775807 < 6 + PB.size + 10) = False := eq_false (by omega)
              have p3 : (9223372036854775807 < 6 + PB.size + 10 + QB.size) = False := eq_false (by omega)
              have p4 : (9223372036854775807 < 6 + PB.size + 10 + QB.size + 5) = False := eq_false (by omega)
              have p5 : (9223372036854775807 < 6 + PB.size + 10 + QB.size + 5 + DB.size) = False := eq_false (by omega)
              have p6 : (9223372036854775807 < 6 + PB.size + 10 + QB.size + 5 + DB.size + 2) = False := eq_false (by omega)
              clear hz
              clear hla hno
              have HBL1 := Lib.hid (isBuilder_below hBld (bel1 wr (.cells #[.string OB, .string PB, .int .i64 mq, .int .i64 md] 33)))
              have HBE1 := Lib.hid (hbel.alloc hbel.size (.cells #[.string OB, .string PB, .int .i64 mq, .int .i64 md] 33))
              have HX1 := Lib.hid (heap_alloc_new wr (.cells #[.string OB, .string PB, .int .i64 mq, .int .i64 md] 33))
              have hxb : b < wr.heap.size := hbx
              have hgx : g < wr.heap.size := Nat.lt_of_lt_of_le hg hbel.size
              clear hsz hlen hqd hBld hbel hbx
              go_wp2_with fail
              generalize wr.alloc (.cells #[.string OB, .string PB, .int .i64 mq, .int .i64 md] 33) = W1 at *
              have y0 := cell_of HX1.out 0 _ rfl
              clear a0 a1 a2 a3
              go_quiet (fail)
              have HBL2 := Lib.hid (isBuilder_below HBL1.out (below_drewN (Below.refl _ _) nq))
              have HBE2 := Lib.hid (below_drewN HBE1.out nq)
              have HX2 : Hid ((W1.drewN nq).heap[wr.heap.size]? = some (.cells #[.string OB, .string PB, .int .i64 mq, .int .i64 md] 33)) := Lib.hid HX1.out
              generalize (W1.drewN nq) = W2 at *
              generalize wr.heap.size = xb at *
              clear HBL1 HBE1 HX1 y0
              have y0 := cell_of HX2.out 0 _ rfl
              go_wp2_with fail
              refine (writeString_k w.heap.size b _ _ _ HBL2.out HN1.out HBE2.out.size).mono ?_
              rintro e W3 ⟨rfl, hB3, hb3, hk3⟩
              rw [E1.out, strCells_mk, ← byteCells_app, ← HA1.out] at hB3
              have HBL3 : Hid (Lib.IsBuilder 60 5 w.heap.size b (Lib.byteCells acc1) W3) := Lib.hid (.inr hB3)
              have HBE3 := Lib.hid (HBE2.out.trans hb3)
              have HX3 := Lib.hid (hk3 xb _ HX2.out (by intro e; injection e; omega) (by intro c fz e; cases e))
              clear hB3 hb3 hk3 HBL2 HBE2 HX2 y0
              have HLW := Lib.hid (HL.out.below HBE3.out)
              have hc3 := cells3 HX3.out
              go_wp2_with fail
              go_region_held3 (fun w' => w'.cell? ⟨xb, 1, none⟩ = some (.string PB) ∧ w'.cell? ⟨xb, 2, none⟩ = some (.int .i64 mq) ∧ w'.cell? ⟨xb, 3, none⟩ = some (.int .i64 md))
                (first | assumption | exact cells3 (keepx HX3.out (bdrew (Below.refl _ _))) | exact cells3 HX6.out | exact cells3 HX5.out | exact cells3 HX4.out)
                (first
                  | (go_at_call_of 25 (Value.int .i64 mq); refine (HQ.out _ (HLW.out.below (bdrew (Below.refl _ _)))).mono ?_; rintro e w4 ⟨rfl, hb4⟩; have HX4 := Lib.hid (keepx (w := W3.drew) HX3.out hb4))
                  | (go_at_call_of 25 (Value.int .i64 md); refine (HD.out _ ((HLW.out.below (bdrew (Below.refl _ _))).below hb4)).mono ?_; rintro e w5 ⟨rfl, hb5⟩; have HX5 := Lib.hid (keepx HX4.out hb5); have HBL5 := Lib.hid (isBuilder_below (isBuilder_below (isBuilder_below HBL3.out (bdrew (Below.refl _ _))) hb4) hb5); have HBE5 := Lib.hid (((bdrew HBE3.out).trans (hb4.mono (bdrew HBE3.out).size)).trans (hb5.mono (((bdrew HBE3.out).trans (hb4.mono (bdrew HBE3.out).size))).size)))
                  | (go_at_call 24; refine (writeString_k w.heap.size b _ _ _ HBL5.out HN2.out HBE5.out.size).mono ?_; rintro e w6 ⟨rfl, hB6, hb6, hk6⟩; have HX6 := Lib.hid (hk6 xb _ HX5.out (by intro e; injection e; omega) (by intro c fz e; cases e))))
              rw [E2.out, strCells_mk, ← byteCells_app, ← HA2.out] at hB6
              have HBL6 : Hid (Lib.IsBuilder 60 5 w.heap.size b (Lib.byteCells acc2) w6) := Lib.hid (.inr hB6)
              have HBE6 := Lib.hid (HBE5.out.trans hb6)
              have y0 := cell_of HX6.out 0 _ rfl
              have u4 := (HBE6.out.cell (p := ⟨g, _, none⟩) hg).trans n0
              clear n0
              clear hB6 hb6 hk6 hb4 hb5 hc3
              go_wp2_with fail
              go_quiet (fail)
              have HBL7 := Lib.hid (isBuilder_below HBL6.out (below_drewN (Below.refl _ _) nq))
              have HBE7 := Lib.hid (below_drewN HBE6.out nq)
              go_wp2_with fail
              refine (writeString_k w.heap.size b _ _ _ HBL7.out HN3.out HBE7.out.size).mono ?_
              rintro e w8 ⟨rfl, hB8, hb8, hk8⟩
              have hsc : Lib.strCells (ByteArray.mk #[125, 10]) = Lib.byteCells Pq.cClose := rfl
              rw [hsc, ← byteCells_app, ← HA3.out] at hB8
              have HBL8 : Hid (Lib.IsBuilder 60 5 w.heap.size b (Lib.byteCells acc3) w8) := Lib.hid (.inr hB8)
              have HBE8 := Lib.hid (HBE7.out.trans hb8)
              clear hB8 hb8 hk8 hsc
              go_wp2
              go_roundw
              case rel => exact ⟨k + 1, acc3, by omega, by go_num, HBL8.out, HNX, HBE8.out⟩
              case measure => simp [intOf]; omega

        · obtain ⟨j, rfl⟩ : ∃ j, k = j + 1 := ⟨k - 1, by omega⟩
          clear hz
          by_cases hpo : l[j].o = l[j + 1].o
          · by_cases hla : j + 1 = l.length - 1
            · obtain ⟨g, off, hAe, hg, ca⟩ := row_get it_len (by decide) HR.out (by omega)
              subst hAe
              have a0 := (hbel.cell (p := ⟨g, _, none⟩) hg).trans (ca (j + 1) hlt 0 (by decide))
              have a1 := (hbel.cell (p := ⟨g, _, none⟩) hg).trans (ca (j + 1) hlt 1 (by decide))
              have a2 := (hbel.cell (p := ⟨g, _, none⟩) hg).trans (ca (j + 1) hlt 2 (by decide))
              have a3 := (hbel.cell (p := ⟨g, _, none⟩) hg).trans (ca (j + 1) hlt 3 (by decide))
              have hlen := Pq.ok_lens (HOK.out l[j + 1] (List.getElem_mem hlt))
              have hqd := Od.ok_parts (HOK.out l[j + 1] (List.getElem_mem hlt))
              have HQ := Lib.hid (fun W h => itoa_any l[j + 1].q W h (by omega) (by omega))
              have HD := Lib.hid (fun W h => itoa_any l[j + 1].d W h (by omega) (by omega))
              have b0 := (hbel.cell (p := ⟨g, _, none⟩) hg).trans (ca j (by omega) 0 (by decide))
              have hpv : Pq.prev l (j + 1) = some l[j].o := Pq.prev_step (by omega)
              have es := text_eq l[j].o l[j + 1].o
              rw [decide_eq_true hpo] at es
              have hnew : Pq.prev l (j + 1) = some l[j + 1].o := by rw [hpv, hpo]
              have kz : (((j : Int) + 1) == 0) = false := by rw [beq_eq_false_iff_ne]; omega
              have x3 : IntKind.i64.wrap (j : Int) = (j : Int) := by rw [wrapEq]; unfold wrap64; omega
              have x4 : IntKind.i64.wrap ((j : Int) + 1 - 1) = (j : Int) := by rw [wrapEq]; unfold wrap64; omega
              have j0 : (0 : Int) ≤ (j : Int) := by omega
              have j1 : (j : Int) < (l.length : Int) := by omega
              have hend : Pq.ends l[j + 1].o (l.drop (j + 1 + 1)) = true := by rw [List.drop_eq_nil_of_le (by omega)]; rfl
              have lz : (((j : Int) + 1) == (l.length : Int) - 1) = true := by simp; omega
              have x2 : IntKind.i64.wrap ((l.length : Int) - 1) = (l.length : Int) - 1 := by rw [wrapEq]; unfold wrap64; omega
              have i0 : (0 : Int) ≤ ((j : Int) + 1) := by omega
              have i1 : ((j : Int) + 1) < (l.length : Int) := by omega
              have hst := Pq.text_drop hlt
              rw [if_pos hnew, if_pos hend] at hst
              have HST := Lib.hid hst
              clear hst hend hnew ca
              simp only [itCells, List.getElem?_cons_zero, Nat.add_zero] at b0
              generalize hPO : l[j].o = po at *
              clear hPO
              generalize hM : l[j + 1] = m at *
              clear hM
              obtain ⟨mo, mp, mq, md⟩ := m
              simp only [itCells, List.getElem?_cons_zero, List.getElem?_cons_succ, Nat.add_zero] at a0 a1 a2 a3
              simp only at hlen hqd HQ HD HST es
              unfold Pq.lineT at HST
              simp only at HST
              have hsz := HACC.out.2
              rw [← str_size mo, ← str_size mp, ← str_size (Lib.itoa mq), ← str_size (Lib.itoa md)] at hlen
              obtain ⟨acc1, HA1⟩ : ∃ acc1, Hid (acc1 = acc) := ⟨_, Lib.hid rfl⟩
              obtain ⟨acc2, HA2⟩ : ∃ acc2, Hid (acc2 = acc1 ++ (Pq.cPart ++ mp ++ Pq.cQuantity ++ Lib.itoa mq ++ Pq.cDue ++ Lib.itoa md ++ Pq.cSemi)) := ⟨_, Lib.hid rfl⟩
              obtain ⟨acc3, HA3⟩ : ∃ acc3, Hid (acc3 = acc2 ++ Pq.cClose) := ⟨_, Lib.hid rfl⟩
              have HNX : Hid (acc3 ++ Pq.text (Pq.prev l (j + 1 + 1)) (l.drop (j + 1 + 1)) = TT ∧ acc3.length ≤ 20000) := Lib.hid (by
                have e : acc3 ++ Pq.text (Pq.prev l (j + 1 + 1)) (l.drop (j + 1 + 1)) = TT := by
                  rw [← HACC.out.1, HST.out, HA3.out, HA2.out, HA1.out]
                  simp
                refine ⟨e, ?_⟩
                have := congrArg List.length e
                rw [List.length_append] at this
                have := HTT.out
                omega)
              have HL3 : Hid (acc1.length ≤ 20000 ∧ acc2.length ≤ 20000) := Lib.hid (by
                have h9 := HNX.out.2
                have e2 := congrArg List.length HA2.out
                have e3 := congrArg List.length HA3.out
                simp only [List.length_append] at e2 e3
                omega)
              have hA1 := HA1.out
              subst hA1
              have E2 := Lib.hid (line_str0 mp (Lib.itoa mq) (Lib.itoa md))
              generalize Lib.itoa mq = tq at *
              generalize Lib.itoa md = td at *
              generalize (Pq.cPart ++ mp ++ Pq.cQuantity ++ tq ++ Pq.cDue ++ td ++ Pq.cSemi) = ln at *
              generalize hOB : (ByteArray.mk mo.toArray) = OB at *
              generalize hPB : (ByteArray.mk mp.toArray) = PB at *
              generalize hQB : (ByteArray.mk tq.toArray) = QB at *
              generalize hDB : (ByteArray.mk td.toArray) = DB at *
              clear hOB hPB hQB hDB
              have HN2 : Hid ((Lib.byteCells acc1).length + (ByteArray.mk #[9, 112, 97, 114, 116, 32] ++ PB ++ ByteArray.mk #[32, 113, 117, 97, 110, 116, 105, 116, 121, 32] ++ QB ++ ByteArray.mk #[32, 100, 117, 101, 32] ++ DB ++ ByteArray.mk #[59, 10]).size ≤ 140737488355328) := Lib.hid (by
                have := HL3.out.1
                rw [byteCells_len, ByteArray.size_append, ByteArray.size_append, ByteArray.size_append, ByteArray.size_append, ByteArray.size_append, ByteArray.size_append]; have : (ByteArray.mk #[9, 112, 97, 114, 116, 32]).size = 6 := rfl; have : (ByteArray.mk #[32, 113, 117, 97, 110, 116, 105, 116, 121, 32]).size = 10 := rfl; have : (ByteArray.mk #[32, 100, 117, 101, 32]).size = 5 := rfl; have : (ByteArray.mk #[59, 10]).size = 2 := rfl; omega)
              have HN3 : Hid ((Lib.byteCells acc2).length + (ByteArray.mk #[125, 10]).size ≤ 140737488355328) := Lib.hid (by have := HL3.out.2; rw [byteCells_len]; have : (ByteArray.mk #[125, 10]).size = 2 := rfl; omega)
              generalize (ByteArray.mk po.toArray) = PO at *
              have ne1 : (PO.toList != OB.toList) = false := by unfold bne; rw [es]; rfl
              have p1 : (9223372036854775807 < 6 + PB.size) = False := eq_false (by omega)
              have p2 : (9223372036854775807 < 6 + PB.size + 10) = False := eq_false (by omega)
              have p3 : (9223372036854775807 < 6 + PB.size + 10 + QB.size) = False := eq_false (by omega)
              have p4 : (9223372036854775807 < 6 + PB.size + 10 + QB.size + 5) = False := eq_false (by omega)
              have p5 : (9223372036854775807 < 6 + PB.size + 10 + QB.size + 5 + DB.size) = False := eq_false (by omega)
              have p6 : (9223372036854775807 < 6 + PB.size + 10 + QB.size + 5 + DB.size + 2) = False := eq_false (by omega)
              clear hla
              clear hpo
              have HBL1 := Lib.hid (isBuilder_below hBld (bel1 wr (.cells #[.string OB, .string PB, .int .i64 mq, .int .i64 md] 33)))
              have HBE1 := Lib.hid (hbel.alloc hbel.size (.cells #[.string OB, .string PB, .int .i64 mq, .int .i64 md] 33))
              have HX1 := Lib.hid (heap_alloc_new wr (.cells #[.string OB, .string PB, .int .i64 mq, .int .i64 md] 33))
              have hxb : b < wr.heap.size := hbx
              have hgx : g < wr.heap.size := Nat.lt_of_lt_of_le hg hbel.size
              have z0 := ((bel1 wr (.cells #[.string OB, .string PB, .int .i64 mq, .int .i64 md] 33)).cell (p := ⟨g, _, none⟩) hgx).trans b0
              clear hsz hlen hqd hBld hbel hbx b0
              go_wp2_with fail
              generalize wr.alloc (.cells #[.string OB, .string PB, .int .i64 mq, .int .i64 md] 33) = W1 at *
              have y0 := cell_of HX1.out 0 _ rfl
              clear a0 a1 a2 a3
              go_quiet (fail)
              have HBL2 := Lib.hid (isBuilder_below HBL1.out (below_drewN (Below.refl _ _) nq))
              have HBE2 := Lib.hid (below_drewN HBE1.out nq)
              have HX2 : Hid ((W1.drewN nq).heap[wr.heap.size]? = some (.cells #[.string OB, .string PB, .int .i64 mq, .int .i64 md] 33)) := Lib.hid HX1.out
              generalize (W1.drewN nq) = W2 at *
              generalize wr.heap.size = xb at *
              clear HBL1 HBE1 HX1 y0 z0
              have HBL3 := HBL2
              have HBE3 := HBE2
              have HX3 := HX2
              clear HBL2 HBE2 HX2
              have HLW := Lib.hid (HL.out.below HBE3.out)
              have hc3 := cells3 HX3.out
              go_wp2_with fail
              go_region_held3 (fun w' => w'.cell? ⟨xb, 1, none⟩ = some (.string PB) ∧ w'.cell? ⟨xb, 2, none⟩ = some (.int .i64 mq) ∧ w'.cell? ⟨xb, 3, none⟩ = some (.int .i64 md))
                (first | assumption | exact cells3 (keepx HX3.out (bdrew (Below.refl _ _))) | exact cells3 HX6.out | exact cells3 HX5.out | exact cells3 HX4.out)
                (first
                  | (go_at_call_of 25 (Value.int .i64 mq); refine (HQ.out _ (HLW.out.below (bdrew (Below.refl _ _)))).mono ?_; rintro e w4 ⟨rfl, hb4⟩; have HX4 := Lib.hid (keepx (w := W2.drew) HX3.out hb4))
                  | (go_at_call_of 25 (Value.int .i64 md); refine (HD.out _ ((HLW.out.below (bdrew (Below.refl _ _))).below hb4)).mono ?_; rintro e w5 ⟨rfl, hb5⟩; have HX5 := Lib.hid (keepx HX4.out hb5); have HBL5 := Lib.hid (isBuilder_below (isBuilder_below (isBuilder_below HBL3.out (bdrew (Below.refl _ _))) hb4) hb5); have HBE5 := Lib.hid (((bdrew HBE3.out).trans (hb4.mono (bdrew HBE3.out).size)).trans (hb5.mono (((bdrew HBE3.out).trans (hb4.mono (bdrew HBE3.out).size))).size)))
                  | (go_at_call 24; refine (writeString_k w.heap.size b _ _ _ HBL5.out HN2.out HBE5.out.size).mono ?_; rintro e w6 ⟨rfl, hB6, hb6, hk6⟩; have HX6 := Lib.hid (hk6 xb _ HX5.out (by intro e; injection e; omega) (by intro c fz e; cases e))))
              rw [E2.out, strCells_mk, ← byteCells_app, ← HA2.out] at hB6
              have HBL6 : Hid (Lib.IsBuilder 60 5 w.heap.size b (Lib.byteCells acc2) w6) := Lib.hid (.inr hB6)
              have HBE6 := Lib.hid (HBE5.out.trans hb6)
              have y0 := cell_of HX6.out 0 _ rfl
              clear hB6 hb6 hk6 hb4 hb5 hc3
              go_wp2_with fail
              go_quiet (fail)
              have HBL7 := Lib.hid (isBuilder_below HBL6.out (below_drewN (Below.refl _ _) nq))
              have HBE7 := Lib.hid (below_drewN HBE6.out nq)
              go_wp2_with fail
              refine (writeString_k w.heap.size b _ _ _ HBL7.out HN3.out HBE7.out.size).mono ?_
              rintro e w8 ⟨rfl, hB8, hb8, hk8⟩
              have hsc : Lib.strCells (ByteArray.mk #[125, 10]) = Lib.byteCells Pq.cClose := rfl
              rw [hsc, ← byteCells_app, ← HA3.out] at hB8
              have HBL8 : Hid (Lib.IsBuilder 60 5 w.heap.size b (Lib.byteCells acc3) w8) := Lib.hid (.inr hB8)
              have HBE8 := Lib.hid (HBE7.out.trans hb8)
              clear hB8 hb8 hk8 hsc
              go_wp2
              go_roundw
              case rel => exact ⟨j + 1 + 1, acc3, by omega, by go_num, HBL8.out, HNX, HBE8.out⟩
              case measure => simp [intOf]; omega

            · have hk9 : j + 1 + 1 < l.length := by omega
              by_cases hno : l[j + 1 + 1].o = l[j + 1].o
              · obtain ⟨g, off, hAe, hg, ca⟩ := row_get it_len (by decide) HR.out (by omega)
                subst hAe
                have a0 := (hbel.cell (p := ⟨g, _, none⟩) hg).trans (ca (j + 1) hlt 0 (by decide))
                have a1 := (hbel.cell (p := ⟨g, _, none⟩) hg).trans (ca (j + 1) hlt 1 (by decide))
                have a2 := (hbel.cell (p := ⟨g, _, none⟩) hg).trans (ca (j + 1) hlt 2 (by decide))
                have a3 := (hbel.cell (p := ⟨g, _, none⟩) hg).trans (ca (j + 1) hlt 3 (by decide))
                have hlen := Pq.ok_lens (HOK.out l[j + 1] (List.getElem_mem hlt))
                have hqd := Od.ok_parts (HOK.out l[j + 1] (List.getElem_mem hlt))
                have HQ := Lib.hid (fun W h => itoa_any l[j + 1].q W h (by omega) (by omega))
                have HD := Lib.hid (fun W h => itoa_any l[j + 1].d W h (by omega) (by omega))
                have b0 := (hbel.cell (p := ⟨g, _, none⟩) hg).trans (ca j (by omega) 0 (by decide))
                have hpv : Pq.prev l (j + 1) = some l[j].o := Pq.prev_step (by omega)
                have es := text_eq l[j].o l[j + 1].o
                rw [decide_eq_true hpo] at es
                have hnew : Pq.prev l (j + 1) = some l[j + 1].o := by rw [hpv, hpo]
                have kz : (((j : Int) + 1) == 0) = false := by rw [beq_eq_false_iff_ne]; omega
                have x3 : IntKind.i64.wrap (j : Int) = (j : Int) := by rw [wrapEq]; unfold wrap64; omega
                have x4 : IntKind.i64.wrap ((j : Int) + 1 - 1) = (j : Int) := by rw [wrapEq]; unfold wrap64; omega
                have j0 : (0 : Int) ≤ (j : Int) := by omega
                have j1 : (j : Int) < (l.length : Int) := by omega
                have n0 := ca (j + 1 + 1) (by omega) 0 (by decide)
                have hend : Pq.ends l[j + 1].o (l.drop (j + 1 + 1)) = false := by rw [List.drop_eq_getElem_cons (by omega : j + 1 + 1 < l.length)]; simp [Pq.ends, hno]
                have lz : (((j : Int) + 1) == (l.length : Int) - 1) = false := by rw [beq_eq_false_iff_ne]; omega
                have es2 := text_eq l[j + 1 + 1].o l[j + 1].o
                rw [decide_eq_true hno] at es2
                have i2 : (0 : Int) ≤ ((j : Int) + 1) + 1 := by omega
                have i3 : ((j : Int) + 1) + 1 < (l.length : Int) := by omega
                have x1 : IntKind.i64.wrap (((j : Int) + 1) + 1) = ((j : Int) + 1) + 1 := by rw [wrapEq]; unfold wrap64; omega
                have x2 : IntKind.i64.wrap ((l.length : Int) - 1) = (l.length : Int) - 1 := by rw [wrapEq]; unfold wrap64; omega
                have i0 : (0 : Int) ≤ ((j : Int) + 1) := by omega
                have i1 : ((j : Int) + 1) < (l.length : Int) := by omega
                have hst := Pq.text_drop hlt
                rw [if_pos hnew, if_neg (by rw [hend]; simp)] at hst
                have HST := Lib.hid hst
                clear hst hend hnew ca
                simp only [itCells, List.getElem?_cons_zero, Nat.add_zero] at b0
                generalize hPO : l[j].o = po at *
                clear hPO
                simp only [itCells, List.getElem?_cons_zero, Nat.add_zero] at n0
                generalize hNO : l[j + 1 + 1].o = no at *
                clear hNO
                generalize hM : l[j + 1] = m at *
                clear hM
                obtain ⟨mo, mp, mq, md⟩ := m
                simp only [itCells, List.getElem?_cons_zero, List.getElem?_cons_succ, Nat.add_zero] at a0 a1 a2 a3
                simp only at hlen hqd HQ HD HST es es2
                unfold Pq.lineT at HST
                simp only at HST
                have hsz := HACC.out.2
                rw [← str_size mo, ← str_size mp, ← str_size (Lib.itoa mq), ← str_size (Lib.itoa md)] at hlen
                obtain ⟨acc1, HA1⟩ : ∃ acc1, Hid (acc1 = acc) := ⟨_, Lib.hid rfl⟩
                obtain ⟨acc2, HA2⟩ : ∃ acc2, Hid (acc2 = acc1 ++ (Pq.cPart ++ mp ++ Pq.cQuantity ++ Lib.itoa mq ++ Pq.cDue ++ Lib.itoa md ++ Pq.cSemi)) := ⟨_, Lib.hid rfl⟩
                obtain ⟨acc3, HA3⟩ : ∃ acc3, Hid (acc3 = acc2) := ⟨_, Lib.hid rfl⟩
                have HNX : Hid (acc3 ++ Pq.text (Pq.prev l (j + 1 + 1)) (l.drop (j + 1 + 1)) = TT ∧ acc3.length ≤ 20000) := Lib.hid (by
                  have e : acc3 ++ Pq.text (Pq.prev l (j + 1 + 1)) (l.drop (j + 1 + 1)) = TT := by
                    rw [← HACC.out.1, HST.out, HA3.out, HA2.out, HA1.out]
                    simp
                  refine ⟨e, ?_⟩
                  have := congrArg List.length e
                  rw [List.length_append] at this
                  have := HTT.out
                  omega)
                have HL3 : Hid (acc1.length ≤ 20000 ∧ acc2.length ≤ 20000) := Lib.hid (by
                  have h9 := HNX.out.2
                  have e2 := congrArg List.length HA2.out
                  have e3 := congrArg List.length HA3.out
                  simp only [List.length_append] at e2 e3
                  omega)
                have hA1 := HA1.out
                subst hA1
                have E2 := Lib.hid (line_str0 mp (Lib.itoa mq) (Lib.itoa md))
                have hA3 := HA3.out.symm
                subst hA3
                generalize Lib.itoa mq = tq at *
                generalize Lib.itoa md = td at *
                generalize (Pq.cPart ++ mp ++ Pq.cQuantity ++ tq ++ Pq.cDue ++ td ++ Pq.cSemi) = ln at *
                generalize hOB : (ByteArray.mk mo.toArray) = OB at *
                generalize hPB : (ByteArray.mk mp.toArray) = PB at *
                generalize hQB : (ByteArray.mk tq.toArray) = QB at *
                generalize hDB : (ByteArray.mk td.toArray) = DB at *
                clear hOB hPB hQB hDB
                have HN2 : Hid ((Lib.byteCells acc1).length + (ByteArray.mk #[9, 112, 97, 114, 116, 32] ++ PB ++ ByteArray.mk #[32, 113, 117, 97, 110, 116, 105, 116, 121, 32] ++ QB ++ ByteArray.mk #[32, 100, 117, 101, 32] ++ DB ++ ByteArray.mk #[59, 10]).size ≤ 140737488355328) := Lib.hid (by
                  have := HL3.out.1
                  rw [byteCells_len, ByteArray.size_append, ByteArray.size_append, ByteArray.size_append, ByteArray.size_append, ByteArray.size_append, ByteArray.size_append]; have : (ByteArray.mk #[9, 112, 97, 114, 116, 32]).size = 6 := rfl; have : (ByteArray.mk #[32, 113, 117, 97, 110, 116, 105, 116, 121, 32]).size = 10 := rfl; have : (ByteArray.mk #[32, 100, 117, 101, 32]).size = 5 := rfl; have : (ByteArray.mk #[59, 10]).size = 2 := rfl; omega)
                generalize (ByteArray.mk po.toArray) = PO at *
                generalize (ByteArray.mk no.toArray) = NO at *
                have ne1 : (PO.toList != OB.toList) = false := by unfold bne; rw [es]; rfl
                have ne2 : (NO.toList != OB.toList) = false := by unfold bne; rw [es2]; rfl
                have p1 : (9223372036854775807 < 6 + PB.size) = False := eq_false (by omega)
                have p2 : (9223372036854775807 < 6 + PB.size + 10) = False := eq_false (by omega)
                have p3 : (9223372036854775807 < 6 + PB.size + 10 + QB.size) = False := eq_false (by omega)
                have p4 : (9223372036854775807 < 6 + PB.size + 10 + QB.size + 5) = False := eq_false (by omega)
                have p5 : (9223372036854775807 < 6 + PB.size + 10 + QB.size + 5 + DB.size) = False := eq_false (by omega)
                have p6 : (9223372036854775807 < 6 + PB.size + 10 + QB.size + 5 + DB.size + 2) = False := eq_false (by omega)
                clear hla hno
                clear hpo
                have HBL1 := Lib.hid (isBuilder_below hBld (bel1 wr (.cells #[.string OB, .string PB, .int .i64 mq, .int .i64 md] 33)))
                have HBE1 := Lib.hid (hbel.alloc hbel.size (.cells #[.string OB, .string PB, .int .i64 mq, .int .i64 md] 33))
                have HX1 := Lib.hid (heap_alloc_new wr (.cells #[.string OB, .string PB, .int .i64 mq, .int .i64 md] 33))
                have hxb : b < wr.heap.size := hbx
                have hgx : g < wr.heap.size := Nat.lt_of_lt_of_le hg hbel.size
                have z0 := ((bel1 wr (.cells #[.string OB, .string PB, .int .i64 mq, .int .i64 md] 33)).cell (p := ⟨g, _, none⟩) hgx).trans b0
                clear hsz hlen hqd hBld hbel hbx b0
                go_wp2_with fail
                generalize wr.alloc (.cells #[.string OB, .string PB, .int .i64 mq, .int .i64 md] 33) = W1 at *
                have y0 := cell_of HX1.out 0 _ rfl
                clear a0 a1 a2 a3
                go_quiet (fail)
                have HBL2 := Lib.hid (isBuilder_below HBL1.out (below_drewN (Below.refl _ _) nq))
                have HBE2 := Lib.hid (below_drewN HBE1.out nq)
                have HX2 : Hid ((W1.drewN nq).heap[wr.heap.size]? = some (.cells #[.string OB, .string PB, .int .i64 mq, .int .i64 md] 33)) := Lib.hid HX1.out
                generalize (W1.drewN nq) = W2 at *
                generalize wr.heap.size = xb at *
                clear HBL1 HBE1 HX1 y0 z0
                have HBL3 := HBL2
                have HBE3 := HBE2
                have HX3 := HX2
                clear HBL2 HBE2 HX2
                have HLW := Lib.hid (HL.out.below HBE3.out)
                have hc3 := cells3 HX3.out
                go_wp2_with fail
                go_region_held3 (fun w' => w'.cell? ⟨xb, 1, none⟩ = some (.string PB) ∧ w'.cell? ⟨xb, 2, none⟩ = some (.int .i64 mq) ∧ w'.cell? ⟨xb, 3, none⟩ = some (.int .i64 md))
                  (first | assumption | exact cells3 (keepx HX3.out (bdrew (Below.refl _ _))) | exact cells3 HX6.out | exact cells3 HX5.out | exact cells3 HX4.out)
                  (first
                    | (go_at_call_of 25 (Value.int .i64 mq); refine (HQ.out _ (HLW.out.below (bdrew (Below.refl _ _)))).mono ?_; rintro e w4 ⟨rfl, hb4⟩; have HX4 := Lib.hid (keepx (w := W2.drew) HX3.out hb4))
                    | (go_at_call_of 25 (Value.int .i64 md); refine (HD.out _ ((HLW.out.below (bdrew (Below.refl _ _))).below hb4)).mono ?_; rintro e w5 ⟨rfl, hb5⟩; have HX5 := Lib.hid (keepx HX4.out hb5); have HBL5 := Lib.hid (isBuilder_below (isBuilder_below (isBuilder_below HBL3.out (bdrew (Below.refl _ _))) hb4) hb5); have HBE5 := Lib.hid (((bdrew HBE3.out).trans (hb4.mono (bdrew HBE3.out).size)).trans (hb5.mono (((bdrew HBE3.out).trans (hb4.mono (bdrew HBE3.out).size))).size)))
                    | (go_at_call 24; refine (writeString_k w.heap.size b _ _ _ HBL5.out HN2.out HBE5.out.size).mono ?_; rintro e w6 ⟨rfl, hB6, hb6, hk6⟩; have HX6 := Lib.hid (hk6 xb _ HX5.out (by intro e; injection e; omega) (by intro c fz e; cases e))))
                rw [E2.out, strCells_mk, ← byteCells_app, ← HA2.out] at hB6
                have HBL6 : Hid (Lib.IsBuilder 60 5 w.heap.size b (Lib.byteCells acc2) w6) := Lib.hid (.inr hB6)
                have HBE6 := Lib.hid (HBE5.out.trans hb6)
                have y0 := cell_of HX6.out 0 _ rfl
                have u4 := (HBE6.out.cell (p := ⟨g, _, none⟩) hg).trans n0
                clear n0
                clear hB6 hb6 hk6 hb4 hb5 hc3
                go_wp2_with fail
                go_quiet (fail)
                have HBL8 := Lib.hid (isBuilder_below HBL6.out (below_drewN (Below.refl _ _) nq))
                have HBE8 := Lib.hid (below_drewN HBE6.out nq)
                go_wp2
                go_roundw
                case rel => exact ⟨j + 1 + 1, acc2, by omega, by go_num, HBL8.out, HNX, HBE8.out⟩
                case measure => simp [intOf]; omega

              · obtain ⟨g, off, hAe, hg, ca⟩ := row_get it_len (by decide) HR.out (by omega)
                subst hAe
                have a0 := (hbel.cell (p := ⟨g, _, none⟩) hg).trans (ca (j + 1) hlt 0 (by decide))
                have a1 := (hbel.cell (p := ⟨g, _, none⟩) hg).trans (ca (j + 1) hlt 1 (by decide))
                have a2 := (hbel.cell (p := ⟨g, _, none⟩) hg).trans (ca (j + 1) hlt 2 (by decide))
                have a3 := (hbel.cell (p := ⟨g, _, none⟩) hg).trans (ca (j + 1) hlt 3 (by decide))
                have hlen := Pq.ok_lens (HOK.out l[j + 1] (List.getElem_mem hlt))
                have hqd := Od.ok_parts (HOK.out l[j + 1] (List.getElem_mem hlt))
                have HQ := Lib.hid (fun W h => itoa_any l[j + 1].q W h (by omega) (by omega))
                have HD := Lib.hid (fun W h => itoa_any l[j + 1].d W h (by omega) (by omega))
                have b0 := (hbel.cell (p := ⟨g, _, none⟩) hg).trans (ca j (by omega) 0 (by decide))
                have hpv : Pq.prev l (j + 1) = some l[j].o := Pq.prev_step (by omega)
                have es := text_eq l[j].o l[j + 1].o
                rw [decide_eq_true hpo] at es
                have hnew : Pq.prev l (j + 1) = some l[j + 1].o := by rw [hpv, hpo]
                have kz : (((j : Int) + 1) == 0) = false := by rw [beq_eq_false_iff_ne]; omega
                have x3 : IntKind.i64.wrap (j : Int) = (j : Int) := by rw [wrapEq]; unfold wrap64; omega
                have x4 : IntKind.i64.wrap ((j : Int) + 1 - 1) = (j : Int) := by rw [wrapEq]; unfold wrap64; omega
                have j0 : (0 : Int) ≤ (j : Int) := by omega
                have j1 : (j : Int) < (l.length : Int) := by omega
                have n0 := ca (j + 1 + 1) (by omega) 0 (by decide)
                have hend : Pq.ends l[j + 1].o (l.drop (j + 1 + 1)) = true := by rw [List.drop_eq_getElem_cons (by omega : j + 1 + 1 < l.length)]; simp [Pq.ends, hno]
                have lz : (((j : Int) + 1) == (l.length : Int) - 1) = false := by rw [beq_eq_false_iff_ne]; omega
                have es2 := text_eq l[j + 1 + 1].o l[j + 1].o
                rw [decide_eq_false hno] at es2
                have i2 : (0 : Int) ≤ ((j : Int) + 1) + 1 := by omega
                have i3 : ((j : Int) + 1) + 1 < (l.length : Int) := by omega
                have x1 : IntKind.i64.wrap (((j : Int) + 1) + 1) = ((j : Int) + 1) + 1 := by rw [wrapEq]; unfold wrap64; omega
                have x2 : IntKind.i64.wrap ((l.length : Int) - 1) = (l.length : Int) - 1 := by rw [wrapEq]; unfold wrap64; omega
                have i0 : (0 : Int) ≤ ((j : Int) + 1) := by omega
                have i1 : ((j : Int) + 1) < (l.length : Int) := by omega
                have hst := Pq.text_drop hlt
                rw [if_pos hnew, if_pos hend] at hst
                have HST := Lib.hid hst
                clear hst hend hnew ca
                simp only [itCells, List.getElem?_cons_zero, Nat.add_zero] at b0
                generalize hPO : l[j].o = po at *
                clear hPO
                simp only [itCells, List.getElem?_cons_zero, Nat.add_zero] at n0
                generalize hNO : l[j + 1 + 1].o = no at *
                clear hNO
                generalize hM : l[j + 1] = m at *
                clear hM
                obtain ⟨mo, mp, mq, md⟩ := m
                simp only [itCells, List.getElem?_cons_zero, List.getElem?_cons_succ, Nat.add_zero] at a0 a1 a2 a3
                simp only at hlen hqd HQ HD HST es es2
                unfold Pq.lineT at HST
                simp only at HST
                have hsz := HACC.out.2
                rw [← str_size mo, ← str_size mp, ← str_size (Lib.itoa mq), ← str_size (Lib.itoa md)] at hlen
                obtain ⟨acc1, HA1⟩ : ∃ acc1, Hid (acc1 = acc) := ⟨_, Lib.hid rfl⟩
                obtain ⟨acc2, HA2⟩ : ∃ acc2, Hid (acc2 = acc1 ++ (Pq.cPart ++ mp ++ Pq.cQuantity ++ Lib.itoa mq ++ Pq.cDue ++ Lib.itoa md ++ Pq.cSemi)) := ⟨_, Lib.hid rfl⟩
                obtain ⟨acc3, HA3⟩ : ∃ acc3, Hid (acc3 = acc2 ++ Pq.cClose) := ⟨_, Lib.hid rfl⟩
                have HNX : Hid (acc3 ++ Pq.text (Pq.prev l (j + 1 + 1)) (l.drop (j + 1 + 1)) = TT ∧ acc3.length ≤ 20000) := Lib.hid (by
                  have e : acc3 ++ Pq.text (Pq.prev l (j + 1 + 1)) (l.drop (j + 1 + 1)) = TT := by
                    rw [← HACC.out.1, HST.out, HA3.out, HA2.out, HA1.out]
                    simp
                  refine ⟨e, ?_⟩
                  have := congrArg List.length e
                  rw [List.length_append] at this
                  have := HTT.out
                  omega)
                have HL3 : Hid (acc1.length ≤ 20000 ∧ acc2.length ≤ 20000) := Lib.hid (by
                  have h9 := HNX.out.2
                  have e2 := congrArg List.length HA2.out
                  have e3 := congrArg List.length HA3.out
                  simp only [List.length_append] at e2 e3
                  omega)
                have hA1 := HA1.out
                subst hA1
                have E2 := Lib.hid (line_str0 mp (Lib.itoa mq) (Lib.itoa md))
                generalize Lib.itoa mq = tq at *
                generalize Lib.itoa md = td at *
                generalize (Pq.cPart ++ mp ++ Pq.cQuantity ++ tq ++ Pq.cDue ++ td ++ Pq.cSemi) = ln at *
                generalize hOB : (ByteArray.mk mo.toArray) = OB at *
                generalize hPB : (ByteArray.mk mp.toArray) = PB at *
                generalize hQB : (ByteArray.mk tq.toArray) = QB at *
                generalize hDB : (ByteArray.mk td.toArray) = DB at *
                clear hOB hPB hQB hDB
                have HN2 : Hid ((Lib.byteCells acc1).length + (ByteArray.mk #[9, 112, 97, 114, 116, 32] ++ PB ++ ByteArray.mk #[32, 113, 117, 97, 110, 116, 105, 116, 121, 32] ++ QB ++ ByteArray.mk #[32, 100, 117, 101, 32] ++ DB ++ ByteArray.mk #[59, 10]).size ≤ 140737488355328) := Lib.hid (by
                  have := HL3.out.1
                  rw [byteCells_len, ByteArray.size_append, ByteArray.size_append, ByteArray.size_append, ByteArray.size_append, ByteArray.size_append, ByteArray.size_append]; have : (ByteArray.mk #[9, 112, 97, 114, 116, 32]).size = 6 := rfl; have : (ByteArray.mk #[32, 113, 117, 97, 110, 116, 105, 116, 121, 32]).size = 10 := rfl; have : (ByteArray.mk #[32, 100, 117, 101, 32]).size = 5 := rfl; have : (ByteArray.mk #[59, 10]).size = 2 := rfl; omega)
                have HN3 : Hid ((Lib.byteCells acc2).length + (ByteArray.mk #[125, 10]).size ≤ 140737488355328) := Lib.hid (by have := HL3.out.2; rw [byteCells_len]; have : (ByteArray.mk #[125, 10]).size = 2 := rfl; omega)
                generalize (ByteArray.mk po.toArray) = PO at *
                generalize (ByteArray.mk no.toArray) = NO at *
                have ne1 : (PO.toList != OB.toList) = false := by unfold bne; rw [es]; rfl
                have ne2 : (NO.toList != OB.toList) = true := by unfold bne; rw [es2]; rfl
                have p1 : (9223372036854775807 < 6 + PB.size) = False := eq_false (by omega)
                have p2 : (9223372036854775807 < 6 + PB.size + 10) = False := eq_false (by omega)
                have p3 : (9223372036854775807 < 6 + PB.size + 10 + QB.size) = False := eq_false (by omega)
                have p4 : (9223372036854775807 < 6 + PB.size + 10 + QB.size + 5) = False := eq_false (by omega)
                have p5 : (9223372036854775807 < 6 + PB.size + 10 + QB.size + 5 + DB.size) = False := eq_false (by omega)
                have p6 : (9223372036854775807 < 6 + PB.size + 10 + QB.size + 5 + DB.size + 2) = False := eq_false (by omega)
                clear hla hno
                clear hpo
                have HBL1 := Lib.hid (isBuilder_below hBld (bel1 wr (.cells #[.string OB, .string PB, .int .i64 mq, .int .i64 md] 33)))
                have HBE1 := Lib.hid (hbel.alloc hbel.size (.cells #[.string OB, .string PB, .int .i64 mq, .int .i64 md] 33))
                have HX1 := Lib.hid (heap_alloc_new wr (.cells #[.string OB, .string PB, .int .i64 mq, .int .i64 md] 33))
                have hxb : b < wr.heap.size := hbx
                have hgx : g < wr.heap.size := Nat.lt_of_lt_of_le hg hbel.size
                have z0 := ((bel1 wr (.cells #[.string OB, .string PB, .int .i64 mq, .int .i64 md] 33)).cell (p := ⟨g, _, none⟩) hgx).trans b0
                clear hsz hlen hqd hBld hbel hbx b0
                go_wp2_with fail
                generalize wr.alloc (.cells #[.string OB, .string PB, .int .i64 mq, .int .i64 md] 33) = W1 at *
                have y0 := cell_of HX1.out 0 _ rfl
                clear a0 a1 a2 a3
                go_quiet (fail)
                have HBL2 := Lib.hid (isBuilder_below HBL1.out (below_drewN (Below.refl _ _) nq))
                have HBE2 := Lib.hid (below_drewN HBE1.out nq)
                have HX2 : Hid ((W1.drewN nq).heap[wr.heap.size]? = some (.cells #[.string OB, .string PB, .int .i64 mq, .int .i64 md] 33)) := Lib.hid HX1.out
                generalize (W1.drewN nq) = W2 at *
                generalize wr.heap.size = xb at *
                clear HBL1 HBE1 HX1 y0 z0
                have HBL3 := HBL2
                have HBE3 := HBE2
                have HX3 := HX2
                clear HBL2 HBE2 HX2
                have HLW := Lib.hid (HL.out.below HBE3.out)
                have hc3 := cells3 HX3.out
                go_wp2_with fail
                go_region_held3 (fun w' => w'.cell? ⟨xb, 1, none⟩ = some (.string PB) ∧ w'.cell? ⟨xb, 2, none⟩ = some (.int .i64 mq) ∧ w'.cell? ⟨xb, 3, none⟩ = some (.int .i64 md))
                  (first | assumption | exact cells3 (keepx HX3.out (bdrew (Below.refl _ _))) | exact cells3 HX6.out | exact cells3 HX5.out | exact cells3 HX4.out)
                  (first
                    | (go_at_call_of 25 (Value.int .i64 mq); refine (HQ.out _ (HLW.out.below (bdrew (Below.refl _ _)))).mono ?_; rintro e w4 ⟨rfl, hb4⟩; have HX4 := Lib.hid (keepx (w := W2.drew) HX3.out hb4))
                    | (go_at_call_of 25 (Value.int .i64 md); refine (HD.out _ ((HLW.out.below (bdrew (Below.refl _ _))).below hb4)).mono ?_; rintro e w5 ⟨rfl, hb5⟩; have HX5 := Lib.hid (keepx HX4.out hb5); have HBL5 := Lib.hid (isBuilder_below (isBuilder_below (isBuilder_below HBL3.out (bdrew (Below.refl _ _))) hb4) hb5); have HBE5 := Lib.hid (((bdrew HBE3.out).trans (hb4.mono (bdrew HBE3.out).size)).trans (hb5.mono (((bdrew HBE3.out).trans (hb4.mono (bdrew HBE3.out).size))).size)))
                    | (go_at_call 24; refine (writeString_k w.heap.size b _ _ _ HBL5.out HN2.out HBE5.out.size).mono ?_; rintro e w6 ⟨rfl, hB6, hb6, hk6⟩; have HX6 := Lib.hid (hk6 xb _ HX5.out (by intro e; injection e; omega) (by intro c fz e; cases e))))
                rw [E2.out, strCells_mk, ← byteCells_app, ← HA2.out] at hB6
                have HBL6 : Hid (Lib.IsBuilder 60 5 w.heap.size b (Lib.byteCells acc2) w6) := Lib.hid (.inr hB6)
                have HBE6 := Lib.hid (HBE5.out.trans hb6)
                have y0 := cell_of HX6.out 0 _ rfl
                have u4 := (HBE6.out.cell (p := ⟨g, _, none⟩) hg).trans n0
                clear n0
                clear hB6 hb6 hk6 hb4 hb5 hc3
                go_wp2_with fail
                go_quiet (fail)
                have HBL7 := Lib.hid (isBuilder_below HBL6.out (below_drewN (Below.refl _ _) nq))
                have HBE7 := Lib.hid (below_drewN HBE6.out nq)
                go_wp2_with fail
                refine (writeString_k w.heap.size b _ _ _ HBL7.out HN3.out HBE7.out.size).mono ?_
                rintro e w8 ⟨rfl, hB8, hb8, hk8⟩
                have hsc : Lib.strCells (ByteArray.mk #[125, 10]) = Lib.byteCells Pq.cClose := rfl
                rw [hsc, ← byteCells_app, ← HA3.out] at hB8
                have HBL8 : Hid (Lib.IsBuilder 60 5 w.heap.size b (Lib.byteCells acc3) w8) := Lib.hid (.inr hB8)
                have HBE8 := Lib.hid (HBE7.out.trans hb8)
                clear hB8 hb8 hk8 hsc
                go_wp2
                go_roundw
                case rel => exact ⟨j + 1 + 1, acc3, by omega, by go_num, HBL8.out, HNX, HBE8.out⟩
                case measure => simp [intOf]; omega

          · by_cases hla : j + 1 = l.length - 1
            · obtain ⟨g, off, hAe, hg, ca⟩ := row_get it_len (by decide) HR.out (by omega)
              subst hAe
              have a0 := (hbel.cell (p := ⟨g, _, none⟩) hg).trans (ca (j + 1) hlt 0 (by decide))
              have a1 := (hbel.cell (p := ⟨g, _, none⟩) hg).trans (ca (j + 1) hlt 1 (by decide))
              have a2 := (hbel.cell (p := ⟨g, _, none⟩) hg).trans (ca (j + 1) hlt 2 (by decide))
              have a3 := (hbel.cell (p := ⟨g, _, none⟩) hg).trans (ca (j + 1) hlt 3 (by decide))
              have hlen := Pq.ok_lens (HOK.out l[j + 1] (List.getElem_mem hlt))
              have hqd := Od.ok_parts (HOK.out l[j + 1] (List.getElem_mem hlt))
              have HQ := Lib.hid (fun W h => itoa_any l[j + 1].q W h (by omega) (by omega))
              have HD := Lib.hid (fun W h => itoa_any l[j + 1].d W h (by omega) (by omega))
              have b0 := (hbel.cell (p := ⟨g, _, none⟩) hg).trans (ca j (by omega) 0 (by decide))
              have hpv : Pq.prev l (j + 1) = some l[j].o := Pq.prev_step (by omega)
              have es := text_eq l[j].o l[j + 1].o
              rw [decide_eq_false hpo] at es
              have hnew : Pq.prev l (j + 1) ≠ some l[j + 1].o := by rw [hpv]; intro e; injection e with e; exact hpo e
              have kz : (((j : Int) + 1) == 0) = false := by rw [beq_eq_false_iff_ne]; omega
              have x3 : IntKind.i64.wrap (j : Int) = (j : Int) := by rw [wrapEq]; unfold wrap64; omega
              have x4 : IntKind.i64.wrap ((j : Int) + 1 - 1) = (j : Int) := by rw [wrapEq]; unfold wrap64; omega
              have j0 : (0 : Int) ≤ (j : Int) := by omega
              have j1 : (j : Int) < (l.length : Int) := by omega
              have hend : Pq.ends l[j + 1].o (l.drop (j + 1 + 1)) = true := by rw [List.drop_eq_nil_of_le (by omega)]; rfl
              have lz : (((j : Int) + 1) == (l.length : Int) - 1) = true := by simp; omega
              have x2 : IntKind.i64.wrap ((l.length : Int) - 1) = (l.length : Int) - 1 := by rw [wrapEq]; unfold wrap64; omega
              have i0 : (0 : Int) ≤ ((j : Int) + 1) := by omega
              have i1 : ((j : Int) + 1) < (l.length : Int) := by omega
              have hst := Pq.text_drop hlt
              rw [if_neg hnew, if_pos hend] at hst
              have HST := Lib.hid hst
              clear hst hend hnew ca
              simp only [itCells, List.getElem?_cons_zero, Nat.add_zero] at b0
              generalize hPO : l[j].o = po at *
              clear hPO
              generalize hM : l[j + 1] = m at *
              clear hM
              obtain ⟨mo, mp, mq, md⟩ := m
              simp only [itCells, List.getElem?_cons_zero, List.getElem?_cons_succ, Nat.add_zero] at a0 a1 a2 a3
              simp only at hlen hqd HQ HD HST es
              unfold Pq.lineT at HST
              simp only at HST
              have hsz := HACC.out.2
              rw [← str_size mo, ← str_size mp, ← str_size (Lib.itoa mq), ← str_size (Lib.itoa md)] at hlen
              obtain ⟨acc1, HA1⟩ : ∃ acc1, Hid (acc1 = acc ++ Pq.openT mo) := ⟨_, Lib.hid rfl⟩
              obtain ⟨acc2, HA2⟩ : ∃ acc2, Hid (acc2 = acc1 ++ (Pq.cPart ++ mp ++ Pq.cQuantity ++ Lib.itoa mq ++ Pq.cDue ++ Lib.itoa md ++ Pq.cSemi)) := ⟨_, Lib.hid rfl⟩
              obtain ⟨acc3, HA3⟩ : ∃ acc3, Hid (acc3 = acc2 ++ Pq.cClose) := ⟨_, Lib.hid rfl⟩
              have HNX : Hid (acc3 ++ Pq.text (Pq.prev l (j + 1 + 1)) (l.drop (j + 1 + 1)) = TT ∧ acc3.length ≤ 20000) := Lib.hid (by
                have e : acc3 ++ Pq.text (Pq.prev l (j + 1 + 1)) (l.drop (j + 1 + 1)) = TT := by
                  rw [← HACC.out.1, HST.out, HA3.out, HA2.out, HA1.out]
                  simp
                refine ⟨e, ?_⟩
                have := congrArg List.length e
                rw [List.length_append] at this
                have := HTT.out
                omega)
              have HL3 : Hid (acc1.length ≤ 20000 ∧ acc2.length ≤ 20000) := Lib.hid (by
                have h9 := HNX.out.2
                have e2 := congrArg List.length HA2.out
                have e3 := congrArg List.length HA3.out
                simp only [List.length_append] at e2 e3
                omega)
              have E1 := Lib.hid (open_str0 mo)
              have E2 := Lib.hid (line_str0 mp (Lib.itoa mq) (Lib.itoa md))
              generalize Lib.itoa mq = tq at *
              generalize Lib.itoa md = td at *
              generalize (Pq.cPart ++ mp ++ Pq.cQuantity ++ tq ++ Pq.cDue ++ td ++ Pq.cSemi) = ln at *
              generalize Pq.openT mo = op at *
              generalize hOB : (ByteArray.mk mo.toArray) = OB at *
              generalize hPB : (ByteArray.mk mp.toArray) = PB at *
              generalize hQB : (ByteArray.mk tq.toArray) = QB at *
              generalize hDB : (ByteArray.mk td.toArray) = DB at *
              clear hOB hPB hQB hDB
              have m2 : (9223372036854775807 < 6 + OB.size) = False := eq_false (by omega)
              have m3 : (9223372036854775807 < 6 + OB.size + 3) = False := eq_false (by omega)
              have HN1 : Hid ((Lib.byteCells acc).length + (ByteArray.mk #[111, 114, 100, 101, 114, 32] ++ OB ++ ByteArray.mk #[32, 123, 10]).size ≤ 140737488355328) := Lib.hid (by rw [byteCells_len, ByteArray.size_append, ByteArray.size_append]; have : (ByteArray.mk #[111, 114, 100, 101, 114, 32]).size = 6 := rfl; have : (ByteArray.mk #[32, 123, 10]).size = 3 := rfl; omega)
              have HN2 : Hid ((Lib.byteCells acc1).length + (ByteArray.mk #[9, 112, 97, 114, 116, 32] ++ PB ++ ByteArray.mk #[32, 113, 117, 97, 110, 116, 105, 116, 121, 32] ++ QB ++ ByteArray.mk #[32, 100, 117, 101, 32] ++ DB ++ ByteArray.mk #[59, 10]).size ≤ 140737488355328) := Lib.hid (by
                have := HL3.out.1
                rw [byteCells_len, ByteArray.size_append, ByteArray.size_append, ByteArray.size_append, ByteArray.size_append, ByteArray.size_append, ByteArray.size_append]; have : (ByteArray.mk #[9, 112, 97, 114, 116, 32]).size = 6 := rfl; have : (ByteArray.mk #[32, 113, 117, 97, 110, 116, 105, 116, 121, 32]).size = 10 := rfl; have : (ByteArray.mk #[32, 100, 117, 101, 32]).size = 5 := rfl; have : (ByteArray.mk #[59, 10]).size = 2 := rfl; omega)
              have HN3 : Hid ((Lib.byteCells acc2).length + (ByteArray.mk #[125, 10]).size ≤ 140737488355328) := Lib.hid (by have := HL3.out.2; rw [byteCells_len]; have : (ByteArray.mk #[125, 10]).size = 2 := rfl; omega)
              generalize (ByteArray.mk po.toArray) = PO at *
              have ne1 : (PO.toList != OB.toList) = true := by unfold bne; rw [es]; rfl
              have p1 : (9223372036854775807 < 6 + PB.size) = False := eq_false (by omega)
              have p2 : (9223372036854775807 < 6 + PB.size + 10) = False := eq_false (by omega)
              have p3 : (9223372036854775807 < 6 + PB.size + 10 + QB.size) = False := eq_false (by omega)
              have p4 : (9223372036854775807 < 6 + PB.size + 10 + QB.size + 5) = False := eq_false (by omega)
              have p5 : (9223372036854775807 < 6 + PB.size + 10 + QB.size + 5 + DB.size) = False := eq_false (by omega)
              have p6 : (9223372036854775807 < 6 + PB.size + 10 + QB.size + 5 + DB.size + 2) = False := eq_false (by omega)
              clear hla
              clear hpo
              have HBL1 := Lib.hid (isBuilder_below hBld (bel1 wr (.cells #[.string OB, .string PB, .int .i64 mq, .int .i64 md] 33)))
              have HBE1 := Lib.hid (hbel.alloc hbel.size (.cells #[.string OB, .string PB, .int .i64 mq, .int .i64 md] 33))
              have HX1 := Lib.hid (heap_alloc_new wr (.cells #[.string OB, .string PB, .int .i64 mq, .int .i64 md] 33))
              have hxb : b < wr.heap.size := hbx
              have hgx : g < wr.heap.size := Nat.lt_of_lt_of_le hg hbel.size
              have z0 := ((bel1 wr (.cells #[.string OB, .string PB, .int .i64 mq, .int .i64 md] 33)).cell (p := ⟨g, _, none⟩) hgx).trans b0
              clear hsz hlen hqd hBld hbel hbx b0
              go_wp2_with fail
              generalize wr.alloc (.cells #[.string OB, .string PB, .int .i64 mq, .int .i64 md] 33) = W1 at *
              have y0 := cell_of HX1.out 0 _ rfl
              clear a0 a1 a2 a3
              go_quiet (fail)
              have HBL2 := Lib.hid (isBuilder_below HBL1.out (below_drewN (Below.refl _ _) nq))
              have HBE2 := Lib.hid (below_drewN HBE1.out nq)
              have HX2 : Hid ((W1.drewN nq).heap[wr.heap.size]? = some (.cells #[.string OB, .string PB, .int .i64 mq, .int .i64 md] 33)) := Lib.hid HX1.out
              generalize (W1.drewN nq) = W2 at *
              generalize wr.heap.size = xb at *
              clear HBL1 HBE1 HX1 y0 z0
              have y0 := cell_of HX2.out 0 _ rfl
              go_wp2_with fail
              refine (writeString_k w.heap.size b _ _ _ HBL2.out HN1.out HBE2.out.size).mono ?_
              rintro e W3 ⟨rfl, hB3, hb3, hk3⟩
              rw [E1.out, strCells_mk, ← byteCells_app, ← HA1.out] at hB3
              have HBL3 : Hid (Lib.IsBuilder 60 5 w.heap.size b (Lib.byteCells acc1) W3) := Lib.hid (.inr hB3)
              have HBE3 := Lib.hid (HBE2.out.trans hb3)
              have HX3 := Lib.hid (hk3 xb _ HX2.out (by intro e; injection e; omega) (by intro c fz e; cases e))
              clear hB3 hb3 hk3 HBL2 HBE2 HX2 y0
              have HLW := Lib.hid (HL.out.below HBE3.out)
              have hc3 := cells3 HX3.out
              go_wp2_with fail
              go_region_held3 (fun w' => w'.cell? ⟨xb, 1, none⟩ = some (.string PB) ∧ w'.cell? ⟨xb, 2, none⟩ = some (.int .i64 mq) ∧ w'.cell? ⟨xb, 3, none⟩ = some (.int .i64 md))
                (first | assumption | exact cells3 (keepx HX3.out (bdrew (Below.refl _ _))) | exact cells3 HX6.out | exact cells3 HX5.out | exact cells3 HX4.out)
                (first
                  | (go_at_call_of 25 (Value.int .i64 mq); refine (HQ.out _ (HLW.out.below (bdrew (Below.refl _ _)))).mono ?_; rintro e w4 ⟨rfl, hb4⟩; have HX4 := Lib.hid (keepx (w := W3.drew) HX3.out hb4))
                  | (go_at_call_of 25 (Value.int .i64 md); refine (HD.out _ ((HLW.out.below (bdrew (Below.refl _ _))).below hb4)).mono ?_; rintro e w5 ⟨rfl, hb5⟩; have HX5 := Lib.hid (keepx HX4.out hb5); have HBL5 := Lib.hid (isBuilder_below (isBuilder_below (isBuilder_below HBL3.out (bdrew (Below.refl _ _))) hb4) hb5); have HBE5 := Lib.hid (((bdrew HBE3.out).trans (hb4.mono (bdrew HBE3.out).size)).trans (hb5.mono (((bdrew HBE3.out).trans (hb4.mono (bdrew HBE3.out).size))).size)))
                  | (go_at_call 24; refine (writeString_k w.heap.size b _ _ _ HBL5.out HN2.out HBE5.out.size).mono ?_; rintro e w6 ⟨rfl, hB6, hb6, hk6⟩; have HX6 := Lib.hid (hk6 xb _ HX5.out (by intro e; injection e; omega) (by intro c fz e; cases e))))
              rw [E2.out, strCells_mk, ← byteCells_app, ← HA2.out] at hB6
              have HBL6 : Hid (Lib.IsBuilder 60 5 w.heap.size b (Lib.byteCells acc2) w6) := Lib.hid (.inr hB6)
              have HBE6 := Lib.hid (HBE5.out.trans hb6)
              have y0 := cell_of HX6.out 0 _ rfl
              clear hB6 hb6 hk6 hb4 hb5 hc3
              go_wp2_with fail
              go_quiet (fail)
              have HBL7 := Lib.hid (isBuilder_below HBL6.out (below_drewN (Below.refl _ _) nq))
              have HBE7 := Lib.hid (below_drewN HBE6.out nq)
              go_wp2_with fail
              refine (writeString_k w.heap.size b _ _ _ HBL7.out HN3.out HBE7.out.size).mono ?_
              rintro e w8 ⟨rfl, hB8, hb8, hk8⟩
              have hsc : Lib.strCells (ByteArray.mk #[125, 10]) = Lib.byteCells Pq.cClose := rfl
              rw [hsc, ← byteCells_app, ← HA3.out] at hB8
              have HBL8 : Hid (Lib.IsBuilder 60 5 w.heap.size b (Lib.byteCells acc3) w8) := Lib.hid (.inr hB8)
              have HBE8 := Lib.hid (HBE7.out.trans hb8)
              clear hB8 hb8 hk8 hsc
              go_wp2
              go_roundw
              case rel => exact ⟨j + 1 + 1, acc3, by omega, by go_num, HBL8.out, HNX, HBE8.out⟩
              case measure => simp [intOf]; omega

            · have hk9 : j + 1 + 1 < l.length := by omega
              by_cases hno : l[j + 1 + 1].o = l[j + 1].o
              · obtain ⟨g, off, hAe, hg, ca⟩ := row_get it_len (by decide) HR.out (by omega)
                subst hAe
                have a0 := (hbel.cell (p := ⟨g, _, none⟩) hg).trans (ca (j + 1) hlt 0 (by decide))
                have a1 := (hbel.cell (p := ⟨g, _, none⟩) hg).trans (ca (j + 1) hlt 1 (by decide))
                have a2 := (hbel.cell (p := ⟨g, _, none⟩) hg).trans (ca (j + 1) hlt 2 (by decide))
                have a3 := (hbel.cell (p := ⟨g, _, none⟩) hg).trans (ca (j + 1) hlt 3 (by decide))
                have hlen := Pq.ok_lens (HOK.out l[j + 1] (List.getElem_mem hlt))
                have hqd := Od.ok_parts (HOK.out l[j + 1] (List.getElem_mem hlt))
                have HQ := Lib.hid (fun W h => itoa_any l[j + 1].q W h (by omega) (by omega))
                have HD := Lib.hid (fun W h => itoa_any l[j + 1].d W h (by omega) (by omega))
                have b0 := (hbel.cell (p := ⟨g, _, none⟩) hg).trans (ca j (by omega) 0 (by decide))
                have hpv : Pq.prev l (j + 1) = some l[j].o := Pq.prev_step (by omega)
                have es := text_eq l[j].o l[j + 1].o
                rw [decide_eq_false hpo] at es
                have hnew : Pq.prev l (j + 1) ≠ some l[j + 1].o := by rw [hpv]; intro e; injection e with e; exact hpo e
                have kz : (((j : Int) + 1) == 0) = false := by rw [beq_eq_false_iff_ne]; omega
                have x3 : IntKind.i64.wrap (j : Int) = (j : Int) := by rw [wrapEq]; unfold wrap64; omega
                have x4 : IntKind.i64.wrap ((j : Int) + 1 - 1) = (j : Int) := by rw [wrapEq]; unfold wrap64; omega
                have j0 : (0 : Int) ≤ (j : Int) := by omega
                have j1 : (j : Int) < (l.length : Int) := by omega
                have n0 := ca (j + 1 + 1) (by omega) 0 (by decide)
                have hend : Pq.ends l[j + 1].o (l.drop (j + 1 + 1)) = false := by rw [List.drop_eq_getElem_cons (by omega : j + 1 + 1 < l.length)]; simp [Pq.ends, hno]
                have lz : (((j : Int) + 1) == (l.length : Int) - 1) = false := by rw [beq_eq_false_iff_ne]; omega
                have es2 := text_eq l[j + 1 + 1].o l[j + 1].o
                rw [decide_eq_true hno] at es2
                have i2 : (0 : Int) ≤ ((j : Int) + 1) + 1 := by omega
                have i3 : ((j : Int) + 1) + 1 < (l.length : Int) := by omega
                have x1 : IntKind.i64.wrap (((j : Int) + 1) + 1) = ((j : Int) + 1) + 1 := by rw [wrapEq]; unfold wrap64; omega
                have x2 : IntKind.i64.wrap ((l.length : Int) - 1) = (l.length : Int) - 1 := by rw [wrapEq]; unfold wrap64; omega
                have i0 : (0 : Int) ≤ ((j : Int) + 1) := by omega
                have i1 : ((j : Int) + 1) < (l.length : Int) := by omega
                have hst := Pq.text_drop hlt
                rw [if_neg hnew, if_neg (by rw [hend]; simp)] at hst
                have HST := Lib.hid hst
                clear hst hend hnew ca
                simp only [itCells, List.getElem?_cons_zero, Nat.add_zero] at b0
                generalize hPO : l[j].o = po at *
                clear hPO
                simp only [itCells, List.getElem?_cons_zero, Nat.add_zero] at n0
                generalize hNO : l[j + 1 + 1].o = no at *
                clear hNO
                generalize hM : l[j + 1] = m at *
                clear hM
                obtain ⟨mo, mp, mq, md⟩ := m
                simp only [itCells, List.getElem?_cons_zero, List.getElem?_cons_succ, Nat.add_zero] at a0 a1 a2 a3
                simp only at hlen hqd HQ HD HST es es2
                unfold Pq.lineT at HST
                simp only at HST
                have hsz := HACC.out.2
                rw [← str_size mo, ← str_size mp, ← str_size (Lib.itoa mq), ← str_size (Lib.itoa md)] at hlen
                obtain ⟨acc1, HA1⟩ : ∃ acc1, Hid (acc1 = acc ++ Pq.openT mo) := ⟨_, Lib.hid rfl⟩
                obtain ⟨acc2, HA2⟩ : ∃ acc2, Hid (acc2 = acc1 ++ (Pq.cPart ++ mp ++ Pq.cQuantity ++ Lib.itoa mq ++ Pq.cDue ++ Lib.itoa md ++ Pq.cSemi)) := ⟨_, Lib.hid rfl⟩
                obtain ⟨acc3, HA3⟩ : ∃ acc3, Hid (acc3 = acc2) := ⟨_, Lib.hid rfl⟩
                have HNX : Hid (acc3 ++ Pq.text (Pq.prev l (j + 1 + 1)) (l.drop (j + 1 + 1)) = TT ∧ acc3.length ≤ 20000) := Lib.hid (by
                  have e : acc3 ++ Pq.text (Pq.prev l (j + 1 + 1)) (l.drop (j + 1 + 1)) = TT := by
                    rw [← HACC.out.1, HST.out, HA3.out, HA2.out, HA1.out]
                    simp
                  refine ⟨e, ?_⟩
                  have := congrArg List.length e
                  rw [List.length_append] at this
                  have := HTT.out
                  omega)
                have HL3 : Hid (acc1.length ≤ 20000 ∧ acc2.length ≤ 20000) := Lib.hid (by
                  have h9 := HNX.out.2
                  have e2 := congrArg List.length HA2.out
                  have e3 := congrArg List.length HA3.out
                  simp only [List.length_append] at e2 e3
                  omega)
                have E1 := Lib.hid (open_str0 mo)
                have E2 := Lib.hid (line_str0 mp (Lib.itoa mq) (Lib.itoa md))
                have hA3 := HA3.out.symm
                subst hA3
                generalize Lib.itoa mq = tq at *
                generalize Lib.itoa md = td at *
                generalize (Pq.cPart ++ mp ++ Pq.cQuantity ++ tq ++ Pq.cDue ++ td ++ Pq.cSemi) = ln at *
                generalize Pq.openT mo = op at *
                generalize hOB : (ByteArray.mk mo.toArray) = OB at *
                generalize hPB : (ByteArray.mk mp.toArray) = PB at *
                generalize hQB : (ByteArray.mk tq.toArray) = QB at *
                generalize hDB : (ByteArray.mk td.toArray) = DB at *
                clear hOB hPB hQB hDB
                have m2 : (9223372036854775807 < 6 + OB.size) = False := eq_false (by omega)
                have m3 : (9223372036854775807 < 6 + OB.size + 3) = False := eq_false (by omega)
                have HN1 : Hid ((Lib.byteCells acc).length + (ByteArray.mk #[111, 114, 100, 101, 114, 32] ++ OB ++ ByteArray.mk #[32, 123, 10]).size ≤ 140737488355328) := Lib.hid (by rw [byteCells_len, ByteArray.size_append, ByteArray.size_append]; have : (ByteArray.mk #[111, 114, 100, 101, 114, 32]).size = 6 := rfl; have : (ByteArray.mk #[32, 123, 10]).size = 3 := rfl; omega)
                have HN2 : Hid ((Lib.byteCells acc1).length + (ByteArray.mk #[9, 112, 97, 114, 116, 32] ++ PB ++ ByteArray.mk #[32, 113, 117, 97, 110, 116, 105, 116, 121, 32] ++ QB ++ ByteArray.mk #[32, 100, 117, 101, 32] ++ DB ++ ByteArray.mk #[59, 10]).size ≤ 140737488355328) := Lib.hid (by
                  have := HL3.out.1
                  rw [byteCells_len, ByteArray.size_append, ByteArray.size_append, ByteArray.size_append, ByteArray.size_append, ByteArray.size_append, ByteArray.size_append]; have : (ByteArray.mk #[9, 112, 97, 114, 116, 32]).size = 6 := rfl; have : (ByteArray.mk #[32, 113, 117, 97, 110, 116, 105, 116, 121, 32]).size = 10 := rfl; have : (ByteArray.mk #[32, 100, 117, 101, 32]).size = 5 := rfl; have : (ByteArray.mk #[59, 10]).size = 2 := rfl; omega)
                generalize (ByteArray.mk po.toArray) = PO at *
                generalize (ByteArray.mk no.toArray) = NO at *
                have ne1 : (PO.toList != OB.toList) = true := by unfold bne; rw [es]; rfl
                have ne2 : (NO.toList != OB.toList) = false := by unfold bne; rw [es2]; rfl
                have p1 : (9223372036854775807 < 6 + PB.size) = False := eq_false (by omega)
                have p2 : (9223372036854775807 < 6 + PB.size + 10) = False := eq_false (by omega)
                have p3 : (9223372036854775807 < 6 + PB.size + 10 + QB.size) = False := eq_false (by omega)
                have p4 : (9223372036854775807 < 6 + PB.size + 10 + QB.size + 5) = False := eq_false (by omega)
                have p5 : (9223372036854775807 < 6 + PB.size + 10 + QB.size + 5 + DB.size) = False := eq_false (by omega)
                have p6 : (9223372036854775807 < 6 + PB.size + 10 + QB.size + 5 + DB.size + 2) = False := eq_false (by omega)
                clear hla hno
                clear hpo
                have HBL1 := Lib.hid (isBuilder_below hBld (bel1 wr (.cells #[.string OB, .string PB, .int .i64 mq, .int .i64 md] 33)))
                have HBE1 := Lib.hid (hbel.alloc hbel.size (.cells #[.string OB, .string PB, .int .i64 mq, .int .i64 md] 33))
                have HX1 := Lib.hid (heap_alloc_new wr (.cells #[.string OB, .string PB, .int .i64 mq, .int .i64 md] 33))
                have hxb : b < wr.heap.size := hbx
                have hgx : g < wr.heap.size := Nat.lt_of_lt_of_le hg hbel.size
                have z0 := ((bel1 wr (.cells #[.string OB, .string PB, .int .i64 mq, .int .i64 md] 33)).cell (p := ⟨g, _, none⟩) hgx).trans b0
                clear hsz hlen hqd hBld hbel hbx b0
                go_wp2_with fail
                generalize wr.alloc (.cells #[.string OB, .string PB, .int .i64 mq, .int .i64 md] 33) = W1 at *
                have y0 := cell_of HX1.out 0 _ rfl
                clear a0 a1 a2 a3
                go_quiet (fail)
                have HBL2 := Lib.hid (isBuilder_below HBL1.out (below_drewN (Below.refl _ _) nq))
                have HBE2 := Lib.hid (below_drewN HBE1.out nq)
                have HX2 : Hid ((W1.drewN nq).heap[wr.heap.size]? = some (.cells #[.string OB, .string PB, .int .i64 mq, .int .i64 md] 33)) := Lib.hid HX1.out
                generalize (W1.drewN nq) = W2 at *
                generalize wr.heap.size = xb at *
                clear HBL1 HBE1 HX1 y0 z0
                have y0 := cell_of HX2.out 0 _ rfl
                go_wp2_with fail
                refine (writeString_k w.heap.size b _ _ _ HBL2.out HN1.out HBE2.out.size).mono ?_
                rintro e W3 ⟨rfl, hB3, hb3, hk3⟩
                rw [E1.out, strCells_mk, ← byteCells_app, ← HA1.out] at hB3
                have HBL3 : Hid (Lib.IsBuilder 60 5 w.heap.size b (Lib.byteCells acc1) W3) := Lib.hid (.inr hB3)
                have HBE3 := Lib.hid (HBE2.out.trans hb3)
                have HX3 := Lib.hid (hk3 xb _ HX2.out (by intro e; injection e; omega) (by intro c fz e; cases e))
                clear hB3 hb3 hk3 HBL2 HBE2 HX2 y0
                have HLW := Lib.hid (HL.out.below HBE3.out)
                have hc3 := cells3 HX3.out
                go_wp2_with fail
                go_region_held3 (fun w' => w'.cell? ⟨xb, 1, none⟩ = some (.string PB) ∧ w'.cell? ⟨xb, 2, none⟩ = some (.int .i64 mq) ∧ w'.cell? ⟨xb, 3, none⟩ = some (.int .i64 md))
                  (first | assumption | exact cells3 (keepx HX3.out (bdrew (Below.refl _ _))) | exact cells3 HX6.out | exact cells3 HX5.out | exact cells3 HX4.out)
                  (first
                    | (go_at_call_of 25 (Value.int .i64 mq); refine (HQ.out _ (HLW.out.below (bdrew (Below.refl _ _)))).mono ?_; rintro e w4 ⟨rfl, hb4⟩; have HX4 := Lib.hid (keepx (w := W3.drew) HX3.out hb4))
                    | (go_at_call_of 25 (Value.int .i64 md); refine (HD.out _ ((HLW.out.below (bdrew (Below.refl _ _))).below hb4)).mono ?_; rintro e w5 ⟨rfl, hb5⟩; have HX5 := Lib.hid (keepx HX4.out hb5); have HBL5 := Lib.hid (isBuilder_below (isBuilder_below (isBuilder_below HBL3.out (bdrew (Below.refl _ _))) hb4) hb5); have HBE5 := Lib.hid (((bdrew HBE3.out).trans (hb4.mono (bdrew HBE3.out).size)).trans (hb5.mono (((bdrew HBE3.out).trans (hb4.mono (bdrew HBE3.out).size))).size)))
                    | (go_at_call 24; refine (writeString_k w.heap.size b _ _ _ HBL5.out HN2.out HBE5.out.size).mono ?_; rintro e w6 ⟨rfl, hB6, hb6, hk6⟩; have HX6 := Lib.hid (hk6 xb _ HX5.out (by intro e; injection e; omega) (by intro c fz e; cases e))))
                rw [E2.out, strCells_mk, ← byteCells_app, ← HA2.out] at hB6
                have HBL6 : Hid (Lib.IsBuilder 60 5 w.heap.size b (Lib.byteCells acc2) w6) := Lib.hid (.inr hB6)
                have HBE6 := Lib.hid (HBE5.out.trans hb6)
                have y0 := cell_of HX6.out 0 _ rfl
                have u4 := (HBE6.out.cell (p := ⟨g, _, none⟩) hg).trans n0
                clear n0
                clear hB6 hb6 hk6 hb4 hb5 hc3
                go_wp2_with fail
                go_quiet (fail)
                have HBL8 := Lib.hid (isBuilder_below HBL6.out (below_drewN (Below.refl _ _) nq))
                have HBE8 := Lib.hid (below_drewN HBE6.out nq)
                go_wp2
                go_roundw
                case rel => exact ⟨j + 1 + 1, acc2, by omega, by go_num, HBL8.out, HNX, HBE8.out⟩
                case measure => simp [intOf]; omega

              · obtain ⟨g, off, hAe, hg, ca⟩ := row_get it_len (by decide) HR.out (by omega)
                subst hAe
                have a0 := (hbel.cell (p := ⟨g, _, none⟩) hg).trans (ca (j + 1) hlt 0 (by decide))
                have a1 := (hbel.cell (p := ⟨g, _, none⟩) hg).trans (ca (j + 1) hlt 1 (by decide))
                have a2 := (hbel.cell (p := ⟨g, _, none⟩) hg).trans (ca (j + 1) hlt 2 (by decide))
                have a3 := (hbel.cell (p := ⟨g, _, none⟩) hg).trans (ca (j + 1) hlt 3 (by decide))
                have hlen := Pq.ok_lens (HOK.out l[j + 1] (List.getElem_mem hlt))
                have hqd := Od.ok_parts (HOK.out l[j + 1] (List.getElem_mem hlt))
                have HQ := Lib.hid (fun W h => itoa_any l[j + 1].q W h (by omega) (by omega))
                have HD := Lib.hid (fun W h => itoa_any l[j + 1].d W h (by omega) (by omega))
                have b0 := (hbel.cell (p := ⟨g, _, none⟩) hg).trans (ca j (by omega) 0 (by decide))
                have hpv : Pq.prev l (j + 1) = some l[j].o := Pq.prev_step (by omega)
                have es := text_eq l[j].o l[j + 1].o
                rw [decide_eq_false hpo] at es
                have hnew : Pq.prev l (j + 1) ≠ some l[j + 1].o := by rw [hpv]; intro e; injection e with e; exact hpo e
                have kz : (((j : Int) + 1) == 0) = false := by rw [beq_eq_false_iff_ne]; omega
                have x3 : IntKind.i64.wrap (j : Int) = (j : Int) := by rw [wrapEq]; unfold wrap64; omega
                have x4 : IntKind.i64.wrap ((j : Int) + 1 - 1) = (j : Int) := by rw [wrapEq]; unfold wrap64; omega
                have j0 : (0 : Int) ≤ (j : Int) := by omega
                have j1 : (j : Int) < (l.length : Int) := by omega
                have n0 := ca (j + 1 + 1) (by omega) 0 (by decide)
                have hend : Pq.ends l[j + 1].o (l.drop (j + 1 + 1)) = true := by rw [List.drop_eq_getElem_cons (by omega : j + 1 + 1 < l.length)]; simp [Pq.ends, hno]
                have lz : (((j : Int) + 1) == (l.length : Int) - 1) = false := by rw [beq_eq_false_iff_ne]; omega
                have es2 := text_eq l[j + 1 + 1].o l[j + 1].o
                rw [decide_eq_false hno] at es2
                have i2 : (0 : Int) ≤ ((j : Int) + 1) + 1 := by omega
                have i3 : ((j : Int) + 1) + 1 < (l.length : Int) := by omega
                have x1 : IntKind.i64.wrap (((j : Int) + 1) + 1) = ((j : Int) + 1) + 1 := by rw [wrapEq]; unfold wrap64; omega
                have x2 : IntKind.i64.wrap ((l.length : Int) - 1) = (l.length : Int) - 1 := by rw [wrapEq]; unfold wrap64; omega
                have i0 : (0 : Int) ≤ ((j : Int) + 1) := by omega
                have i1 : ((j : Int) + 1) < (l.length : Int) := by omega
                have hst := Pq.text_drop hlt
                rw [if_neg hnew, if_pos hend] at hst
                have HST := Lib.hid hst
                clear hst hend hnew ca
                simp only [itCells, List.getElem?_cons_zero, Nat.add_zero] at b0
                generalize hPO : l[j].o = po at *
                clear hPO
                simp only [itCells, List.getElem?_cons_zero, Nat.add_zero] at n0
                generalize hNO : l[j + 1 + 1].o = no at *
                clear hNO
                generalize hM : l[j + 1] = m at *
                clear hM
                obtain ⟨mo, mp, mq, md⟩ := m
                simp only [itCells, List.getElem?_cons_zero, List.getElem?_cons_succ, Nat.add_zero] at a0 a1 a2 a3
                simp only at hlen hqd HQ HD HST es es2
                unfold Pq.lineT at HST
                simp only at HST
                have hsz := HACC.out.2
                rw [← str_size mo, ← str_size mp, ← str_size (Lib.itoa mq), ← str_size (Lib.itoa md)] at hlen
                obtain ⟨acc1, HA1⟩ : ∃ acc1, Hid (acc1 = acc ++ Pq.openT mo) := ⟨_, Lib.hid rfl⟩
                obtain ⟨acc2, HA2⟩ : ∃ acc2, Hid (acc2 = acc1 ++ (Pq.cPart ++ mp ++ Pq.cQuantity ++ Lib.itoa mq ++ Pq.cDue ++ Lib.itoa md ++ Pq.cSemi)) := ⟨_, Lib.hid rfl⟩
                obtain ⟨acc3, HA3⟩ : ∃ acc3, Hid (acc3 = acc2 ++ Pq.cClose) := ⟨_, Lib.hid rfl⟩
                have HNX : Hid (acc3 ++ Pq.text (Pq.prev l (j + 1 + 1)) (l.drop (j + 1 + 1)) = TT ∧ acc3.length ≤ 20000) := Lib.hid (by
                  have e : acc3 ++ Pq.text (Pq.prev l (j + 1 + 1)) (l.drop (j + 1 + 1)) = TT := by
                    rw [← HACC.out.1, HST.out, HA3.out, HA2.out, HA1.out]
                    simp
                  refine ⟨e, ?_⟩
                  have := congrArg List.length e
                  rw [List.length_append] at this
                  have := HTT.out
                  omega)
                have HL3 : Hid (acc1.length ≤ 20000 ∧ acc2.length ≤ 20000) := Lib.hid (by
                  have h9 := HNX.out.2
                  have e2 := congrArg List.length HA2.out
                  have e3 := congrArg List.length HA3.out
                  simp only [List.length_append] at e2 e3
                  omega)
                have E1 := Lib.hid (open_str0 mo)
                have E2 := Lib.hid (line_str0 mp (Lib.itoa mq) (Lib.itoa md))
                generalize Lib.itoa mq = tq at *
                generalize Lib.itoa md = td at *
                generalize (Pq.cPart ++ mp ++ Pq.cQuantity ++ tq ++ Pq.cDue ++ td ++ Pq.cSemi) = ln at *
                generalize Pq.openT mo = op at *
                generalize hOB : (ByteArray.mk mo.toArray) = OB at *
                generalize hPB : (ByteArray.mk mp.toArray) = PB at *
                generalize hQB : (ByteArray.mk tq.toArray) = QB at *
                generalize hDB : (ByteArray.mk td.toArray) = DB at *
                clear hOB hPB hQB hDB
                have m2 : (9223372036854775807 < 6 + OB.size) = False := eq_false (by omega)
                have m3 : (9223372036854775807 < 6 + OB.size + 3) = False := eq_false (by omega)
                have HN1 : Hid ((Lib.byteCells acc).length + (ByteArray.mk #[111, 114, 100, 101, 114, 32] ++ OB ++ ByteArray.mk #[32, 123, 10]).size ≤ 140737488355328) := Lib.hid (by rw [byteCells_len, ByteArray.size_append, ByteArray.size_append]; have : (ByteArray.mk #[111, 114, 100, 101, 114, 32]).size = 6 := rfl; have : (ByteArray.mk #[32, 123, 10]).size = 3 := rfl; omega)
                have HN2 : Hid ((Lib.byteCells acc1).length + (ByteArray.mk #[9, 112, 97, 114, 116, 32] ++ PB ++ ByteArray.mk #[32, 113, 117, 97, 110, 116, 105, 116, 121, 32] ++ QB ++ ByteArray.mk #[32, 100, 117, 101, 32] ++ DB ++ ByteArray.mk #[59, 10]).size ≤ 140737488355328) := Lib.hid (by
                  have := HL3.out.1
                  rw [byteCells_len, ByteArray.size_append, ByteArray.size_append, ByteArray.size_append, ByteArray.size_append, ByteArray.size_append, ByteArray.size_append]; have : (ByteArray.mk #[9, 112, 97, 114, 116, 32]).size = 6 := rfl; have : (ByteArray.mk #[32, 113, 117, 97, 110, 116, 105, 116, 121, 32]).size = 10 := rfl; have : (ByteArray.mk #[32, 100, 117, 101, 32]).size = 5 := rfl; have : (ByteArray.mk #[59, 10]).size = 2 := rfl; omega)
                have HN3 : Hid ((Lib.byteCells acc2).length + (ByteArray.mk #[125, 10]).size ≤ 140737488355328) := Lib.hid (by have := HL3.out.2; rw [byteCells_len]; have : (ByteArray.mk #[125, 10]).size = 2 := rfl; omega)
                generalize (ByteArray.mk po.toArray) = PO at *
                generalize (ByteArray.mk no.toArray) = NO at *
                have ne1 : (PO.toList != OB.toList) = true := by unfold bne; rw [es]; rfl
                have ne2 : (NO.toList != OB.toList) = true := by unfold bne; rw [es2]; rfl
                have p1 : (9223372036854775807 < 6 + PB.size) = False := eq_false (by omega)
                have p2 : (9223372036854775807 < 6 + PB.size + 10) = False := eq_false (by omega)
                have p3 : (9223372036854775807 < 6 + PB.size + 10 + QB.size) = False := eq_false (by omega)
                have p4 : (9223372036854775807 < 6 + PB.size + 10 + QB.size + 5) = False := eq_false (by omega)
                have p5 : (9223372036854775807 < 6 + PB.size + 10 + QB.size + 5 + DB.size) = False := eq_false (by omega)
                have p6 : (9223372036854775807 < 6 + PB.size + 10 + QB.size + 5 + DB.size + 2) = False := eq_false (by omega)
                clear hla hno
                clear hpo
                have HBL1 := Lib.hid (isBuilder_below hBld (bel1 wr (.cells #[.string OB, .string PB, .int .i64 mq, .int .i64 md] 33)))
                have HBE1 := Lib.hid (hbel.alloc hbel.size (.cells #[.string OB, .string PB, .int .i64 mq, .int .i64 md] 33))
                have HX1 := Lib.hid (heap_alloc_new wr (.cells #[.string OB, .string PB, .int .i64 mq, .int .i64 md] 33))
                have hxb : b < wr.heap.size := hbx
                have hgx : g < wr.heap.size := Nat.lt_of_lt_of_le hg hbel.size
                have z0 := ((bel1 wr (.cells #[.string OB, .string PB, .int .i64 mq, .int .i64 md] 33)).cell (p := ⟨g, _, none⟩) hgx).trans b0
                clear hsz hlen hqd hBld hbel hbx b0
                go_wp2_with fail
                generalize wr.alloc (.cells #[.string OB, .string PB, .int .i64 mq, .int .i64 md] 33) = W1 at *
                have y0 := cell_of HX1.out 0 _ rfl
                clear a0 a1 a2 a3
                go_quiet (fail)
                have HBL2 := Lib.hid (isBuilder_below HBL1.out (below_drewN (Below.refl _ _) nq))
                have HBE2 := Lib.hid (below_drewN HBE1.out nq)
                have HX2 : Hid ((W1.drewN nq).heap[wr.heap.size]? = some (.cells #[.string OB, .string PB, .int .i64 mq, .int .i64 md] 33)) := Lib.hid HX1.out
                generalize (W1.drewN nq) = W2 at *
                generalize wr.heap.size = xb at *
                clear HBL1 HBE1 HX1 y0 z0
                have y0 := cell_of HX2.out 0 _ rfl
                go_wp2_with fail
                refine (writeString_k w.heap.size b _ _ _ HBL2.out HN1.out HBE2.out.size).mono ?_
                rintro e W3 ⟨rfl, hB3, hb3, hk3⟩
                rw [E1.out, strCells_mk, ← byteCells_app, ← HA1.out] at hB3
                have HBL3 : Hid (Lib.IsBuilder 60 5 w.heap.size b (Lib.byteCells acc1) W3) := Lib.hid (.inr hB3)
                have HBE3 := Lib.hid (HBE2.out.trans hb3)
                have HX3 := Lib.hid (hk3 xb _ HX2.out (by intro e; injection e; omega) (by intro c fz e; cases e))
                clear hB3 hb3 hk3 HBL2 HBE2 HX2 y0
                have HLW := Lib.hid (HL.out.below HBE3.out)
                have hc3 := cells3 HX3.out
                go_wp2_with fail
                go_region_held3 (fun w' => w'.cell? ⟨xb, 1, none⟩ = some (.string PB) ∧ w'.cell? ⟨xb, 2, none⟩ = some (.int .i64 mq) ∧ w'.cell? ⟨xb, 3, none⟩ = some (.int .i64 md))
                  (first | assumption | exact cells3 (keepx HX3.out (bdrew (Below.refl _ _))) | exact cells3 HX6.out | exact cells3 HX5.out | exact cells3 HX4.out)
                  (first
                    | (go_at_call_of 25 (Value.int .i64 mq); refine (HQ.out _ (HLW.out.below (bdrew (Below.refl _ _)))).mono ?_; rintro e w4 ⟨rfl, hb4⟩; have HX4 := Lib.hid (keepx (w := W3.drew) HX3.out hb4))
                    | (go_at_call_of 25 (Value.int .i64 md); refine (HD.out _ ((HLW.out.below (bdrew (Below.refl _ _))).below hb4)).mono ?_; rintro e w5 ⟨rfl, hb5⟩; have HX5 := Lib.hid (keepx HX4.out hb5); have HBL5 := Lib.hid (isBuilder_below (isBuilder_below (isBuilder_below HBL3.out (bdrew (Below.refl _ _))) hb4) hb5); have HBE5 := Lib.hid (((bdrew HBE3.out).trans (hb4.mono (bdrew HBE3.out).size)).trans (hb5.mono (((bdrew HBE3.out).trans (hb4.mono (bdrew HBE3.out).size))).size)))
                    | (go_at_call 24; refine (writeString_k w.heap.size b _ _ _ HBL5.out HN2.out HBE5.out.size).mono ?_; rintro e w6 ⟨rfl, hB6, hb6, hk6⟩; have HX6 := Lib.hid (hk6 xb _ HX5.out (by intro e; injection e; omega) (by intro c fz e; cases e))))
                rw [E2.out, strCells_mk, ← byteCells_app, ← HA2.out] at hB6
                have HBL6 : Hid (Lib.IsBuilder 60 5 w.heap.size b (Lib.byteCells acc2) w6) := Lib.hid (.inr hB6)
                have HBE6 := Lib.hid (HBE5.out.trans hb6)
                have y0 := cell_of HX6.out 0 _ rfl
                have u4 := (HBE6.out.cell (p := ⟨g, _, none⟩) hg).trans n0
                clear n0
                clear hB6 hb6 hk6 hb4 hb5 hc3
                go_wp2_with fail
                go_quiet (fail)
                have HBL7 := Lib.hid (isBuilder_below HBL6.out (below_drewN (Below.refl _ _) nq))
                have HBE7 := Lib.hid (below_drewN HBE6.out nq)
                go_wp2_with fail
                refine (writeString_k w.heap.size b _ _ _ HBL7.out HN3.out HBE7.out.size).mono ?_
                rintro e w8 ⟨rfl, hB8, hb8, hk8⟩
                have hsc : Lib.strCells (ByteArray.mk #[125, 10]) = Lib.byteCells Pq.cClose := rfl
                rw [hsc, ← byteCells_app, ← HA3.out] at hB8
                have HBL8 : Hid (Lib.IsBuilder 60 5 w.heap.size b (Lib.byteCells acc3) w8) := Lib.hid (.inr hB8)
                have HBE8 := Lib.hid (HBE7.out.trans hb8)
                clear hB8 hb8 hk8 hsc
                go_wp2
                go_roundw
                case rel => exact ⟨j + 1 + 1, acc3, by omega, by go_num, HBL8.out, HNX, HBE8.out⟩
                case measure => simp [intOf]; omega

      · obtain rfl : k = l.length := by omega
        have hE : Hid (acc = TT) := Lib.hid (by have := HACC.out.1; rw [List.drop_length] at this; simpa [Pq.text] using this)
        rw [hE.out] at hBld
        clear hbx
        go_wp2_with fail
        refine (Tryz.Builder_String_any w.heap.size b _ _ hBld hbel.size).mono ?_
        rintro e w2 ⟨rfl, hb2⟩
        have HF := Lib.hid (hbel.trans hb2)
        go_wp2
        go_ret2
        rw [HP.out]
        exact ⟨rfl, HF.out⟩

  · rw [show Od.valid l = false by simpa using hv] at HV
    have HP := Lib.hid (show Pq.print l = ([], 1) by unfold Pq.print; rw [if_neg hv])
    clear hv
    go_enter Tryz.func8, Tryz.ntmps8
    go_wp2_with fail
    refine (HV.out _ HR.out).mono ?_
    rintro e w1 ⟨rfl, hb1⟩
    go_wp2
    go_ret2
    rw [HP.out]
    exact ⟨rfl, hb1⟩
end Go.Proofs.YteldekkodhfkkaaGreatDoor.PqW
