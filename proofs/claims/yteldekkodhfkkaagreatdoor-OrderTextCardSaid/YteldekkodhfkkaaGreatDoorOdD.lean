/- Walk: the program's demand. Conditions: the list lies in memory; its texts are short. -/
import Derived.Test.YteldekkodhfkkaaGreatDoorOdKy
import Derived.Test.YteldekkodhfkkaaGreatDoorOdS2
import Derived.Test.YteldekkodhfkkaaGreatDoorMem2
import Derived.OwnWalk
namespace Go.Proofs.YteldekkodhfkkaaGreatDoor.OdW
open Go Go.RowKit Go.Proofs.YteldekkodhfkkaaGreatDoor.Mem
open Go.Maps (Keyed)

def pq (x : Od.It) : List UInt8 × Int := (x.p, x.q)
def demand (l : List Od.It) : List Nd := if Od.valid l = true then Od.nf Od.sl (l.map pq) else []
theorem sum_bound {α : Type} [DecidableEq α] : ∀ (l : List (α × Int)), (∀ x ∈ l, 1 ≤ x.2 ∧ x.2 ≤ 1000) → ∀ a, 0 ≤ Od.sumK l a ∧ Od.sumK l a ≤ l.length * 1000
  | [], _, a => by rw [Od.sumK_nil]; simp
  | x :: r, h, a => by
    have h1 := sum_bound r (fun y hy => h y (by simp [hy])) a
    have h2 := h x (by simp)
    rw [Od.sumK_cons, List.length_cons]
    split <;> omega
theorem owns_size {H : Type} {P : Program} {k : TypeId} {R : Value → Option (DataW H × List MemPlace)} {w : World} {b n : Nat} {D : DataW H} (h : w.ownsMap P k R b n D) : Maps.size D ≤ n := by
  obtain ⟨es, clock, _, _, hs, rfl⟩ := h
  rw [Maps.size_eq, length_sorted, List.length_map]
  simpa using hs
theorem row_block {w : World} {base : Nat} {e : TypeId} {size : Nat} {v : Value} {n : Nat} {xs : List Value} (h : w.ownsRow base e size v n xs) {b : Nat} (hb : b < base) : some b ≠ v.ownBlock := fun e1 => by
  have := own_block h b e1.symm
  omega
theorem law_text : Keyed Tryz.prog 9 := Maps.string_keyed Tryz.underlying9
theorem zero_int (w : World) : (zeroValue 3).run Tryz.prog w = .ok (.int .i64 0) w := by kernel_rfl
theorem info_need : (Tryz.prog.info? 38).map (fun i => (i.zero, i.size, i.bytes)) = some (some (.agg #[.string ByteArray.empty, .int .i64 0]), 2, 24) := by kernel_rfl
theorem cells_newl2 (w : World) (a b : Value) (T : TypeId) : ∀ (j : Nat) (u : Value), [a, b][j]? = some u → (w.alloc (.cells #[a, b] T)).cell? ((⟨w.heap.size, 0, none⟩ : Addr).add j) = some u := by
  intro j u hj
  match j, hj with
  | 0, hj => simp at hj; subst hj; simp [Addr.add]
  | 1, hj => simp at hj; subst hj; simp [Addr.add]
  | j + 2, hj => simp at hj
theorem short_max {n : Nat} (h : n ≤ 1000) : n ≤ maxLen := by unfold maxLen; omega

set_option maxRecDepth 100000 in
set_option maxHeartbeats 2000000 in
theorem demand_any (l : List Od.It) (A : Option Addr) (c : Nat) (w : World) (hr : Row w A (l.flatMap itCells)) (hl : l.length ≤ 1000000) (hsh : ∀ m ∈ l, Od.Short m) :
    Calls Tryz.prog 11 #[.slice A l.length c] w fun e w' => ∃ (B : Option Addr) (d : Nat), e = .returned (.slice B (demand l).length d) ∧ Row w' B ((demand l).flatMap ndCells) ∧ Below w.heap.size w w' := by
  have HV := Lib.hid (fun W h => valid_any l A c W h hl hsh)
  have HR := Lib.hid hr
  have HSH := Lib.hid hsh
  have hmm := @run_makeMap Tryz.prog
  clear hr hsh
  obtain ⟨i0, ia, ib, ic, id⟩ := info_parts info_need
  by_cases hv : Od.valid l = true
  · rw [hv] at HV
    have HD := Lib.hid (show demand l = Od.nf Od.sl (l.map pq) by unfold demand; rw [if_pos hv])
    have hl100 := Od.valid_len hv
    have HOK := Lib.hid (fun x (hx : x ∈ l) => Od.ok_parts (Od.valid_ok hv hx))
    clear hv
    go_enter Tryz.func11, Tryz.ntmps11
    go_wp2_with fail
    refine (HV.out _ HR.out).mono ?_
    rintro e w1 ⟨rfl, hb1⟩
    go_wp2
    have hs1 := hb1.size
    generalize hB : w1.heap.size = b at *
    go_loopw [15] (fun t wr => ∃ (k : Nat) (D : DataW Unit), k ≤ l.length ∧ t = .int .i64 k ∧ wr.ownsMap Tryz.prog 9 (plainElem Tryz.prog 3) b k D ∧ Hid (MapIs sLit WfS D ((l.take k).map pq)) ∧ Below w.heap.size w wr) (fun t _ => l.length - (intOf t).toNat)
    case atStart =>
      refine ⟨0, .map [], Nat.zero_le _, rfl, ?_, Lib.hid (by simpa using MapIs.start), ?_⟩
      · rw [← hB]; exact World.ownsMap_made _ _ _ _
      · exact hb1.alloc (by omega) _
    case round =>
      obtain ⟨k, D, hk, rfl, hown, HM, hbel⟩ := hrel
      by_cases hlt : k < l.length
      · obtain ⟨g, off, rfl, hg, ca⟩ := row_get it_len (by decide) HR.out (by omega)
        have a0 := (hbel.cell (p := ⟨g, _, none⟩) hg).trans (ca k hlt 0 (by decide))
        have a1 := (hbel.cell (p := ⟨g, _, none⟩) hg).trans (ca k hlt 1 (by decide))
        have a2 := (hbel.cell (p := ⟨g, _, none⟩) hg).trans (ca k hlt 2 (by decide))
        have a3 := (hbel.cell (p := ⟨g, _, none⟩) hg).trans (ca k hlt 3 (by decide))
        have hwf : WfS l[k].p := short_max (HSH.out l[k] (List.getElem_mem hlt)).2
        have hts := Lib.hid (show (l.take (k + 1)).map pq = (l.take k).map pq ++ [(l[k].p, l[k].q)] by rw [take_snoc' l k hlt, List.map_append]; rfl)
        have hsb := sum_bound ((l.take k).map pq) (by
          intro x hx
          obtain ⟨y, hy, rfl⟩ := List.mem_map.1 hx
          have := HOK.out y (List.mem_of_mem_take hy)
          exact ⟨this.1, this.2.1⟩) l[k].p
        rw [List.length_map, List.length_take] at hsb
        have hq := HOK.out l[k] (List.getElem_mem hlt)
        have hkey := keys_text.made l[k].p hwf
        have hat0 := HM.out.2.2 l[k].p hwf
        have hstep := Lib.hid (HM.out.step keys_text hwf l[k].q)
        rw [← hts.out] at hstep
        clear ca hts HM
        generalize l[k] = m at *
        simp only [itCells, List.getElem?_cons_zero, List.getElem?_cons_succ, Nat.add_zero] at a0 a1 a2 a3
        have hw9 : wrap64 (Od.sumK ((l.take k).map pq) m.p + m.q) = Od.sumK ((l.take k).map pq) m.p + m.q := by unfold wrap64; omega
        generalize Od.sumK ((l.take k).map pq) m.p = s at *
        have H9 := Lib.hid hw9
        have HSB := Lib.hid hsb
        have HQ := Lib.hid hq
        have HAT := Lib.hid hat0
        clear hw9 hsb hq hat0
        unfold sV sLit at hkey
        unfold sLit at hstep HAT
        generalize (ByteArray.mk m.p.toArray) = PB at *
        generalize (ByteArray.mk m.o.toArray) = OB at *
        go_wp2_with (first
          | (at_lookup; refine wpList_lookup_own_int _ rfl _ _ 66 rfl 9 3 .i64 law_text Tryz.underlying66 Tryz.underlying3 (zero_int _) b k _ rfl (hown.alloc _) _ _ rfl hkey ?_; intro c0 hat hwc)
          | (at_mapUpdate; refine wpList_mapUpdate_own _ rfl _ _ _ 66 rfl 9 3 law_text Tryz.underlying66 _ b k _ rfl (hown.alloc _) (by unfold maxLen; omega) _ _ _ rfl rfl hkey _ [] (plainElem_int Tryz.underlying3 (wrap64_wf _)) ?_; intro w2 hown2 hgrow2)
          | go_in)
        have hc : c0 = s := by
          rw [HAT.out] at hat
          simpa using hat.symm
        rw [hc, H9.out] at hown2
        have hb2 : Below w.heap.size w w2 := (hbel.alloc hbel.size _).grown hgrow2 (by have := hbel.size; simp; omega) (fun j hj => by cases hj; exact hs1)
        clear hgrow2 hbel hown
        go_roundw
        case rel => exact ⟨k + 1, _, by omega, by go_num, hown2, hstep.out, hb2⟩
        case measure => simp [intOf]; omega
      · obtain rfl : k = l.length := by omega
        have hM := HM.out
        rw [List.take_length] at hM
        have HMM := Lib.hid hM
        clear hM HM
        go_wp2_with (first
          | (at_range; refine wpList_range_own _ rfl _ 66 rfl 9 3 law_text Tryz.underlying66 _ b l.length _ rfl hown ?_; intro w0 hrg0 hg0 hs0)
          | go_in)
        go_frame
        have hb3 := hbel.grown hg0 hbel.size (fun j hj => by cases hj)
        have hbw := hown.lt
        have hsz := owns_size hown
        have hs3 := hbel.size
        clear hown hg0 hbel
        generalize hR : wr.heap.size = r at *
        go_loopw [6] (fun v wq => ∃ (left : Lit → Bool) (cnt : Nat) (acc : List Nd), wq.ranges Tryz.prog 9 (plainElem Tryz.prog 3) b r l.length D left cnt ∧
            wq.ownsRow (r + 1) 38 2 v acc.length (acc.flatMap ndCells) ∧ Hid (Coll sLit WfS (l.map pq) left acc) ∧ acc.length + cnt ≤ l.length ∧ Below w.heap.size w wq ∧ r + 1 ≤ wq.heap.size) (fun _ wq => wq.rangeLeft b r)
        case atStart =>
          exact ⟨_, _, [], hrg0, World.ownsRow_nil _ _ _ _, Lib.hid (Coll.start HMM.out), by simpa using hsz, hb3, by omega⟩
        case round =>
          obtain ⟨left, cnt, acc, hrg, hrow, HC, hlen, hbq, hrq⟩ := hrel
          go_wp2_with (first
            | (at_next; refine wpList_next_ranges _ rfl _ rfl 9 law_text _ sV (Value.int .i64) (fun key kl h => by obtain ⟨x, _, h1, _⟩ := keys_text.inv h; exact ⟨x, h1⟩) (fun v y h => by obtain ⟨x, h1, _⟩ := plainElem_int_inv Tryz.underlying3 h; exact ⟨x, h1⟩) b r l.length _ _ _ rfl hrg ?_ ?_)
            | go_in)
          · intro hc0 hl0
            have HS := Lib.hid (sort_needs (r + 1) _ acc acc.length _ rfl hrow (by omega))
            clear hrg hrow
            go_wp2_with fail
            refine HS.out.mono ?_
            rintro e w3 ⟨rfl, hb4, l', A2, c2, rfl, hrow2, hp, hso⟩
            have hnf : l' = Od.nf Od.sl (l.map pq) := HC.out.nf Od.sl_tot (fun x hx => by
              obtain ⟨y, hy, rfl⟩ := List.mem_map.1 hx
              exact short_max (HSH.out y hy).2) hl0 hp hso
            have hle := hp.length_eq
            clear HS
            go_wp2
            go_ret
            rw [HD.out, ← hnf, hle]
            exact ⟨A2, c2, rfl, hrow2, hbq.trans (hb4.mono (by omega))⟩
          · intro x n kl y ps w2 cnt2 hkx hlx hy hat hrg2 hlt hg2 hz2 hen
            obtain ⟨x2, hwf, hx2, rfl⟩ := keys_text.inv hkx
            obtain rfl : x = x2 := by unfold sV at hx2; simpa using hx2
            obtain ⟨n2, hn2, hn3, hwn⟩ := plainElem_int_inv Tryz.underlying3 hy
            obtain rfl : n = n2 := by simpa using hn2
            obtain ⟨rfl, rfl⟩ : y = .lit (.int .i64 n) ∧ ps = [] := by simpa using hn3
            have hC2 := (HC.out.step keys_text HMM.out hwf hlx hat).2
            have HC2 := Lib.hid hC2
            have hm0 := Lib.hid hrg.left_eq
            have hrow2 := hrow.kept hg2 (Or.inr (fun e => row_block hrow (Nat.lt_succ_self r) e.symm))
            have hb2 := hbq.grown hg2 hbq.size (fun j hj => by cases hj; omega)
            have hfl := Lib.hid (flatMap_snoc ndCells acc (x, n))
            have hz3 := Lib.hid hz2
            have hrq2 : r + 1 ≤ w2.heap.size := by omega
            clear hrg hrow HC hC2 hkx hy hat hg2 hx2 hn2 hn3 hbq hz2 hrq
            unfold sV at hen ⊢
            simp only [ndCells] at hfl
            generalize (ByteArray.mk x.toArray) = XB at *
            go_wp2_with (at_builtin; refine wpList_append_own _ rfl _ _ 34 rfl (r + 1) 38 i0 _ 2 24 Tryz.underlying34 ia ib ic id rfl (by omega) _ _ _ rfl (hrow2.alloc _) ⟨w2.heap.size, 0, none⟩ 1 1 [.string XB, .int .i64 n] rfl rfl ?c1 ?c2 ?c3 ?c4 ?c5 ?_)
            case c1 => exact cells_newl2 w2 _ _ _
            case c2 => intro u hu; simp at hu; rcases hu with rfl | rfl <;> rfl
            case c3 => unfold maxLen; omega
            case c4 => omega
            case c5 => simp; omega
            · intro v' w4 hown4 hg4 _
              have hb4 : Below w.heap.size w w4 := below_append (hb2.alloc hb2.size _) (by have := hb2.size; simp; omega) (hrow2.alloc _) hg4 (by omega)
              have hrg4 := (hrg2.alloc (.cells #[.string XB, .int .i64 n] 38)).kept hg4 (row_block hrow2 (by omega)) (row_block hrow2 (by omega))
              have hz4 := hg4.size
              have HR4 := Lib.hid hrg4
              have HO4 : Hid (w4.ownsRow (r + 1) 38 2 v' (acc ++ [(x, n)]).length ((acc ++ [(x, n)]).flatMap ndCells)) := Lib.hid (by rw [hfl.out, List.length_append]; exact hown4)
              have hq4 : r + 1 ≤ w4.heap.size := by simp at hz4; omega
              have hm1 := Lib.hid hrg4.left_eq
              clear hrg4 hrg2 hown4 hg4 hrow2 hb2 hz4 hfl hen
              go_wp2
              go_roundw
              case rel => exact ⟨_, _, _, HR4.out, HO4.out, HC2, by simp; omega, hb4, hq4⟩
              case measure => rw [hm1.out, hm0.out]; exact hlt
  · rw [show Od.valid l = false by simpa using hv] at HV
    have HD := Lib.hid (show demand l = [] by unfold demand; rw [if_neg hv])
    clear hv
    go_enter Tryz.func11, Tryz.ntmps11
    go_wp2_with fail
    refine (HV.out _ HR.out).mono ?_
    rintro e w1 ⟨rfl, hb1⟩
    go_wp2
    go_ret
    rw [HD.out]
    exact ⟨none, 0, rfl, Row.nil _ _, hb1⟩
end Go.Proofs.YteldekkodhfkkaaGreatDoor.OdW
