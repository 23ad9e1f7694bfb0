/- Walk: the key of an item. Conditions: none. -/
import Derived.Test.YteldekkodhfkkaaGreatDoorOdD
import Derived.Deep.RegionLaw
import Derived.Deep.RegionHeld3
namespace Go.Proofs.YteldekkodhfkkaaGreatDoor.OdW
open Go Go.RowKit Go.Proofs.YteldekkodhfkkaaGreatDoor.Mem

set_option maxRecDepth 100000 in
theorem keyOf_any (x : Od.It) (w : World) : Calls Tryz.prog 53 #[.agg #[.string ⟨x.o.toArray⟩, .string ⟨x.p.toArray⟩, .int .i64 x.q, .int .i64 x.d]] w fun e w' => e = .returned (.agg #[.int .i64 x.d, .string ⟨x.o.toArray⟩, .string ⟨x.p.toArray⟩]) ∧ w.grownBy w' none := by
  generalize (ByteArray.mk x.o.toArray) = OB at *
  generalize (ByteArray.mk x.p.toArray) = PB at *
  go_enter Tryz.func53, Tryz.ntmps53
  go_wp2
  refine bodyPost_ret (v := .agg #[.int .i64 x.d, .string OB, .string PB]) (by simp [results, Tryz.results53, go_sem]) rfl ⟨rfl, ?_⟩
  exact (World.grownBy_alloc _ _ _).trans (World.grownBy_alloc _ _ _)

def kq (x : Od.It) : Od.Ky × Int := (key x, x.q)
def toIt (x : Od.Ky × Int) : Od.It := ⟨x.1.o, x.1.p, x.2, x.1.d⟩
def sums (l : List Od.It) : List (Od.Ky × Int) := Od.nf Od.kl (l.map kq)
def normal (l : List Od.It) : List Od.It × Int := if Od.valid l = true then (if (sums l).all (fun x => decide (x.2 ≤ 1000)) = true then ((sums l).map toIt, 0) else ([], 2)) else ([], 1)
theorem up_nodup {α : Type} {lt : α → α → Bool} (T : Od.Tot lt) {m : List (α × Int)} (h : Od.Up lt m) : (m.map Prod.fst).Nodup := by
  rw [List.nodup_iff_pairwise_ne, List.pairwise_map]
  refine List.Pairwise.imp ?_ h
  intro x y hxy e
  rw [e, T.irr] at hxy
  cases hxy
theorem nf_entry {α : Type} [DecidableEq α] {lt : α → α → Bool} (T : Od.Tot lt) {l : List (α × Int)} {a : α} (hk : Od.hasK l a) : (a, Od.sumK l a) ∈ Od.nf lt l := by
  obtain ⟨y, hy, rfl⟩ := (Od.nf_has T l a).2 hk
  have h1 := sum_once (up_nodup T (Od.nf_up T l)) (a := y.1) (n := y.2) hy
  rw [Od.nf_sum T] at h1
  rw [h1]
  exact hy
theorem sums_big {l : List Od.It} {a : Od.Ky} (hk : Od.hasK (l.map kq) a) (hn : 1000 < Od.sumK (l.map kq) a) : ((sums l).all fun x => decide (x.2 ≤ 1000)) = false := by
  rw [Bool.eq_false_iff]
  intro h
  rw [List.all_eq_true] at h
  have := h _ (nf_entry Od.kl_tot hk)
  simp at this
  omega
theorem toIt_kq (x : Od.It) : toIt (kq x) = x := rfl
theorem kq_toIt (x : Od.Ky × Int) : kq (toIt x) = x := rfl
theorem map_kq (l : List (Od.Ky × Int)) : (l.map toIt).map kq = l := by rw [List.map_map]; exact List.map_id _
theorem map_toIt (l : List Od.It) : (l.map kq).map toIt = l := by rw [List.map_map]; exact List.map_id _
theorem wrapEq (x : Int) : IntKind.i64.wrap x = wrap64 x := by
  rw [IntKind.wrap_i64]
  unfold wrap64
  omega
theorem law_keyed : Maps.Keyed Tryz.prog 92 := Maps.Keyed.of_law law_key
theorem info_item : (Tryz.prog.info? 33).map (fun i => (i.zero, i.size, i.bytes)) = some (some (.agg #[.string ByteArray.empty, .string ByteArray.empty, .int .i64 0, .int .i64 0]), 4, 48) := by kernel_rfl
theorem wf_key (x : Od.It) (hs : Od.Short x) (hd : 0 ≤ x.d ∧ x.d ≤ 1000000) : WfK (key x) := ⟨WalkArith.wf_i64 (by simp only [key]; omega), short_max hs.1, short_max hs.2⟩

set_option maxRecDepth 100000 in
set_option maxHeartbeats 2000000 in
theorem normal_any (l : List Od.It) (A : Option Addr) (c : Nat) (w : World) (hr : Row w A (l.flatMap itCells)) (hl : l.length ≤ 1000000) (hsh : ∀ m ∈ l, Od.Short m) :
    Calls Tryz.prog 32 #[.slice A l.length c] w fun e w' => ∃ (B : Option Addr) (d : Nat), e = .returned (.tuple #[.slice B (normal l).1.length d, .int .i64 (normal l).2]) ∧ Row w' B ((normal l).1.flatMap itCells) ∧ Below w.heap.size w w' := by
  have HV := Lib.hid (fun W h => valid_any l A c W h hl hsh)
  have HR := Lib.hid hr
  have HSH := Lib.hid hsh
  have hmm := @run_makeMap Tryz.prog
  clear hr hsh
  obtain ⟨i0, ia, ib, ic, id⟩ := info_parts info_item
  by_cases hv : Od.valid l = true
  · rw [hv] at HV
    have HD := Lib.hid (show normal l = if (sums l).all (fun x => decide (x.2 ≤ 1000)) = true then ((sums l).map toIt, 0) else ([], 2) by unfold normal; rw [if_pos hv])
    have hl100 := Od.valid_len hv
    have HOK := Lib.hid (fun x (hx : x ∈ l) => Od.ok_parts (Od.valid_ok hv hx))
    clear hv
    go_enter Tryz.func32, Tryz.ntmps32
    go_wp2_with fail
    refine (HV.out _ HR.out).mono ?_
    rintro e w1 ⟨rfl, hb1⟩
    go_wp2
    have hs1 := hb1.size
    generalize hB : w1.heap.size = b at *
    go_loopw [16] (fun t wr => ∃ (k : Nat) (D : DataW Unit), k ≤ l.length ∧ t = .int .i64 k ∧ wr.ownsMap Tryz.prog 92 (plainElem Tryz.prog 3) b k D ∧ Hid (MapIs kLit WfK D ((l.take k).map kq)) ∧ Below w.heap.size w wr) (fun t _ => l.length - (intOf t).toNat)
    case atStart =>
      refine ⟨0, .map [], Nat.zero_le _, rfl, ?_, Lib.hid (by simpa using MapIs.start), ?_⟩
      · rw [← hB]; exact World.ownsMap_made _ _ _ _
      · exact hb1.alloc (by omega) _
    case round =>
      obtain ⟨k, D, hk, rfl, hown, HM, hbel⟩ := hrel
      by_cases hlt : k < l.length
      · obtain ⟨g, off, rfl, hg, ca⟩ := row_get it_len (by decide) HR.out (by omega)
        have a0 := (hbel.cell (p := ⟨g, _, none⟩) hg).trans (ca k hlt 0 (by decide))
        have a1 := (hbel.cell (p := ⟨g, _, none⟩) hg).trans (ca k hlt 1 (by decide))
        have a2 := (hbel.cell (p := ⟨g, _, none⟩) hg).trans (ca k hlt 2 (by decide))
        have a3 := (hbel.cell (p := ⟨g, _, none⟩) hg).trans (ca k hlt 3 (by decide))
        have hq := HOK.out l[k] (List.getElem_mem hlt)
        have hwf : WfK (key l[k]) := wf_key _ (HSH.out l[k] (List.getElem_mem hlt)) ⟨hq.2.2.1, hq.2.2.2⟩
        have hts := Lib.hid (show (l.take (k + 1)).map kq = (l.take k).map kq ++ [(key l[k], l[k].q)] by rw [take_snoc' l k hlt, List.map_append]; rfl)
        have hsb := sum_bound ((l.take k).map kq) (by
          intro x hx
          obtain ⟨y, hy, rfl⟩ := List.mem_map.1 hx
          have := HOK.out y (List.mem_of_mem_take hy)
          exact ⟨this.1, this.2.1⟩) (key l[k])
        rw [List.length_map, List.length_take] at hsb
        have hkey := Lib.hid (keys_key.made (key l[k]) hwf)
        have hat0 := HM.out.2.2 (key l[k]) hwf
        have hstep := Lib.hid (HM.out.step keys_key hwf l[k].q)
        have HK := Lib.hid (fun W => keyOf_any l[k] W)
        rw [← hts.out] at hstep
        clear ca hts HM hwf
        generalize l[k] = m at *
        simp only [itCells, List.getElem?_cons_zero, List.getElem?_cons_succ, Nat.add_zero] at a0 a1 a2 a3
        have hw9 : wrap64 (Od.sumK ((l.take k).map kq) (key m) + m.q) = Od.sumK ((l.take k).map kq) (key m) + m.q := by unfold wrap64; omega
        generalize Od.sumK ((l.take k).map kq) (key m) = s at *
        have H9 := Lib.hid hw9
        have HSB := Lib.hid hsb
        have HQ := Lib.hid hq
        have HAT := Lib.hid hat0
        clear hw9 hsb hq hat0
        generalize kLit (key m) = kl at *
        unfold kV at hkey
        simp only [key] at hkey
        generalize (ByteArray.mk m.p.toArray) = PB at *
        generalize (ByteArray.mk m.o.toArray) = OB at *
        generalize m.q = mq at *
        generalize m.d = md at *
        go_wp2_with fail
        go_region_law (first
          | (go_simp; go_at_call 53; refine (HK.out _).mono ?_; rintro e w2 ⟨rfl, hg2⟩
             have c2 := hg2.cell (a := ⟨wr.heap.size, 2, none⟩) (v := .int .i64 mq) (by simp) (by simp)
             obtain ⟨cc, v0, st, w3, hat, hwc, hl1, he1, hl2, hg3, hs3, hput⟩ := map_add ((hown.alloc _).drew.kept hg2 (by simp)) law_key Tryz.underlying90 Tryz.underlying3 zero_int (by unfold maxLen; omega) hkey.out
             obtain ⟨w4, hst, hown4, hg4, hs4⟩ := hput (IntKind.i64.wrap (cc + mq)) (by rw [wrapEq]; exact wrap64_wf _)
             unfold goInt at hst
             have c3 := hg3.cell (a := ⟨wr.heap.size, 2, none⟩) c2 (by have := hown.lt; simp; omega)
             clear hput))
        all_goals (
          have hc : cc = s := by
            rw [HAT.out] at hat
            simpa using hat.symm
          have hown5 : w4.ownsMap Tryz.prog 92 (plainElem Tryz.prog 3) b (k + 1) (D.put kl (.lit (.int .i64 (s + mq)))) := by
            rw [wrapEq, hc, H9.out] at hown4
            exact hown4
          have hb2 : Below w.heap.size w w2 := (below_drew (hbel.alloc hbel.size (.cells #[.string OB, .string PB, .int .i64 mq, .int .i64 md] 33))).grown hg2 (by have := hbel.size; simp; omega) (fun j hj => by cases hj)
          have hb4 : Below w.heap.size w w4 := hb2.grown hg4 hb2.size (fun j hj => by cases hj; exact hs1)
          clear hc hat hwc hl1 he1 hl2 hg3 hs3 hst hown4 hg4 hs4 c2 c3 hown hbel hg2 hb2 HK
          go_wp2
          go_roundw
          case rel => exact ⟨k + 1, _, by omega, by go_num, hown5, hstep.out, hb4⟩
          case measure => simp [intOf]; omega)
      · obtain rfl : k = l.length := by omega
        have hM := HM.out
        rw [List.take_length] at hM
        have HMM := Lib.hid hM
        clear hM HM
        go_wp2_with (first
          | (at_range; refine wpList_range_own _ rfl _ 90 rfl 92 3 law_keyed Tryz.underlying90 _ b l.length _ rfl hown ?_; intro w0 hrg0 hg0 hs0)
          | go_in)
        go_frame
        have hb3 := hbel.grown hg0 hbel.size (fun j hj => by cases hj)
        have hbw := hown.lt
        have hsz := owns_size hown
        have hs3 := hbel.size
        clear hown hg0 hbel
        generalize hR : wr.heap.size = r at *
        go_loopw [7] (fun v wq => ∃ (left : Lit → Bool) (cnt : Nat) (acc : List (Od.Ky × Int)), wq.ranges Tryz.prog 92 (plainElem Tryz.prog 3) b r l.length D left cnt ∧
            wq.ownsRow (r + 1) 33 4 v acc.length ((acc.map toIt).flatMap itCells) ∧ Hid (Coll kLit WfK (l.map kq) left acc) ∧ Hid (∀ x ∈ acc, x.2 ≤ 1000) ∧ acc.length + cnt ≤ l.length ∧ Below w.heap.size w wq ∧ r + 1 ≤ wq.heap.size) (fun _ wq => wq.rangeLeft b r)
        case atStart =>
          exact ⟨_, _, [], hrg0, World.ownsRow_nil _ _ _ _, Lib.hid (Coll.start HMM.out), Lib.hid (by simp), by simpa using hsz, hb3, by omega⟩
        case round =>
          obtain ⟨left, cnt, acc, hrg, hrow, HC, HLE, hlen, hbq, hrq⟩ := hrel
          go_wp2_with (first
            | (at_next; refine wpList_next_ranges _ rfl _ rfl 92 law_keyed _ kV (Value.int .i64) (fun key kl h => by obtain ⟨x, _, h1, _⟩ := keys_key.inv h; exact ⟨x, h1⟩) (fun v y h => by obtain ⟨x, h1, _⟩ := plainElem_int_inv Tryz.underlying3 h; exact ⟨x, h1⟩) b r l.length _ _ _ rfl hrg ?_ ?_)
            | go_in)
          · intro hc0 hl0
            have HS := Lib.hid (sort_items (r + 1) _ (acc.map toIt) acc.length _ (by simp) hrow (by omega))
            clear hrg hrow
            go_wp2_with fail
            refine HS.out.mono ?_
            rintro e w3 ⟨rfl, hb4, l', A2, c2, rfl, hrow2, hp, hso⟩
            have hpm : (l'.map kq).Perm acc := by
              have := hp.map kq
              rwa [map_kq] at this
            have hnf : l'.map kq = sums l := HC.out.nf Od.kl_tot (fun x hx => by
              obtain ⟨y, hy, rfl⟩ := List.mem_map.1 hx
              have hq := HOK.out y hy
              exact wf_key y (HSH.out y hy) ⟨hq.2.2.1, hq.2.2.2⟩) hl0 hpm (by rw [List.pairwise_map]; exact hso)
            have hall : ((sums l).all fun x => decide (x.2 ≤ 1000)) = true := by
              rw [List.all_eq_true]
              intro x hx
              rw [← hnf] at hx
              simpa using HLE.out x (hpm.mem_iff.1 hx)
            have hE : (sums l).map toIt = l' := by rw [← hnf, map_toIt]
            have hle : acc.length = l'.length := by rw [← hpm.length_eq, List.length_map]
            clear HS
            go_wp2
            go_ret2
            rw [HD.out, if_pos hall, hE]
            exact ⟨A2, c2, rfl, hrow2, hbq.trans (hb4.mono (by omega))⟩
          · intro x n kl y ps w2 cnt2 hkx hlx hy hat hrg2 hlt hg2 hz2 hen
            obtain ⟨x2, hwf, hx2, rfl⟩ := keys_key.inv hkx
            obtain rfl : x = x2 := by
              unfold kV at hx2
              obtain ⟨xd, xo, xp⟩ := x
              obtain ⟨yd, yo, yp⟩ := x2
              simpa using hx2
            obtain ⟨n2, hn2, hn3, hwn⟩ := plainElem_int_inv Tryz.underlying3 hy
            obtain rfl : n = n2 := by simpa using hn2
            obtain ⟨rfl, rfl⟩ : y = .lit (.int .i64 n) ∧ ps = [] := by simpa using hn3
            have hC1 := Lib.hid (HC.out.step keys_key HMM.out hwf hlx hat).1
            have hC2 := (HC.out.step keys_key HMM.out hwf hlx hat).2
            have HC2 := Lib.hid hC2
            have hm0 := Lib.hid hrg.left_eq
            have hrow2 := hrow.kept hg2 (Or.inr (fun e => row_block hrow (Nat.lt_succ_self r) e.symm))
            have hb2 := hbq.grown hg2 hbq.size (fun j hj => by cases hj; omega)
            have hfl := Lib.hid (show ((acc ++ [(x, n)]).map toIt).flatMap itCells = (acc.map toIt).flatMap itCells ++ itCells (toIt (x, n)) by rw [List.map_append]; exact flatMap_snoc itCells (acc.map toIt) (toIt (x, n)))
            have hrq2 : r + 1 ≤ w2.heap.size := by omega
            have hk9 : Hid (Od.hasK (l.map kq) x) := Lib.hid (HC2.out.each (x, n) (by simp)).2.2.1
            clear hrg hrow HC hC2 hkx hy hat hg2 hx2 hn2 hn3 hbq hz2 hrq
            obtain ⟨xd, xo, xp⟩ := x
            unfold kV at hen ⊢
            simp only [itCells, toIt] at hfl
            simp only at hen ⊢
            by_cases hbig : n ≤ 1000
            · have d1 : decide ((1000 : Int) < n) = false := by simpa using hbig
              have HLE2 : Hid (∀ y ∈ acc ++ [((⟨xd, xo, xp⟩ : Od.Ky), n)], y.2 ≤ 1000) := Lib.hid (by
                intro y hy
                rcases List.mem_append.1 hy with h1 | h1
                · exact HLE.out y h1
                · simp only [List.mem_cons, List.not_mem_nil, or_false] at h1
                  subst h1
                  exact hbig)
              clear hbig HLE hk9 hC1
              generalize (ByteArray.mk xo.toArray) = OB at *
              generalize (ByteArray.mk xp.toArray) = PB at *
              go_wp2_with (at_builtin; refine wpList_append_own _ rfl _ _ 22 rfl (r + 1) 33 i0 _ 4 48 Tryz.underlying22 ia ib ic id rfl (by omega) _ _ _ rfl ((hrow2.alloc _).alloc _) ⟨w2.heap.size + 1, 0, none⟩ 1 1 [.string OB, .string PB, .int .i64 n, .int .i64 xd] rfl rfl ?c1 ?c2 ?c3 ?c4 ?c5 ?_)
              case c1 =>
                have := cells_new4 (w2.alloc (.cells #[.int .i64 xd, .string OB, .string PB] 92)) (.string OB) (.string PB) (.int .i64 n) (.int .i64 xd) 33
                simpa using this
              case c2 => intro u hu; simp at hu; rcases hu with rfl | rfl | rfl | rfl <;> rfl
              case c3 => unfold maxLen; omega
              case c4 => omega
              case c5 => simp; omega
              · intro v' w4 hown4 hg4 _
                have hb4 : Below w.heap.size w w4 := below_append ((hb2.alloc hb2.size _).alloc (by have := hb2.size; simp; omega) _) (by have := hb2.size; simp; omega) ((hrow2.alloc _).alloc _) hg4 (by omega)
                have hrg4 := ((hrg2.alloc (.cells #[.int .i64 xd, .string OB, .string PB] 92)).alloc (.cells #[.string OB, .string PB, .int .i64 n, .int .i64 xd] 33)).kept hg4 (row_block hrow2 (by omega)) (row_block hrow2 (by omega))
                have hz4 := hg4.size
                have HR4 := Lib.hid hrg4
                have HO4 : Hid (w4.ownsRow (r + 1) 33 4 v' (acc ++ [((⟨xd, xo, xp⟩ : Od.Ky), n)]).length (((acc ++ [((⟨xd, xo, xp⟩ : Od.Ky), n)]).map toIt).flatMap itCells)) := Lib.hid (by rw [hfl.out, List.length_append]; exact hown4)
                have hq4 : r + 1 ≤ w4.heap.size := by simp at hz4; omega
                have hm1 := Lib.hid hrg4.left_eq
                clear hrg4 hrg2 hown4 hg4 hrow2 hb2 hz4 hfl hen
                go_wp2
                go_roundw
                case rel => exact ⟨_, _, _, HR4.out, HO4.out, HC2, HLE2, by simp; omega, hb4, hq4⟩
                case measure => rw [hm1.out, hm0.out]; exact hlt
            · have d1 : decide ((1000 : Int) < n) = true := by simp; omega
              have hbad := Lib.hid (sums_big hk9.out (by have := hC1.out; omega))
              clear hbig HLE hk9 hC1
              generalize (ByteArray.mk xo.toArray) = OB at *
              generalize (ByteArray.mk xp.toArray) = PB at *
              go_wp2
              go_ret2
              rw [HD.out, if_neg (by rw [hbad.out]; simp)]
              exact ⟨none, 0, rfl, Row.nil _ _, hb2.alloc hb2.size _⟩
  · rw [show Od.valid l = false by simpa using hv] at HV
    have HD := Lib.hid (show normal l = ([], 1) by unfold normal; rw [if_neg hv])
    clear hv
    go_enter Tryz.func32, Tryz.ntmps32
    go_wp2_with fail
    refine (HV.out _ HR.out).mono ?_
    rintro e w1 ⟨rfl, hb1⟩
    go_wp2
    go_ret2
    rw [HD.out]
    exact ⟨none, 0, rfl, Row.nil _ _, hb1⟩
end Go.Proofs.YteldekkodhfkkaaGreatDoor.OdW
