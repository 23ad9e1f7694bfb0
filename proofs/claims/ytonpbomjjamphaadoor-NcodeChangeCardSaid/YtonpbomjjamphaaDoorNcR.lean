/- Walks: programs moved and joined, by the reference; a short program. Conditions: the programs lie in memory. -/
import Derived.Test.YtonpbomjjamphaaDoorNcL3
import Derived.Test.YtonpbomjjamphaaDoorNcL1
import Derived.Test.YtonpbomjjamphaaDoorNcW5
namespace Go.Proofs.YtonpbomjjamphaaDoor.NcW
open Go Go.RowKit Go.Proofs.YtonpbomjjamphaaDoor.Mem

theorem few_any (l : List Nc.Mv) (A : Option Addr) (c : Nat) (w : World) : Calls Tryd.prog 18 #[.slice A l.length c] w (Returns w (.bool (Nc.few l))) := by
  have e : Nc.few l = (decide ((l.length : Int) ≤ 60) || (decide ((2000 : Int) ≤ (l.length : Int)) && decide ((l.length : Int) ≤ 2002))) := by
    unfold Nc.few
    rw [Bool.eq_iff_iff]
    simp
    omega
  rw [e]
  clear e
  rcases (show (l.length : Int) ≤ 60 ∨ (60 < (l.length : Int) ∧ (l.length : Int) < 2000) ∨ (2000 ≤ (l.length : Int) ∧ (l.length : Int) ≤ 2002) ∨ 2002 < (l.length : Int) by omega) with h | h | h | h
  all_goals
    go_enter Tryd.func18, Tryd.ntmps18
    go_wp2
    go_ret
    refine ⟨ret_bool ?_, rfl⟩
    rw [Bool.eq_iff_iff]
    simp
    omega

/-- Whether the reference lets a move be moved. -/
def rok (u v : Int) (m : Nc.Mv) : Bool := !Nc.moving m.k || (Nc.within u v 4000 && Nc.within (wrap64 (m.x + u)) (wrap64 (m.y + v)) 2000)
theorem rok_iff {u v : Int} (hu : I64 u) (hv : I64 v) {m : Nc.Mv} (hm : Nc.ok m = true) : rok u v m = Nc.ok (wsh u v m) := by
  cases hk : Nc.moving m.k
  · rw [wsh_id hk, hm]; simp [rok, hk]
  · rw [Bool.eq_iff_iff]
    constructor
    · intro h
      simp only [rok, hk, Bool.not_true, Bool.false_or, Bool.and_eq_true] at h
      unfold wsh Nc.ok
      rw [if_pos hk]
      simp only [hk, if_true]
      exact h.2
    · intro h
      obtain ⟨e, h1, h2⟩ := wsh_ok hu hv hm h hk
      have hb := Nc.ok_bound h
      unfold wsh at hb
      rw [if_pos hk] at hb
      simp only at hb
      simp only [rok, hk, Bool.not_true, Bool.false_or, Bool.and_eq_true]
      exact ⟨Nc.within_iff.2 ⟨h1.1, h1.2, h2.1, h2.2⟩, Nc.within_iff.2 ⟨hb.1, hb.2.1, hb.2.2.1, hb.2.2.2⟩⟩
theorem rok_all {u v : Int} (hu : I64 u) (hv : I64 v) {l : List Nc.Mv} (hl : Nc.valid l = true) (h : ∀ m ∈ l, rok u v m = true) : Nc.valid (l.map (wsh u v)) = true := by
  refine Nc.valid_mk (by rw [List.length_map]; exact Nc.valid_len hl) fun m hm => ?_
  obtain ⟨a, ha, rfl⟩ := List.mem_map.1 hm
  rw [← rok_iff hu hv (Nc.valid_ok hl ha)]
  exact h a ha
theorem rok_no {u v : Int} (hu : I64 u) (hv : I64 v) {l : List Nc.Mv} (hl : Nc.valid l = true) {m : Nc.Mv} (hm : m ∈ l) (h : rok u v m = false) : Nc.valid (l.map (wsh u v)) = false := by
  rw [Bool.eq_false_iff]
  intro h2
  have := Nc.valid_ok h2 (List.mem_map_of_mem hm)
  rw [← rok_iff hu hv (Nc.valid_ok hl hm), h] at this
  cases this

theorem own_set' {w : World} {base : Nat} {e : TypeId} {size n : Nat} {v : Value} {xs : List Value} (h : w.ownsRow base e size v n xs) (b j : Nat) (x : Value) (hb : v.ownBlock ≠ some b) : (w.setCell ⟨b, j, none⟩ x).ownsRow base e size v n xs :=
  h.kept (row := some b) ⟨rfl, rfl, rfl, by simp [World.setCell], fun k _ hk => Below.heap_setCell _ _ _ _ (fun e => hk (by simp [e]))⟩ (Or.inr hb)
theorem own_ne {w : World} {base : Nat} {e : TypeId} {size n : Nat} {v : Value} {xs : List Value} (h : w.ownsRow base e size v n xs) : v.ownBlock ≠ some w.heap.size := fun hk => by
  have := (h.lt _ hk).2; omega
theorem wsh_take (u v : Int) (l : List Nc.Mv) (k : Nat) (h : k < l.length) : ((l.take (k + 1)).map (wsh u v)).flatMap mvCells = ((l.take k).map (wsh u v)).flatMap mvCells ++ mvCells (wsh u v l[k]) := by
  rw [take_snoc' l k h, List.map_append, List.flatMap_append]; simp
/-- What a shift comes to: the moves, the error. -/
def shiftR (l : List Nc.Mv) (u v : Int) : List Nc.Mv × Int := if Nc.valid l then (if Nc.valid (l.map (wsh u v)) then (l.map (wsh u v), 0) else ([], 2)) else ([], 1)
/-- What a join comes to. -/
def joinR (a b : List Nc.Mv) : List Nc.Mv × Int := if Nc.valid a && Nc.valid b then (if (Nc.till a).length + b.length ≤ 2000 then (Nc.join a b, 0) else ([], 9)) else ([], 1)
def Gives (R : List Nc.Mv × Int) (w : World) (e : Ending) (w' : World) : Prop :=
  (∃ A c, R.1.length ≤ c ∧ e = .returned (.tuple #[.slice A R.1.length c, .int .i64 R.2]) ∧ Row w' A (R.1.flatMap mvCells)) ∧ Below w.heap.size w w'
theorem gives_nil {w w' : World} {n : Int} {e : Ending} (he : e = .returned (.tuple #[.slice none 0 0, .int .i64 n])) (hb : Below w.heap.size w w') : Gives ([], n) w e w' :=
  ⟨⟨none, 0, Nat.le_refl _, he, Row.nil _ _⟩, hb⟩

set_option maxRecDepth 100000 in
set_option maxHeartbeats 1000000 in
theorem rshift_any (l : List Nc.Mv) (A : Option Addr) (c : Nat) (u v : Int) (w : World) (hr : Row w A (l.flatMap mvCells)) (hl : l.length ≤ 1000000) (hu : I64 u) (hv : I64 v) :
    Calls Tryd.prog 19 #[.slice A l.length c, .agg #[.int .i64 u, .int .i64 v]] w (Gives (shiftR l u v) w) := by
  have hr0 := hr.below ((Below.refl w.heap.size w).alloc (Nat.le_refl _) (.cells #[.int .i64 u, .int .i64 v] 24))
  have HR := Lib.hid hr0
  have HBX := Lib.hid (heap_alloc_new w (.cells #[.int .i64 u, .int .i64 v] 24))
  have HB0 := Lib.hid ((Below.refl w.heap.size w).alloc (Nat.le_refl _) (.cells #[.int .i64 u, .int .i64 v] 24))
  have HV := Lib.hid (fun W h => rvalid_any l A c W h hl)
  clear hr hr0
  cases hva : Nc.valid l
  · rw [hva] at HV
    have e : shiftR l u v = ([], 1) := by unfold shiftR; rw [hva]; rfl
    rw [e]
    clear e hva
    go_enter Tryd.func19, Tryd.ntmps19
    go_wp2_with fail
    refine (HV.out _ HR.out).mono ?_
    rintro e w1 ⟨rfl, hb1⟩
    go_wp2
    go_ret2
    exact gives_nil rfl (HB0.out.trans (hb1.mono HB0.out.size))
  · rw [hva] at HV
    have hlen := Nc.valid_len hva
    have e : shiftR l u v = if Nc.valid (l.map (wsh u v)) then (l.map (wsh u v), 0) else ([], 2) := by unfold shiftR; rw [hva]; rfl
    have HE := Lib.hid e
    have HALL := Lib.hid (rok_all hu hv hva)
    have HNO := Lib.hid (fun m h => rok_no hu hv hva (m := m) h)
    have HOK := Lib.hid (fun m (hm : m ∈ l) => Nc.valid_ok hva hm)
    have HW4 := Lib.hid (fun W => rwithin_any u v 4000 (by omega) W)
    obtain ⟨i0, ia, ib, ic, id⟩ := info_parts info_theirs_any
    clear e hva
    go_enter Tryd.func19, Tryd.ntmps19
    go_wp2_with fail
    generalize w.alloc (.cells #[.int .i64 u, .int .i64 v] 24) = W0 at *
    refine (HV.out _ HR.out).mono ?_
    rintro e w1 ⟨rfl, hb1⟩
    have hbw := block_lt HBX.out
    go_wp2
    go_loopw [6, 7] (fun o t wr => ∃ k : Nat, k ≤ l.length ∧ t = .int .i64 k ∧ wr.ownsRow W0.heap.size 42 3 o k (((l.take k).map (wsh u v)).flatMap mvCells) ∧ Hid (∀ m ∈ l.take k, rok u v m = true) ∧ Below W0.heap.size W0 wr) (fun _ t _ => l.length - (intOf t).toNat)
    case atStart => exact ⟨0, Nat.zero_le _, rfl, World.ownsRow_nil _ _ _ _, Lib.hid (by simp), hb1⟩
    case round =>
      obtain ⟨k, hk, rfl, hown, hd, hbel⟩ := hrel
      by_cases hlt : k < l.length
      · obtain ⟨g, off, rfl, hg, ca⟩ := row_get mv_len (by decide) HR.out (by omega)
        have a0 := (hbel.cell (p := ⟨g, _, none⟩) hg).trans (ca k hlt 0 (by decide))
        have a1 := (hbel.cell (p := ⟨g, _, none⟩) hg).trans (ca k hlt 1 (by decide))
        have a2 := (hbel.cell (p := ⟨g, _, none⟩) hg).trans (ca k hlt 2 (by decide))
        have hts := Lib.hid (wsh_take u v l k hlt)
        have hno := Lib.hid (HNO.out l[k] (List.getElem_mem hlt))
        have hok := HOK.out l[k] (List.getElem_mem hlt)
        have hnx : Hid (rok u v l[k] = true → ∀ m ∈ l.take (k + 1), rok u v m = true) := Lib.hid (by
          intro h m hm
          rw [take_snoc' l k hlt] at hm
          rcases List.mem_append.1 hm with h1 | h1
          · exact hd.out m h1
          · simp at h1; subst h1; exact h)
        have hv0 : wr.cell? ⟨w.heap.size, 0, none⟩ = some (.int .i64 u) := by rw [hbel.cell (p := ⟨w.heap.size, 0, none⟩) hbw, Lib.cell_of_heap HBX.out]; rfl
        have hv1 : wr.cell? ⟨w.heap.size, 1, none⟩ = some (.int .i64 v) := by rw [hbel.cell (p := ⟨w.heap.size, 1, none⟩) hbw, Lib.cell_of_heap HBX.out]; rfl
        have hvz := Nat.lt_of_lt_of_le hbw hbel.size
        clear ca
        generalize l[k] = m at *
        obtain ⟨mk, mx, my⟩ := m
        simp only [mvCells, List.getElem?_cons_zero, List.getElem?_cons_succ, Nat.add_zero] at a0 a1 a2
        have hbd := Nc.ok_bound hok
        simp only at hbd
        clear hok
        have HGO := Lib.hid (fun W => goes_any mk W)
        have hme := own_ne hown
        have HME := Lib.hid hme
        have HOW := Lib.hid (hown.alloc (.cells #[.int .i64 mk, .int .i64 mx, .int .i64 my] 42))
        have HBE := Lib.hid (hbel.alloc hbel.size (.cells #[.int .i64 mk, .int .i64 mx, .int .i64 my] 42))
        have HMB := Lib.hid (heap_alloc_new wr (.cells #[.int .i64 mk, .int .i64 mx, .int .i64 my] 42))
        have HBV := Lib.hid (block_old (o' := .cells #[.int .i64 mk, .int .i64 mx, .int .i64 my] 42) ((hbel.block _ hbw).trans HBX.out))
        have HLE := Lib.hid hbel.size
        clear hown hbel hme hv0 hv1
        cases hm : Nc.moving mk
        · rw [hm] at HGO
          have hrk : Hid (rok u v ⟨mk, mx, my⟩ = true) := Lib.hid (by simp [rok, hm])
          have hwm : Hid (mvCells (wsh u v ⟨mk, mx, my⟩) = [.int .i64 mk, .int .i64 mx, .int .i64 my]) := Lib.hid (by rw [wsh_id hm]; rfl)
          clear hm
          go_wp2_with fail
          generalize wr.alloc (.cells #[.int .i64 mk, .int .i64 mx, .int .i64 my] 42) = W1 at *
          generalize wr.heap.size = mb at *
          refine (HGO.out _).mono ?_
          rintro e w4 ⟨rfl, rfl⟩
          have q0 : W1.cell? ⟨mb, 0, none⟩ = some (.int .i64 mk) := by rw [Lib.cell_of_heap HMB.out]; rfl
          have q1 : W1.cell? ⟨mb, 1, none⟩ = some (.int .i64 mx) := by rw [Lib.cell_of_heap HMB.out]; rfl
          have q2 : W1.cell? ⟨mb, 2, none⟩ = some (.int .i64 my) := by rw [Lib.cell_of_heap HMB.out]; rfl
          go_wp2_with (at_builtin; refine wpList_append_own _ rfl _ _ 22 rfl W0.heap.size 42 i0 _ 3 24 Tryd.underlying22 ia ib ic id rfl (by omega) _ _ _ rfl (HOW.out.alloc _) ⟨W1.heap.size, 0, none⟩ 1 1 [.int .i64 mk, .int .i64 mx, .int .i64 my] rfl rfl ?c1 ?c2 ?c3 ?c4 ?c5 ?_)
          case c1 => exact cells_newl3 W1 _ _ _ _
          case c2 => intro u hu; simp at hu; rcases hu with rfl | rfl | rfl <;> rfl
          case c3 => unfold maxLen; omega
          case c4 => omega
          case c5 => have := HBE.out.size; simp; omega
          · intro v' w2 hown2 hg2 _
            have hb2 : Below W0.heap.size W0 w2 := below_append (HBE.out.alloc HBE.out.size _) (by have := HBE.out.size; simp; omega) (HOW.out.alloc _) hg2 (Nat.le_refl _)
            have HO2 : Hid (w2.ownsRow W0.heap.size 42 3 v' (k + 1) (((l.take (k + 1)).map (wsh u v)).flatMap mvCells)) := Lib.hid (by rw [hts.out, hwm.out, List.map_take]; exact hown2)
            clear hown2 hg2
            go_wp2
            go_roundw
            case rel => exact ⟨k + 1, by omega, by go_num, HO2.out, Lib.hid (hnx.out hrk.out), hb2⟩
            case measure => simp [intOf]; omega
        · rw [hm] at HGO
          have hrk0 : rok u v ⟨mk, mx, my⟩ = (Nc.within u v 4000 && Nc.within (wrap64 (mx + u)) (wrap64 (my + v)) 2000) := by simp [rok, hm]
          have hwm : Hid (mvCells (wsh u v ⟨mk, mx, my⟩) = [.int .i64 mk, .int .i64 (wrap64 (mx + u)), .int .i64 (wrap64 (my + v))]) := Lib.hid (by unfold wsh; rw [if_pos hm]; rfl)
          clear hm
          have HADD := Lib.hid (fun W => radd_any mx my u v W)
          have HW2 := Lib.hid (fun W => rwithin_any (wrap64 (mx + u)) (wrap64 (my + v)) 2000 (by omega) W)
          generalize wrap64 (mx + u) = px at *
          generalize wrap64 (my + v) = py at *
          go_wp2_with fail
          generalize wr.alloc (.cells #[.int .i64 mk, .int .i64 mx, .int .i64 my] 42) = W1 at *
          generalize wr.heap.size = mb at *
          refine (HGO.out _).mono ?_
          rintro e w4 ⟨rfl, rfl⟩
          have v0 : W1.cell? ⟨w.heap.size, 0, none⟩ = some (.int .i64 u) := by rw [Lib.cell_of_heap HBV.out]; rfl
          have v1 : W1.cell? ⟨w.heap.size, 1, none⟩ = some (.int .i64 v) := by rw [Lib.cell_of_heap HBV.out]; rfl
          go_wp2_with fail
          refine (HW4.out _).mono ?_
          rintro e w5 ⟨rfl, hb5⟩
          have HB5 := Lib.hid (HBE.out.trans (hb5.mono HBE.out.size))
          have HO5 := Lib.hid (own_below HOW.out hb5)
          have HV5 := Lib.hid ((hb5.block _ (block_lt HBV.out)).trans HBV.out)
          have HM5 := Lib.hid ((hb5.block _ (block_lt HMB.out)).trans HMB.out)
          clear hb5 v0 v1
          cases hw4 : Nc.within u v 4000
          · have hq := Lib.hid (hno.out (by rw [hrk0, hw4]; rfl))
            clear hw4 hrk0
            go_wp2
            go_ret2
            rw [HE.out, hq.out]
            exact gives_nil rfl (HB0.out.trans (HB5.out.mono HB0.out.size))
          · rw [hw4, Bool.true_and] at hrk0
            have HRK := Lib.hid hrk0
            clear hw4 hrk0
            have v0 : w5.cell? ⟨w.heap.size, 0, none⟩ = some (.int .i64 u) := by rw [Lib.cell_of_heap HV5.out]; rfl
            have v1 : w5.cell? ⟨w.heap.size, 1, none⟩ = some (.int .i64 v) := by rw [Lib.cell_of_heap HV5.out]; rfl
            have q1 : w5.cell? ⟨mb, 1, none⟩ = some (.int .i64 mx) := by rw [Lib.cell_of_heap HM5.out]; rfl
            have q2 : w5.cell? ⟨mb, 2, none⟩ = some (.int .i64 my) := by rw [Lib.cell_of_heap HM5.out]; rfl
            go_wp2_with fail
            refine (HADD.out _).mono ?_
            rintro e w6 ⟨rfl, hb6⟩
            have HM6 := Lib.hid ((hb6.block _ (block_lt HM5.out)).trans HM5.out)
            have r1 : w6.cell? ⟨mb, 1, none⟩ = some (.int .i64 mx) := by rw [Lib.cell_of_heap HM6.out]; rfl
            have r2 : w6.cell? ⟨mb, 2, none⟩ = some (.int .i64 my) := by rw [Lib.cell_of_heap HM6.out]; rfl
            have f1 := Lib.frozen_of_heap HM6.out 1
            have f2 := Lib.frozen_of_heap HM6.out 2
            have hmz := block_lt HM6.out
            have HM7 : Hid (((w6.setCell ⟨mb, 1, none⟩ (.int .i64 px)).setCell ⟨mb, 2, none⟩ (.int .i64 py)).heap[mb]? = some (.cells #[.int .i64 mk, .int .i64 px, .int .i64 py] 42 (0, 0))) := Lib.hid (block_set (block_set HM6.out 1 (.int .i64 px)) 2 (.int .i64 py))
            have HO7 := Lib.hid (own_set' (own_set' (own_below HO5.out hb6) mb 1 (.int .i64 px) HME.out) mb 2 (.int .i64 py) HME.out)
            have HB7 := Lib.hid (((HB5.out.trans (hb6.mono HB5.out.size)).setCell (p := ⟨mb, 1, none⟩) (by have := HLE.out; simp; omega) (.int .i64 px)).setCell (p := ⟨mb, 2, none⟩) (by have := HLE.out; simp; omega) (.int .i64 py))
            clear hb6 v0 v1 q1 q2
            go_wp2_with fail
            generalize ((w6.setCell ⟨mb, 1, none⟩ (.int .i64 px)).setCell ⟨mb, 2, none⟩ (.int .i64 py)) = W7 at *
            clear r1 r2 f1 f2
            refine (HW2.out _).mono ?_
            rintro e w9 ⟨rfl, hb9⟩
            have HM9 := Lib.hid ((hb9.block _ (block_lt HM7.out)).trans HM7.out)
            have HO9 := Lib.hid (own_below HO7.out hb9)
            have HB9 := Lib.hid (HB7.out.trans (hb9.mono HB7.out.size))
            clear hb9
            cases hw2 : Nc.within px py 2000
            · have hq := Lib.hid (hno.out (by rw [HRK.out, hw2]))
              clear hw2
              go_wp2
              go_ret2
              rw [HE.out, hq.out]
              exact gives_nil rfl (HB0.out.trans (HB9.out.mono HB0.out.size))
            · have hrk : Hid (rok u v ⟨mk, mx, my⟩ = true) := Lib.hid (by rw [HRK.out, hw2])
              clear hw2
              have q0 : w9.cell? ⟨mb, 0, none⟩ = some (.int .i64 mk) := by rw [Lib.cell_of_heap HM9.out]; rfl
              have q1 : w9.cell? ⟨mb, 1, none⟩ = some (.int .i64 px) := by rw [Lib.cell_of_heap HM9.out]; rfl
              have q2 : w9.cell? ⟨mb, 2, none⟩ = some (.int .i64 py) := by rw [Lib.cell_of_heap HM9.out]; rfl
              go_wp2_with (at_builtin; refine wpList_append_own _ rfl _ _ 22 rfl W0.heap.size 42 i0 _ 3 24 Tryd.underlying22 ia ib ic id rfl (by omega) _ _ _ rfl (HO9.out.alloc _) ⟨w9.heap.size, 0, none⟩ 1 1 [.int .i64 mk, .int .i64 px, .int .i64 py] rfl rfl ?c1 ?c2 ?c3 ?c4 ?c5 ?_)
              case c1 => exact cells_newl3 w9 _ _ _ _
              case c2 => intro u hu; simp at hu; rcases hu with rfl | rfl | rfl <;> rfl
              case c3 => unfold maxLen; omega
              case c4 => omega
              case c5 => have := HB9.out.size; simp; omega
              · intro v' w2 hown2 hg2 _
                have hb2 : Below W0.heap.size W0 w2 := below_append (HB9.out.alloc HB9.out.size _) (by have := HB9.out.size; simp; omega) (HO9.out.alloc _) hg2 (Nat.le_refl _)
                have HO2 : Hid (w2.ownsRow W0.heap.size 42 3 v' (k + 1) (((l.take (k + 1)).map (wsh u v)).flatMap mvCells)) := Lib.hid (by rw [hts.out, hwm.out, List.map_take]; exact hown2)
                clear hown2 hg2
                go_wp2
                go_roundw
                case rel => exact ⟨k + 1, by omega, by go_num, HO2.out, Lib.hid (hnx.out hrk.out), hb2⟩
                case measure => simp [intOf]; omega
      · obtain rfl : k = l.length := by omega
        have hall : Hid (Nc.valid (l.map (wsh u v)) = true) := Lib.hid (HALL.out (by have := hd.out; rwa [List.take_length] at this))
        have htk := Lib.hid (show l.take l.length = l from List.take_length)
        rw [htk.out] at hown
        obtain ⟨A2, c2, rfl, hcc⟩ := own_shape hown
        have HO := Lib.hid (Row.of_own hown)
        clear hown
        go_wp2
        go_ret2
        rw [HE.out, hall.out, if_pos rfl]
        exact ⟨⟨A2, c2, by rw [List.length_map]; exact hcc, by rw [List.length_map]; rfl, HO.out⟩, HB0.out.trans (hbel.mono HB0.out.size)⟩
end Go.Proofs.YtonpbomjjamphaaDoor.NcW
