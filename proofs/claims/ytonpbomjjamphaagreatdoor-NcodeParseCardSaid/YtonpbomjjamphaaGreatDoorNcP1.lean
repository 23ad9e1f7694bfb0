/- Walks: the number behind a letter. Conditions: the library's variables hold what a start lays; the text has at most a million bytes. -/
import Derived.Test.YtonpbomjjamphaaGreatDoorShelf2
import Derived.Test.YtonpbomjjamphaaGreatDoorNcW7
import Derived.Lib.AtoiAll
namespace Go.Proofs.YtonpbomjjamphaaGreatDoor.NcW
open Go Go.RowKit Go.Proofs.YtonpbomjjamphaaGreatDoor.Mem

/-- What the library's variables hold: its table, a bound, two errors. -/
structure Glob (w : World) : Prop where
  laid : Laid w
  max : ∃ m, w.cell? ⟨0, 0, none⟩ = some (.int .i64 m)
  syn : ∃ ev, w.cell? ⟨2, 0, none⟩ = some ev ∧ (ev = .nilIface ∨ ∃ te pe, ev = .iface te pe)
  rng : ∃ ev, w.cell? ⟨3, 0, none⟩ = some ev ∧ (ev = .nilIface ∨ ∃ te pe, ev = .iface te pe)
  lt : 3 < w.heap.size
theorem Glob.below {w w' : World} (h : Glob w) (hb : Below w.heap.size w w') : Glob w' := by
  obtain ⟨h1, ⟨m, h2⟩, ⟨e3, h3, g3⟩, ⟨e4, h4, g4⟩, h5⟩ := h
  exact ⟨h1.below hb, ⟨m, (hb.cell (p := ⟨0, 0, none⟩) (by simp; omega)).trans h2⟩, ⟨e3, (hb.cell (p := ⟨2, 0, none⟩) (by simp; omega)).trans h3, g3⟩, ⟨e4, (hb.cell (p := ⟨3, 0, none⟩) (by simp; omega)).trans h4, g4⟩, Nat.lt_of_lt_of_le h5 hb.size⟩

/-- The digits of a coordinate in the right form. -/
def canon (d : List UInt8) : Bool := match Lib.atoiAll d with
  | .ok n => decide (Lib.itoa n = d) && decide ((Lib.trimPrefix d [45]).length ≤ 9)
  | _ => false
def cval (d : List UInt8) : Int := match Lib.atoiAll d with
  | .ok n => n
  | .range => Lib.atoiSat d
  | _ => 0
theorem atoiAll_i64 {d : List UInt8} {n : Int} (h : Lib.atoiAll d = .ok n) : I64 n := by
  unfold Lib.atoiAll at h
  split at h
  · cases h
  · simp only at h
    split at h
    · cases h
    · cases h
    · rename_i u hu
      have := Lib.parseMag_lt hu
      split at h
      · cases h
      · split at h
        · cases h
        · injection h with h
          subst h
          unfold I64
          split <;> omega

theorem str_eql (a b : List UInt8) : ((ByteArray.mk a.toArray).toList == (ByteArray.mk b.toArray).toList) = decide (a = b) := by
  rw [Go.ByteArray.toList_eq, Go.ByteArray.toList_eq, Bool.eq_iff_iff]
  simp
theorem atoi_ok {d : List UInt8} {n : Int} (h : Lib.atoiAll d = .ok n) (hd : d.length ≤ 1000000) (w : World) :
    Calls Tryz.prog 47 #[.string ⟨d.toArray⟩] w fun e w' => e = .returned (.tuple #[.int .i64 n, .nilIface]) ∧ Below w.heap.size w w' :=
  (Tryz.strconv_Atoi_ok ⟨d.toArray⟩ (by rw [str_size]; omega) n (by simpa using h) w).mono fun e w' ⟨he, hw⟩ => ⟨he, by
    rcases hw with rfl | ⟨t, rfl⟩
    · exact Below.refl _ _
    · exact Lib.bytesWorld_below _ _ _⟩
theorem atoi_bad {d : List UInt8} (h : ∀ n, Lib.atoiAll d ≠ .ok n) (hd : d.length ≤ 1000000) (w : World) (hG : Glob w) :
    Calls Tryz.prog 47 #[.string ⟨d.toArray⟩] w fun e w' => (∃ N, e = .returned (.tuple #[.int .i64 (cval d), .iface 122 (.pointer (some ⟨N, 0, none⟩))])) ∧ Below w.heap.size w w' := by
  obtain ⟨_, _, ⟨e3, h3, g3⟩, ⟨e4, h4, g4⟩, _⟩ := hG
  by_cases hr : Lib.atoiAll d = .range
  · have hv : cval d = Lib.atoiSat d := by unfold cval; rw [hr]
    rw [hv]
    exact (Tryz.strconv_Atoi_range ⟨d.toArray⟩ (by rw [str_size]; omega) (by simpa using hr) e4 w h4 g4).mono fun e w' ⟨N, he, _, _, hb⟩ => ⟨⟨N, by simpa using he⟩, hb⟩
  · have hv : cval d = 0 := by
      unfold cval
      cases hx : Lib.atoiAll d <;> first | rfl | exact absurd hx (h _) | exact absurd hx hr
    rw [hv]
    exact (Tryz.strconv_Atoi_wrong ⟨d.toArray⟩ (by rw [str_size]; omega) (by simpa using h) (by simpa using hr) e3 w h3 g3).mono fun e w' ⟨N, he, _, _, hb⟩ => ⟨⟨N, he⟩, hb⟩

set_option maxRecDepth 100000 in
set_option maxHeartbeats 1000000 in
theorem coordinate_any (s : List UInt8) (c : UInt8) (w : World) (hs : s.length ≤ 1000000) (hG : Glob w) :
    Calls Tryz.prog 31 #[.string ⟨s.toArray⟩, .string ⟨#[c]⟩] w fun e w' => e = .returned (.tuple #[.int .i64 (cval (Lib.trimPrefix s [c])), .bool (Lib.hasPrefix s [c] && canon (Lib.trimPrefix s [c]))]) ∧ Below w.heap.size w w' := by
  have HCP := Lib.hid (fun W => Tryz.strings_CutPrefix ⟨s.toArray⟩ ⟨#[c]⟩ W)
  rw [show (ByteArray.mk s.toArray).data.toList = s by simp, show (ByteArray.mk #[c]).data.toList = [c] by simp] at HCP
  have hdl : (Lib.trimPrefix s [c]).length ≤ 1000000 := by
    unfold Lib.trimPrefix
    split
    · simp; omega
    · exact hs
  have HG := Lib.hid hG
  clear hG hs
  generalize Lib.trimPrefix s [c] = d at *
  generalize Lib.hasPrefix s [c] = hp at *
  cases ha : Lib.atoiAll d with
  | ok n =>
    have hi := atoiAll_i64 ha
    have HA := Lib.hid (fun W => atoi_ok ha hdl W)
    have hv : cval d = n := by unfold cval; rw [ha]
    have hcn : canon d = (decide (Lib.itoa n = d) && decide ((Lib.trimPrefix d [45]).length ≤ 9)) := by unfold canon; rw [ha]
    rw [hv, hcn]
    have HI := Lib.hid (fun W (h : Laid W) => itoa_any n W h hi.1 hi.2)
    have HTP := Lib.hid (fun W => Tryz.strings_TrimPrefix ⟨d.toArray⟩ ⟨#[45]⟩ W)
    rw [show (ByteArray.mk d.toArray).data.toList = d by simp, show (ByteArray.mk #[45]).data.toList = [45] by simp] at HTP
    have hq := str_eql (Lib.itoa n) d
    have hz : (ByteArray.mk (Lib.trimPrefix d [45]).toArray).size = (Lib.trimPrefix d [45]).length := str_size _
    clear ha hv hcn hi
    generalize decide (Lib.itoa n = d) = q at *
    generalize (Lib.trimPrefix d [45]).length = tl at *
    generalize (ByteArray.mk (Lib.trimPrefix d [45]).toArray) = TB at *
    generalize (ByteArray.mk (Lib.itoa n).toArray) = IB at *
    generalize (ByteArray.mk d.toArray) = DB at *
    have HZ := Lib.hid hz
    clear hz
    cases hp
    · clear hq
      go_enter Tryz.func31, Tryz.ntmps31
      go_wp2_with fail
      refine (HCP.out _).mono ?_
      rintro e w1 ⟨rfl, rfl⟩
      go_wp2_with fail
      refine (HA.out _).mono ?_
      rintro e w2 ⟨rfl, hb2⟩
      go_wp2
      go_ret2
      exact ⟨rfl, hb2⟩
    · cases q
      · go_enter Tryz.func31, Tryz.ntmps31
        go_wp2_with fail
        refine (HCP.out _).mono ?_
        rintro e w1 ⟨rfl, rfl⟩
        go_wp2_with fail
        refine (HA.out _).mono ?_
        rintro e w2 ⟨rfl, hb2⟩
        go_wp2_with fail
        refine (HI.out _ (HG.out.laid.below hb2)).mono ?_
        rintro e w3 ⟨rfl, hb3⟩
        have hb13 := hb2.trans (hb3.mono hb2.size)
        clear hb2 hb3
        go_wp2
        go_ret2
        exact ⟨rfl, hb13⟩
      · by_cases htl : tl ≤ 9
        · have htl2 : decide (tl ≤ 9) = true := by simpa using htl
          rw [htl2]
          clear htl2
          go_enter Tryz.func31, Tryz.ntmps31
          go_wp2_with fail
          refine (HCP.out _).mono ?_
          rintro e w1 ⟨rfl, rfl⟩
          go_wp2_with fail
          refine (HA.out _).mono ?_
          rintro e w2 ⟨rfl, hb2⟩
          go_wp2_with fail
          refine (HI.out _ (HG.out.laid.below hb2)).mono ?_
          rintro e w3 ⟨rfl, hb3⟩
          have hb13 := hb2.trans (hb3.mono hb2.size)
          clear hb2 hb3
          have htl3 : decide ((TB.size : Int) ≤ 9) = true := by have := HZ.out; simp; omega
          go_wp2_with fail
          refine (HTP.out _).mono ?_
          rintro e w4 ⟨rfl, rfl⟩
          go_wp2
          go_ret2
          exact ⟨rfl, hb13⟩
        · have htl2 : decide (tl ≤ 9) = false := by simpa using htl
          rw [htl2]
          clear htl2
          go_enter Tryz.func31, Tryz.ntmps31
          go_wp2_with fail
          refine (HCP.out _).mono ?_
          rintro e w1 ⟨rfl, rfl⟩
          go_wp2_with fail
          refine (HA.out _).mono ?_
          rintro e w2 ⟨rfl, hb2⟩
          go_wp2_with fail
          refine (HI.out _ (HG.out.laid.below hb2)).mono ?_
          rintro e w3 ⟨rfl, hb3⟩
          have hb13 := hb2.trans (hb3.mono hb2.size)
          clear hb2 hb3
          have htl3 : decide ((TB.size : Int) ≤ 9) = false := by have := HZ.out; simp; omega
          go_wp2_with fail
          refine (HTP.out _).mono ?_
          rintro e w4 ⟨rfl, rfl⟩
          go_wp2
          go_ret2
          exact ⟨rfl, hb13⟩
  | range =>
    have HA := Lib.hid (fun W h => atoi_bad (d := d) (fun n e => by rw [ha] at e; cases e) hdl W h)
    have hcn : canon d = false := by unfold canon; rw [ha]
    rw [hcn, Bool.and_false]
    clear ha hcn
    generalize (ByteArray.mk d.toArray) = DB at *
    cases hp
    · go_enter Tryz.func31, Tryz.ntmps31
      go_wp2_with fail
      refine (HCP.out _).mono ?_
      rintro e w1 ⟨rfl, rfl⟩
      go_wp2_with fail
      refine (HA.out _ HG.out).mono ?_
      rintro e w2 ⟨⟨N, rfl⟩, hb2⟩
      go_wp2
      go_ret2
      exact ⟨rfl, hb2⟩
    · go_enter Tryz.func31, Tryz.ntmps31
      go_wp2_with fail
      refine (HCP.out _).mono ?_
      rintro e w1 ⟨rfl, rfl⟩
      go_wp2_with fail
      refine (HA.out _ HG.out).mono ?_
      rintro e w2 ⟨⟨N, rfl⟩, hb2⟩
      go_wp2
      go_ret2
      exact ⟨rfl, hb2⟩
  | _ =>
    have HA := Lib.hid (fun W h => atoi_bad (d := d) (fun n e => by rw [ha] at e; cases e) hdl W h)
    have hcn : canon d = false := by unfold canon; rw [ha]
    rw [hcn, Bool.and_false]
    clear ha hcn
    generalize (ByteArray.mk d.toArray) = DB at *
    cases hp
    · go_enter Tryz.func31, Tryz.ntmps31
      go_wp2_with fail
      refine (HCP.out _).mono ?_
      rintro e w1 ⟨rfl, rfl⟩
      go_wp2_with fail
      refine (HA.out _ HG.out).mono ?_
      rintro e w2 ⟨⟨N, rfl⟩, hb2⟩
      go_wp2
      go_ret2
      exact ⟨rfl, hb2⟩
    · go_enter Tryz.func31, Tryz.ntmps31
      go_wp2_with fail
      refine (HCP.out _).mono ?_
      rintro e w1 ⟨rfl, rfl⟩
      go_wp2_with fail
      refine (HA.out _ HG.out).mono ?_
      rintro e w2 ⟨⟨N, rfl⟩, hb2⟩
      go_wp2
      go_ret2
      exact ⟨rfl, hb2⟩
end Go.Proofs.YtonpbomjjamphaaGreatDoor.NcW
