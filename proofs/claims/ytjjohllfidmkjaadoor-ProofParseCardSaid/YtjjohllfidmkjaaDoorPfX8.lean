/- Walk: the reference's text of a tree. Conditions: well-formed, of at most 10^12 nodes. -/
import Derived.Test.YtjjohllfidmkjaaDoorPfX7
import Derived.Test.YtjjohllfidmkjaaDoorPfQ2
namespace Go.Proofs.YtjjohllfidmkjaaDoor.PfW
open Go Go.RowKit Go.Proofs.YtjjohllfidmkjaaDoor.Mem Go.Proofs.YtjjohllfidmkjaaDoor.Pf
def LS (lf : List Int) (j : Nat) : ByteArray := ⟨(40 :: leafText (lf.take j)).toArray⟩
def KS (s : Int) (ks : List T) (j : Nat) : ByteArray := ⟨(91 :: Lib.itoa s ++ kidsText (ks.take j)).toArray⟩
theorem LS_size (lf : List Int) (h : lf.all smallB = true) (j : Nat) (hj : j ≤ 1000) : (LS lf j).size ≤ 20000 := by
  unfold LS
  rw [str_size, List.length_cons]
  have := leafText_len (lf.take j) (all_take h j)
  have h2 : (lf.take j).length ≤ j := by rw [List.length_take]; omega
  omega
theorem LS_next (lf : List Int) (j : Nat) (h : j < lf.length) (h0 : 0 < j) : LS lf j ++ ⟨#[32]⟩ ++ ⟨(Lib.itoa lf[j]).toArray⟩ = LS lf (j + 1) := by
  unfold LS
  rw [leafText_take lf j h, if_pos h0, show (ByteArray.mk #[32]) = ⟨[32].toArray⟩ from rfl, str_append, str_append]
  simp
theorem LS_first (lf : List Int) (j : Nat) (h : j < lf.length) (h0 : ¬ 0 < j) : LS lf j ++ ⟨(Lib.itoa lf[j]).toArray⟩ = LS lf (j + 1) := by
  unfold LS
  rw [leafText_take lf j h, if_neg h0, str_append]
  simp
theorem LS_end (s : Int) (lf : List Int) : LS lf lf.length ++ ⟨#[41]⟩ = ⟨(text (.mk s [] lf)).toArray⟩ := by
  have ht : text (.mk s [] lf) = 40 :: leafText lf ++ [41] := by unfold text; exact if_pos rfl
  unfold LS
  rw [ht, show (ByteArray.mk #[41]) = ⟨[41].toArray⟩ from rfl, str_append, List.take_length]
theorem KS_size (s : Int) (hs : smallB s = true) (ks : List T) (h : allL ks = true) (j : Nat) : (KS s ks j).size ≤ 12 + 600 * nodesL (ks.take j) := by
  unfold KS
  have h1 := (itoa_len hs).2
  have h2 := kidsText_lenT ks h j
  rw [str_size, List.length_append, List.length_cons]
  omega
theorem KS_start (s : Int) (ks : List T) : (⟨#[91]⟩ : ByteArray) ++ ⟨(Lib.itoa s).toArray⟩ = KS s ks 0 := by
  unfold KS
  rw [show (ByteArray.mk #[91]) = ⟨[91].toArray⟩ from rfl, str_append]
  simp [kidsText]
theorem KS_next (s : Int) (ks : List T) (j : Nat) (h : j < ks.length) : KS s ks j ++ ((⟨#[32]⟩ : ByteArray) ++ ⟨(text ks[j]).toArray⟩) = KS s ks (j + 1) := by
  unfold KS
  rw [kidsText_take ks j h, show (ByteArray.mk #[32]) = ⟨[32].toArray⟩ from rfl, str_append, str_append]
  simp
theorem KS_end (s : Int) (ks : List T) (lf : List Int) (h : ks.length ≠ 0) : KS s ks ks.length ++ ⟨#[93]⟩ = ⟨(text (.mk s ks lf)).toArray⟩ := by
  have ht : text (.mk s ks lf) = 91 :: Lib.itoa s ++ kidsText ks ++ [93] := by unfold text; exact if_neg h
  unfold KS
  rw [ht, show (ByteArray.mk #[93]) = ⟨[93].toArray⟩ from rfl, str_append, List.take_length]
set_option maxRecDepth 100000 in
set_option maxHeartbeats 4000000 in
theorem rtext_leaf (s : Int) (lf : List Int) (hs : lf.all smallB = true) (hl : lf.length ≤ 40) (K : Option Addr) (kc : Nat) (Bf : Option Addr) (d : Nat) (S : Nat → Prop) (w : World) (hr : RowS S w Bf (intCells lf)) :
    Calls Tryd.prog 51 #[.agg #[.int .i64 s, .slice K 0 kc, .slice Bf lf.length d]] w fun e w' => e = .returned (.string ⟨(text (.mk s [] lf)).toArray⟩) ∧ Below w.heap.size w w' := by
  have HB := Lib.hid (one_box w (.cells #[.int .i64 s, .slice K 0 kc, .slice Bf lf.length d] 29))
  have hz := lt_of_block HB.out.2
  have HR := Lib.hid hr
  have HLE := Lib.hid (LS_end s lf)
  rw [← HLE.out]
  obtain ⟨x0, x1, x2⟩ := cell3 HB.out.2
  go_enter Tryd.func51, Tryd.ntmps51
  go_upto_region 4 with fail
  generalize w.alloc (.cells #[.int .i64 s, .slice K 0 kc, .slice Bf lf.length d] 29) = W at *
  have h00 : (ByteArray.mk #[40]) = LS lf 0 := by unfold LS; rfl
  go_loopw [3, 4] (fun t i wr => ∃ j : Nat, i = .int .i64 (j : Int) ∧ j ≤ lf.length ∧ t = .string (LS lf j) ∧ Below W.heap.size W wr) (fun _ i _ => lf.length - (intOf i).toNat)
  case atStart => exact ⟨0, rfl, Nat.zero_le _, congrArg Value.string h00, Below.refl _ _⟩
  case round =>
    obtain ⟨j, rfl, hj, rfl, hb⟩ := hrel
    have hsz := LS_size lf hs j (by omega)
    have c0 := (hb.cell (p := ⟨w.heap.size, 0, none⟩) hz).trans x0
    have c1 := (hb.cell (p := ⟨w.heap.size, 1, none⟩) hz).trans x1
    have c2 := (hb.cell (p := ⟨w.heap.size, 2, none⟩) hz).trans x2
    by_cases hlt : j < lf.length
    · have hsm : smallB lf[j] = true := List.all_eq_true.1 hs _ (List.getElem_mem hlt)
      obtain ⟨gf, of, rfl, _, hgf, hcf⟩ := HR.out (by intro h0; have := congrArg List.length h0; simp [intCells] at this; rw [this] at hlt; simp at hlt)
      have y0 : wr.cell? ⟨gf, of + j, none⟩ = some (.int .i64 lf[j]) := ((HB.out.1.trans (hb.mono HB.out.1.size)).cell (p := ⟨gf, of + j, none⟩) hgf).trans ((hcf j (by simp [intCells]; omega)).trans (by simp [intCells, hlt]))
      have HD := Lib.hid (fun w => digits_any lf[j] hsm w)
      have hil := (itoa_len hsm).2
      rw [← str_size] at hil
      clear hcf
      by_cases h0 : 0 < j
      · have d0 : decide ((0 : Int) < (j : Int)) = true := decide_eq_true (by omega)
        have HN := Lib.hid (LS_next lf j hlt h0)
        generalize (ByteArray.mk (Lib.itoa lf[j]).toArray) = DB at *
        generalize hX : lf[j] = X at *
        clear hX
        have n1 : (9223372036854775807 < (LS lf j).size + 1) = False := eq_false (by omega)
        have n2 : (9223372036854775807 < (LS lf j).size + 1 + DB.size) = False := eq_false (by omega)
        have z1 : (ByteArray.mk #[32]).size = 1 := rfl
        clear hsz hil
        go_wp2_with fail
        refine (HD.out _).mono ?_
        rintro e w6 ⟨rfl, rfl⟩
        go_wp2
        go_roundw
        case rel => exact ⟨j + 1, by go_num, by omega, congrArg Value.string HN.out, by first | exact hb | exact below_drew hb | exact below_drewN hb _⟩
        case measure => simp [intOf]; omega
      · have d0 : decide ((0 : Int) < (j : Int)) = false := decide_eq_false (by omega)
        have HN := Lib.hid (LS_first lf j hlt h0)
        generalize (ByteArray.mk (Lib.itoa lf[j]).toArray) = DB at *
        generalize hX : lf[j] = X at *
        clear hX
        have n2 : (9223372036854775807 < (LS lf j).size + DB.size) = False := eq_false (by omega)
        clear hsz hil
        go_wp2_with fail
        refine (HD.out _).mono ?_
        rintro e w6 ⟨rfl, rfl⟩
        go_wp2
        go_roundw
        case rel => exact ⟨j + 1, by go_num, by omega, congrArg Value.string HN.out, by first | exact hb | exact below_drew hb | exact below_drewN hb _⟩
        case measure => simp [intOf]; omega
    · have hje : j = lf.length := by omega
      subst hje
      have n1 : (9223372036854775807 < (LS lf lf.length).size + 1) = False := eq_false (by omega)
      have z1 : (ByteArray.mk #[41]).size = 1 := rfl
      go_wp2
      go_ret
      exact ⟨rfl, HB.out.1.trans (hb.mono HB.out.1.size)⟩
set_option maxRecDepth 100000 in
set_option maxHeartbeats 8000000 in
theorem rtext_any (S : Nat → Prop) : ∀ (m : Nat) (t : T), nodes t ≤ m → m ≤ 1000000000000 → allB t = true → ∀ (vs : List Value) (w : World), TreeIn S w t vs →
    Calls Tryd.prog 51 #[.agg vs.toArray] w fun e w' => e = .returned (.string ⟨(text t).toArray⟩) ∧ Below w.heap.size w w'
  | 0, .mk s ks lf, h, _, _, _, _, _ => by unfold nodes at h; omega
  | m + 1, .mk s ks lf, h, hm, hv, vs, w, ht => by
    have IH := Lib.hid (rtext_any S m)
    obtain ⟨hnd, hak⟩ := all_parts hv
    unfold TreeIn at ht
    obtain ⟨A, c, Bf, d, ws, rfl, hc, hd, hr, hk, hlf⟩ := ht
    have hnk : nodes (.mk s ks lf) = 1 + nodesL ks := by rw [nodes]
    by_cases h0 : ks.length = 0
    · unfold nodeB at hnd
      rw [if_neg (by omega)] at hnd
      simp only [Bool.and_eq_true, decide_eq_true_eq] at hnd
      have e0 : ks = [] := List.eq_nil_of_length_eq_zero h0
      subst e0
      exact rtext_leaf s lf hnd.2 hnd.1.2 A c Bf d S w hlf
    · unfold nodeB at hnd
      rw [if_pos (by omega)] at hnd
      simp only [Bool.and_eq_true, decide_eq_true_eq] at hnd
      have hsm := hnd.2
      have hk100 : ks.length ≤ 100 := hnd.1.2
      have hil := (itoa_len hsm).2
      rw [← str_size] at hil
      rw [hnk] at h
      have HK0 := Lib.hid hk
      have HR := Lib.hid hr
      have HAK := Lib.hid hak
      have HSM := Lib.hid hsm
      have HB := Lib.hid (one_box w (.cells #[.int .i64 s, .slice A ks.length c, .slice Bf lf.length d] 29))
      have hz := lt_of_block HB.out.2
      have HE := Lib.hid (KS_end s ks lf h0)
      have HS0 := Lib.hid (KS_start s ks)
      rw [← HE.out]
      have HD := Lib.hid (fun w => digits_any s hsm w)
      obtain ⟨x0, x1, x2⟩ := cell3 HB.out.2
      have d0 : ((ks.length : Int) = 0) = False := eq_false (by omega)
      clear hk hr hak hlf hc hd hv hnd hnk hsm
      generalize (ByteArray.mk (Lib.itoa s).toArray) = IB at *
      have n0 : (9223372036854775807 < 1 + IB.size) = False := eq_false (by omega)
      have z0 : (ByteArray.mk #[91]).size = 1 := rfl
      clear hil
      go_enter Tryd.func51, Tryd.ntmps51
      go_upto_region 10 with fail
      generalize w.alloc (.cells #[.int .i64 s, .slice A ks.length c, .slice Bf lf.length d] 29) = W0 at *
      go_wp2_with fail
      refine (HD.out _).mono ?_
      rintro e W ⟨rfl, rfl⟩
      go_wp2
      go_loopw [5, 6] (fun t i wr => ∃ j : Nat, i = .int .i64 (j : Int) ∧ j ≤ ks.length ∧ t = .string (KS s ks j) ∧ Below W.heap.size W wr) (fun _ i _ => ks.length - (intOf i).toNat)
      case atStart => exact ⟨0, rfl, Nat.zero_le _, congrArg Value.string HS0.out, by first | exact Below.refl _ _ | exact below_drew (Below.refl _ _) | exact below_drewN (Below.refl _ _) 1⟩
      case round =>
        obtain ⟨j, rfl, hj, rfl, hb⟩ := hrel
        have hsz := KS_size s HSM.out ks HAK.out j
        have hlt0 := nodesL_take ks j
        have c0 := (hb.cell (p := ⟨w.heap.size, 0, none⟩) hz).trans x0
        have c1 := (hb.cell (p := ⟨w.heap.size, 1, none⟩) hz).trans x1
        have c2 := (hb.cell (p := ⟨w.heap.size, 2, none⟩) hz).trans x2
        by_cases hlt : j < ks.length
        · obtain ⟨g, off, xs1, xA, xn, xc, xB, xm, xd, rfl, hT, a0, a1, a2⟩ := kid_cells HR.out HK0.out (HB.out.1.trans (hb.mono HB.out.1.size)) hlt
          have hs := nodesL_take ks (j + 1)
          have hs1 := kid_nodes hlt
          have hkb := allL_get ks HAK.out j hlt
          have htl := text_len ks[j] hkb
          have HN := Lib.hid (IH.out ks[j] (by omega) (by omega) hkb)
          have HT := Lib.hid hT
          have HX := Lib.hid (KS_next s ks j hlt)
          rw [← str_size] at htl
          generalize (ByteArray.mk (text ks[j]).toArray) = DB at *
          generalize hnq : nodes ks[j] = nq at *
          have n1 : (9223372036854775807 < 1 + DB.size) = False := eq_false (by omega)
          have n2 : (9223372036854775807 < (KS s ks j).size + (1 + DB.size)) = False := eq_false (by omega)
          have z1 : (ByteArray.mk #[32]).size = 1 := rfl
          clear hsz htl hs hs1 hlt0 hT hnq z0 n0
          go_wp2_with fail
          refine (HN.out _ _ (HT.out.below (by first | exact Below.refl _ _ | exact below_drew (Below.refl _ _)))).mono ?_
          rintro e w6 ⟨rfl, hb6⟩
          have HB6 : Hid (Below W.heap.size W w6) := Lib.hid ((show Below W.heap.size W _ by first | exact hb | exact below_drew hb | exact below_drewN hb _).trans (hb6.mono (by have := hb.size; first | exact this | (simp; omega))))
          clear hb6 a0 a1 a2 c0 c1 c2
          go_wp2
          go_roundw
          case rel => exact ⟨j + 1, by go_num, by omega, congrArg Value.string HX.out, by first | exact HB6.out | exact below_drew HB6.out⟩
          case measure => simp [intOf]; omega
        · have hje : j = ks.length := by omega
          subst hje
          have n1 : (9223372036854775807 < (KS s ks ks.length).size + 1) = False := eq_false (by omega)
          have z1 : (ByteArray.mk #[93]).size = 1 := rfl
          clear n0 z0
          go_wp2
          go_ret
          exact ⟨rfl, HB.out.1.trans (hb.mono HB.out.1.size)⟩
end Go.Proofs.YtjjohllfidmkjaaDoor.PfW
