/- The law DrawingPrefix: its walk. Conditions: the library's variables hold what a start lays; the drawing lies in memory. -/
import Derived.Test.YtnmmhcchpcbeeaaGreatDoorGtEd
import Derived.Test.YtnmmhcchpcbeeaaGreatDoorGtEe
import Derived.Test.YtnmmhcchpcbeeaaGreatDoorGtNb
import Derived.Test.YtnmmhcchpcbeeaaGreatDoorGtS
import Derived.Test.YtnmmhcchpcbeeaaGreatDoorGtD
import Derived.Test.YtnmmhcchpcbeeaaGreatDoorAwk
import Derived.Test.YtnmmhcchpcbeeaaGreatDoorGtFb
import Derived.Test.YtnmmhcchpcbeeaaGreatDoorGtHb

namespace Go.Proofs.YtnmmhcchpcbeeaaGreatDoor.GtW
open Go Go.RowKit Go.Proofs.YtnmmhcchpcbeeaaGreatDoor.Mem Go.Proofs.YtnmmhcchpcbeeaaGreatDoor.Gt Go.Proofs.YtnmmhcchpcbeeaaGreatDoor.Ge
open Go.Proofs.YtnmmhcchpcbeeaaGreatDoor.GeW (EntV entVals PtsIn Ents)
attribute [local go_sem ↓] Go.wp_at_zero Go.wp_at_succ
theorem bytes_take (s : List UInt8) (q : Nat) : (ByteArray.mk s.toArray).extract 0 q = ⟨(s.take q).toArray⟩ := by
 apply ByteArray.ext
 simp [ByteArray.data_extract]
theorem count_snoc (t : List UInt8) (k : Nat) (hk : k < t.length) : (t.take (k + 1)).count 10 = (t.take k).count 10 + (if t[k] = 10 then 1 else 0) := by
 rw [List.take_succ_eq_append_getElem hk, List.count_append, List.count_singleton]
 simp
set_option maxRecDepth 100000 in
set_option maxHeartbeats 4000000 in
theorem prefix_law (es : List EntV) (A : Option Addr) (c : Nat) (x : Int) (w : World) (hG : Glob w) (h : EntsRaw w A es) (hx : 0 ≤ x ∧ x ≤ 65535) :
  Calls Tryz.prog 4 #[.slice A es.length c, .int .u16 x] w fun e w' => e = .returned (.bool true) ∧ Below w.heap.size w w' := by
 have HAW := Lib.hid (GeW.awake_any w)
 have HGG := Lib.hid hG
 have HR := Lib.hid h
 have HF := Lib.hid (fun W hW => few_any 8 es A c W hW)
 have HRV := Lib.hid (fun W hW => rdrawOk_any es A c W hW)
 have HOW := Lib.hid (fun W hW hn => own_all es A c W hW hn)
 have HEN := Lib.hid (fun B d W hW hE hn => encode_any es B d W hW hE hn)
 have HSM := Lib.hid (fun h hl => @enc_small (es.map EntV.e) h hl)
 have HPF := Lib.hid (fun h k hk => @dec_prefix (es.map EntV.e) h k hk)
 clear hG h
 go_enter Tryz.func4, Tryz.ntmps4
 go_wp2_with fail
 refine HAW.out.mono ?_
 rintro e w1 ⟨rfl, hb1⟩
 have HB1 := Lib.hid hb1
 clear hb1 HAW
 go_wp2_with fail
 refine (HF.out w1 (HR.out.below HB1.out)).mono ?_
 rintro e w2 ⟨⟨b, rfl, hfew⟩, hb2⟩
 have HB2 := Lib.hid (HB1.out.trans (hb2.mono HB1.out.size))
 have HFW := Lib.hid hfew
 clear hb2 hfew HF
 cases b
 ·go_wp2
  go_ret
  exact ⟨rfl, HB2.out⟩
 have hfe := HFW.out rfl
 have HE2 := Lib.hid ((HR.out.below HB2.out).few hfe (by omega))
 have h8 := hfe.2
 have HFE := Lib.hid hfe
 clear hfe HFW HR
 obtain ⟨DK, HDK⟩ : ∃ DK, Hid (drawOk (es.map EntV.e) = DK) := ⟨_, Lib.hid rfl⟩
 rw [HDK.out] at HRV HEN
 go_wp2_with fail
 refine (HRV.out w2 HE2.out).mono ?_
 rintro e w3 ⟨rfl, hb3⟩
 have HB3 := Lib.hid (HB2.out.trans (hb3.mono HB2.out.size))
 have HE3 := Lib.hid (HE2.out.below hb3)
 clear hb3 HRV HE2
 cases DK
 ·go_wp2
  go_ret
  exact ⟨rfl, HB3.out⟩
 have HS2 := Lib.hid (HSM.out HDK.out (fun y hy => by
  obtain ⟨q, hq, rfl⟩ := List.mem_map.1 hy
  exact (HFE.out.1 q hq).2))
 have HP2 := Lib.hid (HPF.out HDK.out)
 have hE1 : (enc (es.map EntV.e)).length ≤ 40000 ∧ 0 < (enc (es.map EntV.e)).length := by
  have := HS2.out
  rw [List.length_map] at this
  omega
 clear HSM HPF HFE HS2 HDK
 simp only [if_true] at HEN
 generalize enc (es.map EntV.e) = T at *
 obtain ⟨hE1, hE2⟩ := hE1
 go_wp2_with fail
 refine (HOW.out w3 HE3.out (by omega)).mono ?_
 rintro e w4 ⟨B, d, rfl, hx4, hb4⟩
 have HB4 := Lib.hid (HB3.out.trans (hb4.mono HB3.out.size))
 have HE4 := Lib.hid hx4
 clear hb4 hx4 HOW HE3
 go_wp2_with fail
 refine (HEN.out B d w4 (HGG.out.below HB4.out) HE4.out (by omega)).mono ?_
 rintro e w5 ⟨rfl, hb5⟩
 have HB5 := Lib.hid (HB4.out.trans (hb5.mono HB4.out.size))
 clear hb5 HEN HE4
 obtain ⟨K, hK, hKL⟩ : ∃ K : Nat, x.tmod (T.length : Int) = (K : Int) ∧ K < T.length := by
  refine ⟨(x.toNat % T.length), ?_, Nat.mod_lt _ hE2⟩
  obtain ⟨m, rfl⟩ := Int.eq_ofNat_of_zero_le hx.1
  rw [Int.tmod_eq_emod_of_nonneg (by omega)]
  simp
 have hsz : (ByteArray.mk T.toArray).size = T.length := str_size T
 have hwx : IntKind.i64.wrap x = x := by rw [wrapEq]; unfold wrap64; omega
 have HTK := Lib.hid (bytes_take T K)
 have HKB : Hid ((T.take K).length ≤ 40000) := Lib.hid (by rw [List.length_take]; omega)
 have HDC := Lib.hid (fun W hW => decode_any (T.take K) (by rw [List.length_take]; omega) W hW)
 have hp := HP2.out K hKL
 rw [hp] at HDC
 simp only at HDC
 clear hp HP2
 have hT0 : T.length ≠ 0 := by omega
 have hz1 : ((T.length : Int) = 0) = False := by simpa using hT0
 have hz2 : decide ((T.length : Int) = 0) = false := decide_eq_false (by omega)
 have hz3 : ((T.length : Int) == 0) = false := by simpa using hT0
 have hst : (ByteArray.mk (T.take K).toArray).size = (T.take K).length := str_size _
 have HTLN : Hid ((T.take K).length = K) := Lib.hid (by rw [List.length_take]; omega)
 go_wp2_with fail
 rw [HTK.out]
 have HGET : Hid (∀ (i : Nat) (h : i < (ByteArray.mk (T.take K).toArray).size), (ByteArray.mk (T.take K).toArray)[i] = (T.take K)[i]'(by rw [← hst]; exact h)) := Lib.hid (fun i h => by rfl)
 clear HTK
 generalize T.take K = TT at *
 generalize (ByteArray.mk TT.toArray) = TB at *
 have hKE := HTLN.out
 clear hz1 hz2 hz3 hT0 hK hKL hsz hwx HTLN
 subst hKE
 generalize (ByteArray.mk T.toArray) = SB at *
 obtain ⟨KN, hKN⟩ : ∃ KN, TT.length = KN := ⟨_, rfl⟩
 have hkn : KN ≤ 40000 := by rw [← hKN]; exact HKB.out
 go_loopw [8, 9] (fun n i wr => ∃ j : Nat, i = .int .i64 (j : Int) ∧ j ≤ TT.length ∧ n = .int .i64 (((TT.take j).count 10 : Nat) : Int) ∧ Hid (Below w.heap.size w wr)) (fun _ i _ => TT.length - (intOf i).toNat)
 case atStart => exact ⟨0, rfl, Nat.zero_le _, by simp, HB5⟩
 case round =>
  obtain ⟨j, rfl, hj, rfl, HB⟩ := hrel
  by_cases hlt : j < TT.length
  ·have hcs := count_snoc TT j hlt
   have hjb : j < TB.size := by omega
   have hq : (TT.take j).count 10 ≤ j := Nat.le_trans List.count_le_length (by rw [List.length_take]; omega)
   by_cases hc : TT[j] = 10
   ·have hb : (((TB[j]'hjb).toNat : Int) == 10) = true := by rw [HGET.out j hjb, hc]; rfl
    rw [if_pos hc] at hcs
    have HCS := Lib.hid hcs
    clear hc hcs
    generalize (TT.take j).count 10 = q at *
    go_wp2
    go_roundw
    case rel => exact ⟨j + 1, by go_num, by omega, by rw [HCS.out]; go_num, HB⟩
    case measure => simp [intOf]; omega
   ·have hb : (((TB[j]'hjb).toNat : Int) == 10) = false := by
     rw [HGET.out j hjb]
     cases h9 : ((TT[j].toNat : Int) == 10)
     ·rfl
     ·have h8 : TT[j].toNat = 10 := by
       have := of_decide_eq_true h9
       omega
      exact absurd (UInt8.toNat_inj.1 (h8.trans rfl)) hc
    rw [if_neg hc, Nat.add_zero] at hcs
    have HCS := Lib.hid hcs
    clear hc hcs
    generalize (TT.take j).count 10 = q at *
    go_wp2
    go_roundw
    case rel => exact ⟨j + 1, by go_num, by omega, by rw [HCS.out]; rfl, HB⟩
    case measure => simp [intOf]; omega
  ·obtain rfl : j = TT.length := by omega
   rw [List.take_length]
   have hq : TT.count 10 ≤ TT.length := List.count_le_length
   generalize TT.count 10 = q at *
   have hqq : ((q : Int) == (q : Int)) = true := beq_self_eq_true _
   go_wp2_with fail
   refine (HDC.out wr (HGG.out.below HB.out)).mono ?_
   rintro e w6 ⟨A6, d6, xs, rfl, hm, hx6, hb6⟩
   obtain rfl : xs = [] := List.map_eq_nil_iff.1 hm
   clear hm hx6
   go_wp2
   go_ret
   exact ⟨rfl, HB.out.trans (hb6.mono HB.out.size)⟩
end Go.Proofs.YtnmmhcchpcbeeaaGreatDoor.GtW
