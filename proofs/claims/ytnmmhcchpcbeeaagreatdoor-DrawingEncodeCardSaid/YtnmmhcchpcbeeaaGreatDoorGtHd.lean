/- The law DrawingEncode: its walk. Conditions: the library's variables hold what a start lays; the drawing lies in memory. -/
import Derived.Test.YtnmmhcchpcbeeaaGreatDoorGtEd
import Derived.Test.YtnmmhcchpcbeeaaGreatDoorGtNb
import Derived.Test.YtnmmhcchpcbeeaaGreatDoorGtR
import Derived.Test.YtnmmhcchpcbeeaaGreatDoorGtD
import Derived.Test.YtnmmhcchpcbeeaaGreatDoorAwk
import Derived.Test.YtnmmhcchpcbeeaaGreatDoorGtFe
import Derived.Test.YtnmmhcchpcbeeaaGreatDoorGtYb
import Derived.Test.YtnmmhcchpcbeeaaGreatDoorGtYc
import Derived.Test.YtnmmhcchpcbeeaaGreatDoorGtYd
import Derived.Test.YtnmmhcchpcbeeaaGreatDoorGtEe
import Derived.Test.YtnmmhcchpcbeeaaGreatDoorGtHb

namespace Go.Proofs.YtnmmhcchpcbeeaaGreatDoor.GtW
open Go Go.RowKit Go.Proofs.YtnmmhcchpcbeeaaGreatDoor.Mem Go.Proofs.YtnmmhcchpcbeeaaGreatDoor.Gt Go.Proofs.YtnmmhcchpcbeeaaGreatDoor.Ge
open Go.Proofs.YtnmmhcchpcbeeaaGreatDoor.GeW (EntV entVals PtsIn Ents)
attribute [local go_sem ↓] Go.wp_at_zero Go.wp_at_succ
set_option maxRecDepth 100000 in
set_option maxHeartbeats 4000000 in
theorem encode_law (es : List EntV) (A : Option Addr) (c : Nat) (w : World) (hG : Glob w) (h : EntsRaw w A es) :
  Calls Tryz.prog 5 #[.slice A es.length c] w fun e w' => e = .returned (.bool true) ∧ Below w.heap.size w w' := by
 have HAW := Lib.hid (GeW.awake_any w)
 have HGG := Lib.hid hG
 have HR := Lib.hid h
 have HF := Lib.hid (fun W hW => few_any 201 es A c W hW)
 have HRV := Lib.hid (fun W hW => rdrawOk_any es A c W hW)
 have HOW := Lib.hid (fun W hW hn => own_all es A c W hW hn)
 have HEN := Lib.hid (fun B d W hW hE hn => encode_any es B d W hW hE hn)
 have HRE := Lib.hid (fun W hE hn => rencode_any es A c W hE hn)
 have HVA := Lib.hid (fun B d W hE => GeW.drawOk_any es B d W hE)
 rw [show GeW.ents es = es.map EntV.e from rfl] at HVA
 have HLA := Lib.hid (fun B d W hE hn => layers_any es B d W hE hn)
 have HRL := Lib.hid (fun W hE hn => rlayers_any es A c W hE hn)
 have HLL := Lib.hid (lays_len (es.map EntV.e))
 have HST := Lib.hid (fun B C x y W h1 h2 hl => rtexts_one (lays (es.map EntV.e)) B C x y W h1 h2 hl)
 have HSM := Lib.hid (fun h hl => @enc_small (es.map EntV.e) h hl)
 have HDE := Lib.hid (fun h => @dec_enc (es.map EntV.e) h)
 obtain ⟨DK, HDK⟩ : ∃ DK, Hid (drawOk (es.map EntV.e) = DK) := ⟨_, Lib.hid rfl⟩
 rw [HDK.out] at HRV HEN HRE HVA HSM HDE
 generalize lays (es.map EntV.e) = LL at *
 clear hG h
 go_enter Tryz.func5, Tryz.ntmps5
 go_wp2_with fail
 refine HAW.out.mono ?_
 rintro e w1 ⟨rfl, hb1⟩
 have HB1 := Lib.hid hb1
 clear hb1 HAW
 go_wp2_with fail
 refine (HF.out w1 (HR.out.below HB1.out)).mono ?_
 rintro e w2 ⟨⟨b, rfl, hfew⟩, hb2⟩
 have HB2 := Lib.hid (HB1.out.trans (hb2.mono HB1.out.size))
 have HFW := Lib.hid hfew
 clear hb2 hfew HF
 cases b
 ·go_wp2
  go_ret
  exact ⟨rfl, HB2.out⟩
 have hfe := HFW.out rfl
 have HE2 := Lib.hid ((HR.out.below HB2.out).few hfe (by omega))
 have h201 := hfe.2
 have HFE := Lib.hid hfe
 clear hfe HFW HR
 by_cases hmid : 30 < es.length ∧ es.length < 200
 ·have d1 : decide ((30 : Int) < (es.length : Int)) = true := decide_eq_true (by omega)
  have d2 : decide ((es.length : Int) < 200) = true := decide_eq_true (by omega)
  go_wp2
  go_ret
  exact ⟨rfl, HB2.out⟩
 have HMID : Hid ((decide ((30 : Int) < (es.length : Int)) && decide ((es.length : Int) < 200)) = false) := Lib.hid (by
  rw [Bool.and_eq_false_iff]
  rcases Nat.lt_or_ge 30 es.length with h | h
  ·exact .inr (decide_eq_false (by omega))
  ·exact .inl (decide_eq_false (by omega)))
 obtain ⟨T, HT⟩ : ∃ T, Hid ((if DK = true then enc (es.map EntV.e) else []) = T) := ⟨_, Lib.hid rfl⟩
 obtain ⟨E, HE⟩ : ∃ E : Int, Hid ((if DK = true then (0 : Int) else 1) = E) := ⟨_, Lib.hid rfl⟩
 have HTL : Hid (T.length ≤ 1000000) := Lib.hid (by
  rw [← HT.out]
  cases DK
  ·simp
  ·have := (HSM.out rfl (fun y hy => by
    obtain ⟨q, hq, rfl⟩ := List.mem_map.1 hy
    exact (HFE.out.1 q hq).2)).1
   rw [List.length_map] at this
   simp only [if_true]
   omega)
 rw [HT.out, HE.out] at HEN HRE
 have HDC := Lib.hid (fun W hW => decode_any T HTL.out W hW)
 have HDT : Hid (DK = true → dec T = (es.map EntV.e, 0, 0)) := Lib.hid (fun h => by rw [← HT.out, if_pos h]; exact HDE.out h)
 have HEK : Hid (DK = true → E = 0) := Lib.hid (fun h => by rw [← HE.out, if_pos h])
 have HEN0 : Hid (DK = false → E = 1) := Lib.hid (fun h => by rw [← HE.out, h]; rfl)
 clear HSM HDE HT HE HFE HDK HTL
 obtain ⟨TB, HTB⟩ : ∃ TB, Hid (ByteArray.mk T.toArray = TB) := ⟨_, Lib.hid rfl⟩
 rw [HTB.out] at HEN HRE HDC
 have b1 : (TB == TB) = true := ba_self TB
 have n1 : (TB != TB) = false := by unfold bne; rw [b1]; rfl
 have n2 : (E != E) = false := bne_self_eq_false E
 have n3 : (DK != DK) = false := bne_self_eq_false DK
 rcases Nat.lt_or_ge 30 es.length with hm | hm
 ·have d1 : decide ((30 : Int) < (es.length : Int)) = true := decide_eq_true (by omega)
  have d2 : decide ((es.length : Int) < 200) = false := decide_eq_false (by omega)
  go_wp2_with fail
  refine (HOW.out w2 HE2.out (by omega)).mono ?_
  rintro e w3 ⟨B, d, rfl, hx3, hb3⟩
  have HB3 := Lib.hid (HB2.out.trans (hb3.mono HB2.out.size))
  have HP3 := Lib.hid hx3
  have HE3 := Lib.hid (HE2.out.below hb3)
  clear hb3 hx3 HE2
  go_wp2_with fail
  refine (HEN.out B d w3 (HGG.out.below HB3.out) HP3.out (by omega)).mono ?_
  rintro e w4 ⟨rfl, hb4⟩
  have HB4 := Lib.hid (HB3.out.trans (hb4.mono HB3.out.size))
  have HE4 := Lib.hid (HE3.out.below hb4)
  clear hb4 HEN HE3 HP3
  go_wp2_with fail
  refine (HRE.out w4 HE4.out (by omega)).mono ?_
  rintro e w5 ⟨rfl, hb5⟩
  have HB5 := Lib.hid (HB4.out.trans (hb5.mono HB4.out.size))
  have HE5 := Lib.hid (HE4.out.below hb5)
  clear hb5 HRE HE4
  go_wp2_with fail
  refine (HOW.out w5 HE5.out (by omega)).mono ?_
  rintro e w6 ⟨B6, d6, rfl, hx6, hb6⟩
  have HB6 := Lib.hid (HB5.out.trans (hb6.mono HB5.out.size))
  have HP6 := Lib.hid hx6
  have HE6 := Lib.hid (HE5.out.below hb6)
  clear hb6 hx6 HE5
  go_wp2_with fail
  refine (HVA.out B6 d6 w6 HP6.out).mono ?_
  rintro e w7 ⟨rfl, hb7⟩
  have HB7 := Lib.hid (HB6.out.trans (hb7.mono HB6.out.size))
  have HE7 := Lib.hid (HE6.out.below hb7)
  clear hb7 HVA HE6 HP6
  go_wp2_with fail
  refine (HRV.out w7 HE7.out).mono ?_
  rintro e w8 ⟨rfl, hb8⟩
  have HB8 := Lib.hid (HB7.out.trans (hb8.mono HB7.out.size))
  have HE8 := Lib.hid (HE7.out.below hb8)
  clear hb8 HRV HE7
  go_wp2_with fail
  refine (HOW.out w8 HE8.out (by omega)).mono ?_
  rintro e w9 ⟨B9, d9, rfl, hx9, hb9⟩
  have HB9 := Lib.hid (HB8.out.trans (hb9.mono HB8.out.size))
  have HP9 := Lib.hid hx9
  have HE9 := Lib.hid (HE8.out.below hb9)
  clear hb9 hx9 HE8
  go_wp2_with fail
  refine (HLA.out B9 d9 w9 HP9.out (by omega)).mono ?_
  rintro e w10 ⟨Y1, k1, rfl, hy1, hb10⟩
  have HB10 := Lib.hid (HB9.out.trans (hb10.mono HB9.out.size))
  have HE10 := Lib.hid (HE9.out.below hb10)
  have HY1 := Lib.hid hy1
  clear hb10 HLA HE9 HP9 hy1
  go_wp2_with fail
  refine (HRL.out w10 HE10.out (by omega)).mono ?_
  rintro e w11 ⟨Y2, k2, rfl, hy2, hb11⟩
  have HB11 := Lib.hid (HB10.out.trans (hb11.mono HB10.out.size))
  have HE11 := Lib.hid (HE10.out.below hb11)
  have HY2 := Lib.hid hy2
  have HY1b := Lib.hid (HY1.out.below hb11)
  clear hb11 HRL HE10 hy2 HY1
  go_wp2_with fail
  refine (HST.out Y1 Y2 k1 k2 w11 HY1b.out HY2.out (by have := HLL.out; omega)).mono ?_
  rintro e w12 ⟨rfl, hb12⟩
  have HB12 := Lib.hid (HB11.out.trans (hb12.mono HB11.out.size))
  have HE12 := Lib.hid (HE11.out.below hb12)
  clear hb12 HST HE11 HY1b HY2 HLL
  go_wp2_with fail
  refine (HDC.out w12 (HGG.out.below HB12.out)).mono ?_
  rintro e w13 ⟨A13, d13, xs, rfl, hm13, hx13, hb13⟩
  have HB13 := Lib.hid (HB12.out.trans (hb13.mono HB12.out.size))
  have HX13 := Lib.hid hx13
  have HE13 := Lib.hid (HE12.out.below hb13)
  have HM := Lib.hid hm13
  clear hb13 hx13 HE12 HDC hm13
  cases DK
  ·have he := HEN0.out rfl
   subst he
   go_wp2
   go_ret
   exact ⟨rfl, HB13.out⟩
  ·have he := HEK.out rfl
   subst he
   have hdt := HDT.out rfl
   rw [hdt] at HM ⊢
   clear hdt
   simp only at HM ⊢
   have hl1 : xs.length ≤ 1000 := by have h1 := congrArg List.length HM.out; rw [List.length_map, List.length_map] at h1; omega
   go_wp2_with fail
   refine (theirs_all xs A13 d13 w13 HX13.out hl1).mono ?_
   rintro e w14 ⟨A14, d14, rfl, hx14, hb14⟩
   have HB14 := Lib.hid (HB13.out.trans (hb14.mono HB13.out.size))
   have HX14 := Lib.hid hx14
   have HE14 := Lib.hid (HE13.out.below hb14)
   clear hb14 hx14
   go_wp2_with fail
   refine (sameEnts_eq xs es A14 A d14 c w14 HX14.out HE14.out HM.out).mono ?_
   rintro e w15 ⟨rfl, hb15⟩
   go_wp2
   go_ret
   exact ⟨rfl, HB14.out.trans (hb15.mono HB14.out.size)⟩
 ·have d1 : decide ((30 : Int) < (es.length : Int)) = false := decide_eq_false (by omega)
  go_wp2_with fail
  refine (HOW.out w2 HE2.out (by omega)).mono ?_
  rintro e w3 ⟨B, d, rfl, hx3, hb3⟩
  have HB3 := Lib.hid (HB2.out.trans (hb3.mono HB2.out.size))
  have HP3 := Lib.hid hx3
  have HE3 := Lib.hid (HE2.out.below hb3)
  clear hb3 hx3 HE2
  go_wp2_with fail
  refine (HEN.out B d w3 (HGG.out.below HB3.out) HP3.out (by omega)).mono ?_
  rintro e w4 ⟨rfl, hb4⟩
  have HB4 := Lib.hid (HB3.out.trans (hb4.mono HB3.out.size))
  have HE4 := Lib.hid (HE3.out.below hb4)
  clear hb4 HEN HE3 HP3
  go_wp2_with fail
  refine (HRE.out w4 HE4.out (by omega)).mono ?_
  rintro e w5 ⟨rfl, hb5⟩
  have HB5 := Lib.hid (HB4.out.trans (hb5.mono HB4.out.size))
  have HE5 := Lib.hid (HE4.out.below hb5)
  clear hb5 HRE HE4
  go_wp2_with fail
  refine (HOW.out w5 HE5.out (by omega)).mono ?_
  rintro e w6 ⟨B6, d6, rfl, hx6, hb6⟩
  have HB6 := Lib.hid (HB5.out.trans (hb6.mono HB5.out.size))
  have HP6 := Lib.hid hx6
  have HE6 := Lib.hid (HE5.out.below hb6)
  clear hb6 hx6 HE5
  go_wp2_with fail
  refine (HVA.out B6 d6 w6 HP6.out).mono ?_
  rintro e w7 ⟨rfl, hb7⟩
  have HB7 := Lib.hid (HB6.out.trans (hb7.mono HB6.out.size))
  have HE7 := Lib.hid (HE6.out.below hb7)
  clear hb7 HVA HE6 HP6
  go_wp2_with fail
  refine (HRV.out w7 HE7.out).mono ?_
  rintro e w8 ⟨rfl, hb8⟩
  have HB8 := Lib.hid (HB7.out.trans (hb8.mono HB7.out.size))
  have HE8 := Lib.hid (HE7.out.below hb8)
  clear hb8 HRV HE7
  go_wp2_with fail
  refine (HOW.out w8 HE8.out (by omega)).mono ?_
  rintro e w9 ⟨B9, d9, rfl, hx9, hb9⟩
  have HB9 := Lib.hid (HB8.out.trans (hb9.mono HB8.out.size))
  have HP9 := Lib.hid hx9
  have HE9 := Lib.hid (HE8.out.below hb9)
  clear hb9 hx9 HE8
  go_wp2_with fail
  refine (HLA.out B9 d9 w9 HP9.out (by omega)).mono ?_
  rintro e w10 ⟨Y1, k1, rfl, hy1, hb10⟩
  have HB10 := Lib.hid (HB9.out.trans (hb10.mono HB9.out.size))
  have HE10 := Lib.hid (HE9.out.below hb10)
  have HY1 := Lib.hid hy1
  clear hb10 HLA HE9 HP9 hy1
  go_wp2_with fail
  refine (HRL.out w10 HE10.out (by omega)).mono ?_
  rintro e w11 ⟨Y2, k2, rfl, hy2, hb11⟩
  have HB11 := Lib.hid (HB10.out.trans (hb11.mono HB10.out.size))
  have HE11 := Lib.hid (HE10.out.below hb11)
  have HY2 := Lib.hid hy2
  have HY1b := Lib.hid (HY1.out.below hb11)
  clear hb11 HRL HE10 hy2 HY1
  go_wp2_with fail
  refine (HST.out Y1 Y2 k1 k2 w11 HY1b.out HY2.out (by have := HLL.out; omega)).mono ?_
  rintro e w12 ⟨rfl, hb12⟩
  have HB12 := Lib.hid (HB11.out.trans (hb12.mono HB11.out.size))
  have HE12 := Lib.hid (HE11.out.below hb12)
  clear hb12 HST HE11 HY1b HY2 HLL
  go_wp2_with fail
  refine (HDC.out w12 (HGG.out.below HB12.out)).mono ?_
  rintro e w13 ⟨A13, d13, xs, rfl, hm13, hx13, hb13⟩
  have HB13 := Lib.hid (HB12.out.trans (hb13.mono HB12.out.size))
  have HX13 := Lib.hid hx13
  have HE13 := Lib.hid (HE12.out.below hb13)
  have HM := Lib.hid hm13
  clear hb13 hx13 HE12 HDC hm13
  cases DK
  ·have he := HEN0.out rfl
   subst he
   go_wp2
   go_ret
   exact ⟨rfl, HB13.out⟩
  ·have he := HEK.out rfl
   subst he
   have hdt := HDT.out rfl
   rw [hdt] at HM ⊢
   clear hdt
   simp only at HM ⊢
   have hl1 : xs.length ≤ 1000 := by have h1 := congrArg List.length HM.out; rw [List.length_map, List.length_map] at h1; omega
   go_wp2_with fail
   refine (theirs_all xs A13 d13 w13 HX13.out hl1).mono ?_
   rintro e w14 ⟨A14, d14, rfl, hx14, hb14⟩
   have HB14 := Lib.hid (HB13.out.trans (hb14.mono HB13.out.size))
   have HX14 := Lib.hid hx14
   have HE14 := Lib.hid (HE13.out.below hb14)
   clear hb14 hx14
   go_wp2_with fail
   refine (sameEnts_eq xs es A14 A d14 c w14 HX14.out HE14.out HM.out).mono ?_
   rintro e w15 ⟨rfl, hb15⟩
   go_wp2
   go_ret
   exact ⟨rfl, HB14.out.trans (hb15.mono HB14.out.size)⟩
end Go.Proofs.YtnmmhcchpcbeeaaGreatDoor.GtW
