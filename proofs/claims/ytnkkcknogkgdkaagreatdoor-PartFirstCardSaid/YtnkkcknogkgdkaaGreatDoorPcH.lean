/- Walk: PartFirst at any two strings. Conditions: none. -/
import Derived.Test.YtnkkcknogkgdkaaGreatDoorPaP2
import Derived.Test.YtnkkcknogkgdkaaGreatDoorPfA
import Derived.Test.YtnkkcknogkgdkaaGreatDoorLexW11
import Derived.Test.YtnkkcknogkgdkaaGreatDoorPcE
import Derived.Test.YtnkkcknogkgdkaaGreatDoorPcF

namespace Go.Proofs.YtnkkcknogkgdkaaGreatDoor.PaW
open Go Go.RowKit Go.Proofs.YtnkkcknogkgdkaaGreatDoor.Mem Go.Proofs.YtnkkcknogkgdkaaGreatDoor.Pa
open Go.Proofs.YtnkkcknogkgdkaaGreatDoor.Ge (V)
open Go.Proofs.YtnkkcknogkgdkaaGreatDoor.Lex (Tok)
open Go.Proofs.YtnkkcknogkgdkaaGreatDoor.LexW (tokCells)
attribute [local go_sem ↓] Go.wp_at_zero Go.wp_at_succ

open Go.Proofs.YtnkkcknogkgdkaaGreatDoor.LexW (tokens_any rtokens_any TokensPost toksCells)
/-- What awake answers. -/
def Awake : Prop := ∀ W : World, Calls Tryz.prog 12 #[] W fun e w' => e = .returned (.bool true) ∧ Below W.heap.size W w'
set_option maxRecDepth 100000 in
set_option maxHeartbeats 4000000 in
theorem partFirst_walk (haw : Awake) (s tail : List UInt8) (w : World) : Calls Tryz.prog 7 #[.string ⟨s.toArray⟩, .string ⟨tail.toArray⟩] w fun e w' => e = .returned (.bool true) ∧ Below w.heap.size w w' := by
 have HAW := Lib.hid haw
 have hs1 := str_size s
 have hs2 := str_size tail
 have HT : Hid (∀ W, Calls Tryz.prog 26 #[.string ⟨s.toArray⟩] W (TokensPost 69 W (Lex.tokens s))) := Lib.hid (fun W => tokens_any ⟨s.toArray⟩ W)
 have HP := Lib.hid (fun W => parse_any s W)
 have HTX : Hid (∀ (x : List UInt8) W, Calls Tryz.prog 27 #[.string ⟨x.toArray⟩] W (TokensPost 118 W (Lex.tokens x))) := Lib.hid (fun x W => rtokens_any ⟨x.toArray⟩ W)
 have HPX := Lib.hid (fun x W => parse_any x W)
 have HSD : Hid ((ByteArray.mk s.toArray).data.toList = s) := Lib.hid rfl
 have HTD : Hid ((ByteArray.mk tail.toArray).data.toList = tail) := Lib.hid rfl
 clear haw
 by_cases h1 : s.length ≤ 1500 ∧ tail.length ≤ 1500
 case neg =>
  clear HT HP HTX HPX HSD HTD
  generalize ByteArray.mk s.toArray = SB at *
  generalize ByteArray.mk tail.toArray = TB at *
  by_cases hl1 : s.length ≤ 1500
  ·have g1 : (1500 < (s.length : Int)) = False := eq_false (by omega)
   have g2 : (1500 < (tail.length : Int)) = True := eq_true (by omega)
   go_enter Tryz.func7, Tryz.ntmps7
   go_wp2_with fail
   refine (HAW.out _).mono ?_
   rintro e w1 ⟨rfl, hb1⟩
   go_wp2
   go_ret
   exact ⟨rfl, hb1⟩
  ·have g1 : (1500 < (s.length : Int)) = True := eq_true (by omega)
   go_enter Tryz.func7, Tryz.ntmps7
   go_wp2_with fail
   refine (HAW.out _).mono ?_
   rintro e w1 ⟨rfl, hb1⟩
   go_wp2
   go_ret
   exact ⟨rfl, hb1⟩
 case pos =>
 obtain ⟨hl1, hl2⟩ := h1
 obtain ⟨SB, HSB⟩ : ∃ SB, Hid (ByteArray.mk s.toArray = SB) := ⟨_, Lib.hid rfl⟩
 obtain ⟨TB, HTB⟩ : ∃ TB, Hid (ByteArray.mk tail.toArray = TB) := ⟨_, Lib.hid rfl⟩
 rw [HSB.out] at hs1 HT HP HSD
 rw [HTB.out] at hs2 HTD
 rw [HSB.out, HTB.out]
 have g1 : (1500 < (SB.size : Int)) = False := eq_false (by omega)
 have g2 : (1500 < (TB.size : Int)) = False := eq_false (by omega)
 go_enter Tryz.func7, Tryz.ntmps7
 go_wp2_with fail
 refine (HAW.out _).mono ?_
 rintro e w1 ⟨rfl, hb1⟩
 go_wp2_with fail
 refine (HT.out _).mono ?_
 rintro e w2 ⟨v2, rfl, hown2, hb2⟩
 obtain ⟨A2, c2, rfl, _⟩ := own_shape hown2
 have HR2 : Hid (Row w2 A2 ((Lex.tokens s).toks.flatMap tokCells)) := Lib.hid (Row.of_own hown2)
 have HB2 := Lib.hid (hb1.trans (hb2.mono hb1.size))
 clear hown2 hb1 hb2 HT
 go_wp2_with fail
 refine (HP.out _).mono ?_
 rintro e w3 ⟨ms, A3, d3, hms, rfl, hd3, hm3, hin3, hb3⟩
 have HR3 := Lib.hid (HR2.out.below hb3)
 have HB3 := Lib.hid (HB2.out.trans (hb3.mono HB2.out.size))
 clear hb3 HR2 HB2 HP hms hd3 hm3 hin3
 have HFC := Lib.hid (fun e hR hf h23 ha => @first_case s e hR hf h23 ha)
 have HAS : Hid ((Lex.tokens s).err = 0 → Asc (Lex.tokens s).toks ∧ (∀ j (h : j < (Lex.tokens s).toks.length), (Lex.tokens s).toks[j].pos ≤ s.length) ∧ Lex.tokens s = Lex.lex s 0) := Lib.hid (fun h0 => by
  have e1 : Lex.tokens s = Lex.lex s 0 := by unfold Lex.tokens; rw [if_neg (by omega)]
  rw [e1] at h0 ⊢
  have := Lex.lex_offs h0
  exact ⟨okFrom_asc _ _ this, okFrom_le _ _ this, rfl⟩)
 have HFX := Lib.hid (fun k e T => @parse_first s tail k e T hl1 hl2)
 have hlen := tokens_len s
 generalize Lex.tokens s = R at *
 obtain ⟨toks, pos, err⟩ := R
 generalize hpp : parse s = pp at *
 clear hpp
 obtain ⟨pl, pa, pe⟩ := pp
 simp only at HR3 HFC HAS hlen
 go_upto_region 7 with fail
 by_cases he : err = 0
 case neg =>
  have n1 : (err != 0) = true := bne_iff_ne.2 he
  clear HFC HAS HFX
  go_wp2
  go_ret
  exact ⟨rfl, HB3.out⟩
 case pos =>
 subst he
 have n1 : ((0 : Int) != 0) = false := rfl
 by_cases h3 : pe = 3 ∨ pe = 2
 case neg =>
  have n3 : (pe != 3) = true := bne_iff_ne.2 (fun h => h3 (.inl h))
  have n2 : (pe != 2) = true := bne_iff_ne.2 (fun h => h3 (.inr h))
  clear HFC HAS HFX
  go_wp2
  go_ret
  exact ⟨rfl, HB3.out⟩
 case pos =>
 by_cases ha : pa < s.length
 case neg =>
  have d1 : ((SB.size : Int) ≤ (pa : Int)) = True := eq_true (by omega)
  clear HFC HAS HFX
  rcases h3 with rfl | rfl
  ·have n3 : ((3 : Int) != 3) = false := rfl
   go_wp2
   go_ret
   exact ⟨rfl, HB3.out⟩
  ·have n3 : ((2 : Int) != 3) = true := rfl
   have n2 : ((2 : Int) != 2) = false := rfl
   go_wp2
   go_ret
   exact ⟨rfl, HB3.out⟩
 case pos =>
 have d1 : ((SB.size : Int) ≤ (pa : Int)) = False := eq_false (by omega)
 obtain ⟨k, T, hpk, hT, hpe⟩ := HFC.out pe rfl rfl h3 ha
 obtain ⟨hasc, hle, hlx⟩ := HAS.out rfl
 have HLX : Hid (Lex.lex s 0 = ⟨toks, pos, 0⟩) := Lib.hid hlx.symm
 have HPK := Lib.hid hpk
 have HTK := Lib.hid hT
 have HPE : Hid (pa = T.pos) := Lib.hid (by injection hpe with _ h; injection h)
 have HASC := Lib.hid hasc
 have HLE := Lib.hid hle
 have hkl := (List.getElem?_eq_some_iff.1 hT).1
 have HTP : Hid (toks[k].pos = pa) := Lib.hid (by rw [HPE.out, (List.getElem?_eq_some_iff.1 hT).2])
 clear hpk hT hpe hasc hle hlx HFC HAS
 have H23 := Lib.hid h3
 rcases h3 with rfl | rfl
 ·have n3 : ((3 : Int) != 3) = false := rfl
  go_upto_region 9 with fail
  have hw1 : IntKind.i64.wrap ((toks.length : Int) - 1) = ((toks.length - 1 : Nat) : Int) := by rw [wrapEq]; unfold wrap64; omega
  go_upto_region 11 with fail
  clear n1 n3 d1
  obtain ⟨g, off, rfl, hg, ca⟩ := row_get tok_len (by decide) HR3.out (by omega)
  have HCA := Lib.hid ca
  clear ca
  go_loopw [11, 12] (fun ve vi wr => ∃ i : Nat, k ≤ i ∧ i < toks.length ∧ vi = .int .i64 (i : Int) ∧ ve = .int .i64 (endAt toks s.length i : Int) ∧ wr = w3) (fun _ vi _ => (intOf vi).toNat)
  case atStart => exact ⟨toks.length - 1, by omega, by omega, rfl, by unfold endAt; rw [List.getElem?_eq_none (by omega)], rfl⟩
  case round =>
   obtain ⟨i, hki, hil, rfl, rfl, rfl⟩ := hrel
   have a3 := HCA.out i hil 3 (by decide)
   have HI := Lib.hid (HASC.out k i)
   have HEN : Hid (0 < i → endAt toks s.length (i - 1) = toks[i].pos) := Lib.hid (fun h0 => by
    unfold endAt
    rw [show i - 1 + 1 = i by omega, List.getElem?_eq_getElem hil])
   simp only [tokCells, List.getElem?_cons_zero, List.getElem?_cons_succ] at a3
   have hi1 : (0 : Int) ≤ (i : Int) := by omega
   have hi2 : (i : Int) < (toks.length : Int) := by omega
   by_cases hik : k < i
   ·have hgt : ((pa : Int) < (toks[i].pos : Int)) = True := eq_true (by have := HI.out hik hil; have := HTP.out; omega)
    have hdc : decide ((pa : Int) < (toks[i].pos : Int)) = true := decide_eq_true (by have := HI.out hik hil; have := HTP.out; omega)
    have hw2 : IntKind.i64.wrap ((i : Int) - 1) = ((i - 1 : Nat) : Int) := by rw [wrapEq]; unfold wrap64; omega
    have hen := HEN.out (by omega)
    clear HI HEN
    go_wp2
    go_roundw
    case rel => exact ⟨i - 1, by omega, by omega, rfl, by rw [hen], by trivial⟩
    case measure => simp [intOf]; omega
   ·obtain rfl : i = k := by omega
    have hgt : ((pa : Int) < (toks[i].pos : Int)) = False := eq_false (by have := HTP.out; omega)
    have hdc : decide ((pa : Int) < (toks[i].pos : Int)) = false := decide_eq_false (by have := HTP.out; omega)
    clear HI HEN
    have HNE : Hid (endAt toks s.length i ≤ s.length) := Lib.hid (by
     unfold endAt
     cases hx : toks[i + 1]? with
     | none => simp only; omega
     | some t =>
      obtain ⟨h1, h2⟩ := List.getElem?_eq_some_iff.1 hx
      simp only
      rw [← h2]
      exact HLE.out _ h1)
    have HEQ : Hid (endAt toks s.length i = match toks[i + 1]? with | some t => t.pos | none => s.length) := Lib.hid rfl
    generalize endAt toks s.length i = n at *
    have hn0 : (0 : Int) ≤ (n : Int) := by omega
    have hn1 := HNE.out
    have hn2 : n ≤ SB.size := by omega
    have hn3 : (n : Int) ≤ (SB.size : Int) := by omega
    have hn4 : (n : Int) ≤ (s.length : Int) := by omega
    have HX : Hid (ByteArray.mk (s.take n ++ 10 :: tail).toArray = SB.extract 0 n ++ ⟨#[10]⟩ ++ TB) := Lib.hid (by
     apply ByteArray.ext
     apply Array.ext'
     have h1 : (SB.extract 0 n).data.toList = s.take n := by rw [Go.Proofs.YtnkkcknogkgdkaaGreatDoor.LexW.extract_list, HSD.out]; simp
     simp only [ByteArray.data_append, Array.toList_append, h1, HTD.out]
     simp)
    have HTY : Hid (∀ W, Calls Tryz.prog 27 #[.string (SB.extract 0 n ++ ⟨#[10]⟩ ++ TB)] W (TokensPost 118 W (Lex.tokens (s.take n ++ 10 :: tail)))) := Lib.hid (fun W => by have := HTX.out (s.take n ++ 10 :: tail) W; rw [HX.out] at this; exact this)
    have HPY : Hid (∀ W, Calls Tryz.prog 13 #[.string (SB.extract 0 n ++ ⟨#[10]⟩ ++ TB)] W (ParQ (parse (s.take n ++ 10 :: tail)) W)) := Lib.hid (fun W => by have := HPX.out (s.take n ++ 10 :: tail) W; rw [HX.out] at this; exact this)
    have HFIN : Hid ((Lex.tokens (s.take n ++ 10 :: tail)).err = 0 → parse (s.take n ++ 10 :: tail) = ([], pa, 3)) := Lib.hid (fun h0 => by
     have e1 : Lex.tokens (s.take n ++ 10 :: tail) = Lex.lex (s.take n ++ 10 :: tail) 0 := by unfold Lex.tokens; rw [if_neg (by simp; omega)]
     rw [e1] at h0
     have hk := HPK.out
     have ht := HTK.out
     have hl := HLX.out
     have := HFX.out i 3 T (by rw [hl]) (by rw [hl]; exact hk) (by rw [hl]; exact ht) n (by rw [hl]; exact HEQ.out) h0
     rw [this, HPE.out])
    have hz1 : (9223372036854775807 < (SB.extract 0 n).size + 1) = False := eq_false (by rw [ByteArray.size_extract]; omega)
    have hz2 : (9223372036854775807 < (SB.extract 0 n).size + 1 + TB.size) = False := eq_false (by rw [ByteArray.size_extract]; omega)
    go_upto_region 14 with fail
    clear HX HTX HPX HFX HPK HTK HLX HEQ HNE HASC HLE HCA a3 HTP HPE H23 hgt hdc HSD HTD HSB HTB
    go_wp2_with fail
    generalize SB.extract 0 n ++ ⟨#[10]⟩ ++ TB = XB at *
    generalize parse (s.take n ++ 10 :: tail) = pp at *
    generalize Lex.tokens (s.take n ++ 10 :: tail) = RX at *
    obtain ⟨xt, xp, xe⟩ := RX
    refine (HTY.out _).mono ?_
    rintro e w4 ⟨v4, rfl, hown4, hb4⟩
    have HB4 := Lib.hid (HB3.out.trans (hb4.mono HB3.out.size))
    clear hb4 hown4
    by_cases hxe : xe = 0
    case neg =>
     have m1 : (xe != 0) = true := bne_iff_ne.2 hxe
     go_wp2
     go_ret
     exact ⟨rfl, HB4.out⟩
    case pos =>
    have m1 : (xe != 0) = false := by rw [hxe]; rfl
    have hfin := HFIN.out hxe
    subst hfin
    go_wp2_with fail
    refine (HPY.out _).mono ?_
    rintro e w5 ⟨ms5, A5, d5, _, rfl, _, _, _, hb5⟩
    have HB5 := Lib.hid (HB4.out.trans (hb5.mono HB4.out.size))
    clear hb5
    go_wp2
    go_ret
    exact ⟨by simp, HB5.out⟩
 ·have n3 : ((2 : Int) != 3) = true := rfl
  have n2 : ((2 : Int) != 2) = false := rfl
  go_upto_region 9 with fail
  have hw1 : IntKind.i64.wrap ((toks.length : Int) - 1) = ((toks.length - 1 : Nat) : Int) := by rw [wrapEq]; unfold wrap64; omega
  go_upto_region 11 with fail
  clear n1 n3 d1
  obtain ⟨g, off, rfl, hg, ca⟩ := row_get tok_len (by decide) HR3.out (by omega)
  have HCA := Lib.hid ca
  clear ca
  go_loopw [11, 12] (fun ve vi wr => ∃ i : Nat, k ≤ i ∧ i < toks.length ∧ vi = .int .i64 (i : Int) ∧ ve = .int .i64 (endAt toks s.length i : Int) ∧ wr = w3) (fun _ vi _ => (intOf vi).toNat)
  case atStart => exact ⟨toks.length - 1, by omega, by omega, rfl, by unfold endAt; rw [List.getElem?_eq_none (by omega)], rfl⟩
  case round =>
   obtain ⟨i, hki, hil, rfl, rfl, rfl⟩ := hrel
   have a3 := HCA.out i hil 3 (by decide)
   have HI := Lib.hid (HASC.out k i)
   have HEN : Hid (0 < i → endAt toks s.length (i - 1) = toks[i].pos) := Lib.hid (fun h0 => by
    unfold endAt
    rw [show i - 1 + 1 = i by omega, List.getElem?_eq_getElem hil])
   simp only [tokCells, List.getElem?_cons_zero, List.getElem?_cons_succ] at a3
   have hi1 : (0 : Int) ≤ (i : Int) := by omega
   have hi2 : (i : Int) < (toks.length : Int) := by omega
   by_cases hik : k < i
   ·have hgt : ((pa : Int) < (toks[i].pos : Int)) = True := eq_true (by have := HI.out hik hil; have := HTP.out; omega)
    have hdc : decide ((pa : Int) < (toks[i].pos : Int)) = true := decide_eq_true (by have := HI.out hik hil; have := HTP.out; omega)
    have hw2 : IntKind.i64.wrap ((i : Int) - 1) = ((i - 1 : Nat) : Int) := by rw [wrapEq]; unfold wrap64; omega
    have hen := HEN.out (by omega)
    clear HI HEN
    go_wp2
    go_roundw
    case rel => exact ⟨i - 1, by omega, by omega, rfl, by rw [hen], by trivial⟩
    case measure => simp [intOf]; omega
   ·obtain rfl : i = k := by omega
    have hgt : ((pa : Int) < (toks[i].pos : Int)) = False := eq_false (by have := HTP.out; omega)
    have hdc : decide ((pa : Int) < (toks[i].pos : Int)) = false := decide_eq_false (by have := HTP.out; omega)
    clear HI HEN
    have HNE : Hid (endAt toks s.length i ≤ s.length) := Lib.hid (by
     unfold endAt
     cases hx : toks[i + 1]? with
     | none => simp only; omega
     | some t =>
      obtain ⟨h1, h2⟩ := List.getElem?_eq_some_iff.1 hx
      simp only
      rw [← h2]
      exact HLE.out _ h1)
    have HEQ : Hid (endAt toks s.length i = match toks[i + 1]? with | some t => t.pos | none => s.length) := Lib.hid rfl
    generalize endAt toks s.length i = n at *
    have hn0 : (0 : Int) ≤ (n : Int) := by omega
    have hn1 := HNE.out
    have hn2 : n ≤ SB.size := by omega
    have hn3 : (n : Int) ≤ (SB.size : Int) := by omega
    have hn4 : (n : Int) ≤ (s.length : Int) := by omega
    have HX : Hid (ByteArray.mk (s.take n ++ 10 :: tail).toArray = SB.extract 0 n ++ ⟨#[10]⟩ ++ TB) := Lib.hid (by
     apply ByteArray.ext
     apply Array.ext'
     have h1 : (SB.extract 0 n).data.toList = s.take n := by rw [Go.Proofs.YtnkkcknogkgdkaaGreatDoor.LexW.extract_list, HSD.out]; simp
     simp only [ByteArray.data_append, Array.toList_append, h1, HTD.out]
     simp)
    have HTY : Hid (∀ W, Calls Tryz.prog 27 #[.string (SB.extract 0 n ++ ⟨#[10]⟩ ++ TB)] W (TokensPost 118 W (Lex.tokens (s.take n ++ 10 :: tail)))) := Lib.hid (fun W => by have := HTX.out (s.take n ++ 10 :: tail) W; rw [HX.out] at this; exact this)
    have HPY : Hid (∀ W, Calls Tryz.prog 13 #[.string (SB.extract 0 n ++ ⟨#[10]⟩ ++ TB)] W (ParQ (parse (s.take n ++ 10 :: tail)) W)) := Lib.hid (fun W => by have := HPX.out (s.take n ++ 10 :: tail) W; rw [HX.out] at this; exact this)
    have HFIN : Hid ((Lex.tokens (s.take n ++ 10 :: tail)).err = 0 → parse (s.take n ++ 10 :: tail) = ([], pa, 2)) := Lib.hid (fun h0 => by
     have e1 : Lex.tokens (s.take n ++ 10 :: tail) = Lex.lex (s.take n ++ 10 :: tail) 0 := by unfold Lex.tokens; rw [if_neg (by simp; omega)]
     rw [e1] at h0
     have hk := HPK.out
     have ht := HTK.out
     have hl := HLX.out
     have := HFX.out i 2 T (by rw [hl]) (by rw [hl]; exact hk) (by rw [hl]; exact ht) n (by rw [hl]; exact HEQ.out) h0
     rw [this, HPE.out])
    have hz1 : (9223372036854775807 < (SB.extract 0 n).size + 1) = False := eq_false (by rw [ByteArray.size_extract]; omega)
    have hz2 : (9223372036854775807 < (SB.extract 0 n).size + 1 + TB.size) = False := eq_false (by rw [ByteArray.size_extract]; omega)
    go_upto_region 14 with fail
    clear HX HTX HPX HFX HPK HTK HLX HEQ HNE HASC HLE HCA a3 HTP HPE H23 hgt hdc HSD HTD HSB HTB
    go_wp2_with fail
    generalize SB.extract 0 n ++ ⟨#[10]⟩ ++ TB = XB at *
    generalize parse (s.take n ++ 10 :: tail) = pp at *
    generalize Lex.tokens (s.take n ++ 10 :: tail) = RX at *
    obtain ⟨xt, xp, xe⟩ := RX
    refine (HTY.out _).mono ?_
    rintro e w4 ⟨v4, rfl, hown4, hb4⟩
    have HB4 := Lib.hid (HB3.out.trans (hb4.mono HB3.out.size))
    clear hb4 hown4
    by_cases hxe : xe = 0
    case neg =>
     have m1 : (xe != 0) = true := bne_iff_ne.2 hxe
     go_wp2
     go_ret
     exact ⟨rfl, HB4.out⟩
    case pos =>
    have m1 : (xe != 0) = false := by rw [hxe]; rfl
    have hfin := HFIN.out hxe
    subst hfin
    go_wp2_with fail
    refine (HPY.out _).mono ?_
    rintro e w5 ⟨ms5, A5, d5, _, rfl, _, _, _, hb5⟩
    have HB5 := Lib.hid (HB4.out.trans (hb5.mono HB4.out.size))
    clear hb5
    go_wp2
    go_ret
    exact ⟨by simp, HB5.out⟩
end Go.Proofs.YtnkkcknogkgdkaaGreatDoor.PaW

namespace Go.Proofs.YtnkkcknogkgdkaaGreatDoor.PaW
open Go Go.RowKit Go.Proofs.YtnkkcknogkgdkaaGreatDoor.Mem Go.Proofs.YtnkkcknogkgdkaaGreatDoor.Pa
open Go.Proofs.YtnkkcknogkgdkaaGreatDoor.Ge (V)
open Go.Proofs.YtnkkcknogkgdkaaGreatDoor.Lex (Tok)
open Go.Proofs.YtnkkcknogkgdkaaGreatDoor.LexW (tokCells)
attribute [local go_sem ↓] Go.wp_at_zero Go.wp_at_succ

open Go.Proofs.YtnkkcknogkgdkaaGreatDoor.GeW (ptCells pt_len RowV rowVal ShapeM ShapeIn shapeVals holesL holesVal shapeOk_any shapeArea_any areaS ringsM)
open Go.Proofs.YtnkkcknogkgdkaaGreatDoor.Ge (canonR cleanR cleanE shapeB area)
def exT : List UInt8 := [112, 97, 114, 116, 32, 97, 32, 123, 32, 103, 114, 97, 100, 101, 32, 115, 59, 32, 116, 117, 114, 110, 115, 32, 48, 44, 32, 50, 59, 32, 114, 105, 110, 103, 32, 40, 48, 44, 32, 48, 41, 32, 40, 52, 44, 32, 48, 41, 32, 40, 52, 44, 32, 50, 41, 32, 40, 48, 44, 32, 50, 41, 59, 32, 125]
def exO : Outline := ⟨false, (0, 0), 0, [⟨false, (0, 0), (0, 0), false⟩, ⟨false, (4, 0), (0, 0), false⟩, ⟨false, (4, 2), (0, 0), false⟩, ⟨false, (0, 2), (0, 0), false⟩]⟩
def exS : Pa.Source := ⟨[97], [115], 0, [0, 2], 1, exO, []⟩
def exR : List V := [(0, 0), (4, 0), (4, 2), (0, 2)]
theorem ex_parse : parse exT = ([exS], 0, 0) := by kernel_rfl
theorem ex_valid : sourcesOk [exS] = true := by kernel_rfl
theorem ex_named : namedOk [97] [115] 0 [0, 2] = true := by kernel_rfl
theorem ex_straight : straight exO = true := by kernel_rfl
theorem ex_clean : cleanR (ptsOf exO) = exR := by kernel_rfl
theorem ex_err : cleanE (ptsOf exO) = 0 := by kernel_rfl
theorem ex_canon : canonR exR = exR := by kernel_rfl
theorem ex_shape : shapeB exR [] = true := by kernel_rfl
theorem ex_area : area exR = 16 := by kernel_rfl
set_option maxRecDepth 100000 in
set_option maxHeartbeats 4000000 in
theorem awake_any : Awake := fun w => by
 have HP : Hid (∀ W, Calls Tryz.prog 13 #[.string ⟨#[112, 97, 114, 116, 32, 97, 32, 123, 32, 103, 114, 97, 100, 101, 32, 115, 59, 32, 116, 117, 114, 110, 115, 32, 48, 44, 32, 50, 59, 32, 114, 105, 110, 103, 32, 40, 48, 44, 32, 48, 41, 32, 40, 52, 44, 32, 48, 41, 32, 40, 52, 44, 32, 50, 41, 32, 40, 48, 44, 32, 50, 41, 59, 32, 125]⟩] W (ParQ ([exS], 0, 0) W)) := Lib.hid (fun W => by
  have := parse_any exT W
  rw [ex_parse] at this
  exact this)
 go_enter Tryz.func12, Tryz.ntmps12
 go_wp2_with fail
 refine (HP.out _).mono ?_
 rintro e w1 ⟨ms, A, d, hms, rfl, hd, _, hin, hb1⟩
 obtain ⟨m, rfl⟩ : ∃ m, ms = [m] := by
  have hl := congrArg List.length hms
  rw [List.length_map] at hl
  exact List.length_eq_one_iff.1 hl
 have hsrc : m.src = exS := by simpa using hms
 have h1 : m.name = [97] := congrArg Source.name hsrc
 have h2 : m.grade = [115] := congrArg Source.grade hsrc
 have h3 : m.grain = 0 := congrArg Source.grain hsrc
 have h4 : m.turns = [0, 2] := congrArg Source.turns hsrc
 have h5 : m.outer.o = exO := congrArg Source.outer hsrc
 have h6 : m.holes = [] := by
  have := congrArg Source.holes hsrc
  exact List.map_eq_nil_iff.1 this
 have HIN := Lib.hid (hin.2 m (List.mem_cons_self ..))
 have HMK := Lib.hid (fun W (hW : SrcIn 55 153 0 W m) => make0_any m W hW (by rw [h1, h2]; decide) h6 (by rw [h5]; exact ex_straight) (by rw [hsrc]; exact ex_valid) (by rw [h5]; exact ex_err) (by rw [h5, ex_clean]; exact ex_shape) (by rw [h5]; decide) (by rw [h5, ex_clean]; decide) (by rw [h5, ex_clean, ex_canon]; decide))
 rw [h5, ex_clean, ex_canon, h1, h2, h3, h4] at HMK
 obtain ⟨g, off, hAe, hg, ca⟩ := row_get src_len (by decide) hin.1.1 (Nat.zero_lt_one)
 have a0 := ca 0 (Nat.zero_lt_one) 0 (by decide)
 have a1 := ca 0 (Nat.zero_lt_one) 1 (by decide)
 have a2 := ca 0 (Nat.zero_lt_one) 2 (by decide)
 have a3 := ca 0 (Nat.zero_lt_one) 3 (by decide)
 have a4 := ca 0 (Nat.zero_lt_one) 4 (by decide)
 have a5 := ca 0 (Nat.zero_lt_one) 5 (by decide)
 have a6 := ca 0 (Nat.zero_lt_one) 6 (by decide)
 have a7 := ca 0 (Nat.zero_lt_one) 7 (by decide)
 have a8 := ca 0 (Nat.zero_lt_one) 8 (by decide)
 have a9 := ca 0 (Nat.zero_lt_one) 9 (by decide)
 have a10 := ca 0 (Nat.zero_lt_one) 10 (by decide)
 have HT := Lib.hid h4
 have hl4 : m.turns.length = 2 := by rw [h4]; rfl
 clear ca hms hsrc h1 h2 h3 h5 h6 hd hin
 subst hAe
 simp only [List.getElem_cons_zero, srcCells, strV, List.getElem?_cons_zero, List.getElem?_cons_succ, Nat.add_zero, Nat.zero_mul] at a0 a1 a2 a3 a4 a5 a6 a7 a8 a9 a10
 unfold srcCells strV at HMK
 rw [hl4] at a3
 have HL4 := Lib.hid hl4
 rw [hl4] at HMK
 clear h4 hl4
 simp only [List.length_cons, List.length_nil]
 go_wp2_with fail
 refine (HMK.out _ HIN.out).mono ?_
 rintro e w2 ⟨⟨p, rfl, hpin, q1, q2, q3, q4, q5, q6⟩, hb2⟩
 have HB2 := Lib.hid (hb1.trans (hb2.mono hb1.size))
 have HPI := Lib.hid hpin
 have HQ := Lib.hid (And.intro q1 (And.intro q2 (And.intro q3 (And.intro q4 (And.intro q5 q6)))))
 clear hb1 hb2 hpin q1 q2 q3 q4 q5 q6 HIN HMK a0 a1 a2 a3 a4 a5 a6 a7 a8 a9 a10
 unfold partCells strV rowVal holesVal
 have hb3 := bel1 w2 (.cells #[.string ⟨p.name.toArray⟩, .string ⟨p.grade.toArray⟩, .int .i64 p.grain, .slice p.tA p.turns.length p.tc, .slice p.sh.o.A p.sh.o.l.length p.sh.o.k, .slice p.sh.B p.sh.hs.length p.sh.k] 50)
 have HX3 := Lib.hid (heap_new w2 (.cells #[.string ⟨p.name.toArray⟩, .string ⟨p.grade.toArray⟩, .int .i64 p.grain, .slice p.tA p.turns.length p.tc, .slice p.sh.o.A p.sh.o.l.length p.sh.o.k, .slice p.sh.B p.sh.hs.length p.sh.k] 50))
 have HB3 := Lib.hid (HB2.out.trans (hb3.mono HB2.out.size))
 have HP3 := Lib.hid (HPI.out.below hb3)
 have HAR := Lib.hid (shapeArea_any p.sh _ HP3.out.2.1 (by unfold holesL; rw [HQ.out.2.2.2.2.2, HQ.out.2.2.2.2.1]; exact ex_shape))
 rw [show 2 * area p.sh.o.l - areaS (ringsM p.sh) = 16 by unfold ringsM; rw [HQ.out.2.2.2.2.2, HQ.out.2.2.2.2.1]; simp only [areaS]; rw [HQ.out.2.2.2.2.1, ex_area]; decide] at HAR
 have HRT := Lib.hid (fun W (hW : PartIn W p) => right0_any p W hW (by rw [HQ.out.1, HQ.out.2.1, HQ.out.2.2.1, HQ.out.2.2.2.1]; exact ex_named) HQ.out.2.2.2.2.2 (by rw [HQ.out.2.2.2.2.1]; exact ex_shape) (by rw [HQ.out.2.2.2.2.1]; exact ex_canon))
 unfold partCells strV rowVal holesVal at HRT
 unfold shapeVals rowVal holesVal at HAR
 clear hb3
 go_upto_region 5 with fail
 generalize w2.alloc (.cells #[.string ⟨p.name.toArray⟩, .string ⟨p.grade.toArray⟩, .int .i64 p.grain, .slice p.tA p.turns.length p.tc, .slice p.sh.o.A p.sh.o.l.length p.sh.o.k, .slice p.sh.B p.sh.hs.length p.sh.k] 50) = W3 at *
 generalize w2.heap.size = pb at *
 have x4 := cell_of HX3.out 4 _ rfl
 have x5 := cell_of HX3.out 5 _ rfl
 go_wp2_with fail
 refine HAR.out.mono ?_
 rintro e w4 ⟨rfl, hb4⟩
 have HX4 := Lib.hid (p_below HX3.out hb4)
 have HP4 := Lib.hid (HP3.out.below hb4)
 have HB4 := Lib.hid (HB3.out.trans (hb4.mono HB3.out.size))
 clear hb4 x4 x5 HAR
 have x0 := cell_of HX4.out 0 _ rfl
 have x1 := cell_of HX4.out 1 _ rfl
 have x2 := cell_of HX4.out 2 _ rfl
 have x3 := cell_of HX4.out 3 _ rfl
 have x4 := cell_of HX4.out 4 _ rfl
 have x5 := cell_of HX4.out 5 _ rfl
 go_wp2_with fail
 refine (HRT.out w4 HP4.out).mono ?_
 rintro e w5 ⟨rfl, hb5⟩
 go_wp2
 go_ret
 exact ⟨rfl, HB4.out.trans (hb5.mono HB4.out.size)⟩
end Go.Proofs.YtnkkcknogkgdkaaGreatDoor.PaW

namespace Go.Proofs.YtnkkcknogkgdkaaGreatDoor.PaW
open Go Go.RowKit Go.Proofs.YtnkkcknogkgdkaaGreatDoor.Mem
theorem partFirst_bytes (x y : ByteArray) (w : World) : Calls Tryz.prog 7 #[.string x, .string y] w fun e w' => e = .returned (.bool true) ∧ Below w.heap.size w w' := by
 have := partFirst_walk awake_any x.data.toList y.data.toList w
 simpa using this
end Go.Proofs.YtnkkcknogkgdkaaGreatDoor.PaW
