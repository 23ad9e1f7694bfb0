/- Walk: PartAgain. Conditions: the library's table of powers and the choices of gaps lie in memory. -/
import Derived.Test.YtnkkcknogkgdkaaGreatDoorPaGaps
import Derived.Test.YtnkkcknogkgdkaaGreatDoorPpC
import Derived.Test.YtnkkcknogkgdkaaGreatDoorPpD
import Derived.Test.YtnkkcknogkgdkaaGreatDoorPtD
import Derived.Test.YtnkkcknogkgdkaaGreatDoorPcH
import Derived.Lib.AtoiBound

namespace Go.Proofs.YtnkkcknogkgdkaaGreatDoor.Pa
open Go
open Go.Proofs.YtnkkcknogkgdkaaGreatDoor.Lex (Tok key lex glue Gap write)
theorem parse_nil {s : List UInt8} (h : (parse s).2.2 ≠ 0) : (parse s).1 = [] := by
 unfold parse at h ⊢
 split
 ·rfl
 ·rename_i h1
  rw [if_neg h1] at h
  split
  ·rfl
  ·rename_i l j hx
   rw [hx] at h
   simp only at h
   split
   ·rfl
   ·rename_i h2
    rw [if_neg h2] at h
    exact absurd rfl h
def pick (xs : List Nat) (i : Nat) : Nat := if xs.length = 0 then 0 else xs.getD (i % xs.length) 0 % 4
theorem pick_lt (xs : List Nat) (i : Nat) : pick xs i < 4 := by
 unfold pick
 split
 ·decide
 ·exact Nat.mod_lt _ (by decide)
theorem gapT_ten (k : Nat) : (gapT k).length ≤ 10 := by
 unfold gapT
 split
 ·decide
 ·split
  ·decide
  ·split <;> decide
theorem gapU_take (g : Nat → Nat) (l : List Tok) (k : Nat) (h : k < l.length) : gapU g (l.take (k + 1)) = gapU g (l.take k) ++ (gapT (g k) ++ write l[k]) := by
 rw [List.take_succ_eq_append_getElem h, gapU_snoc, List.length_take, Nat.min_eq_left (Nat.le_of_lt h)]
theorem gapU_le (g : Nat → Nat) (l : List Tok) : ∀ (d k : Nat), k + d = l.length → (gapU g (l.take k)).length ≤ (gapU g l).length
 | 0, k, h => by rw [List.take_of_length_le (by omega)]; exact Nat.le_refl _
 | d + 1, k, h => by
  have h1 := gapU_le g l d (k + 1) (by omega)
  rw [gapU_take g l k (by omega), List.length_append] at h1
  omega
end Go.Proofs.YtnkkcknogkgdkaaGreatDoor.Pa

namespace Go.Proofs.YtnkkcknogkgdkaaGreatDoor.PaW
open Go Go.RowKit Go.Proofs.YtnkkcknogkgdkaaGreatDoor.Mem Go.Proofs.YtnkkcknogkgdkaaGreatDoor.Pa
open Go.Proofs.YtnkkcknogkgdkaaGreatDoor.Ge (V)
open Go.Proofs.YtnkkcknogkgdkaaGreatDoor.Lex (Tok)
open Go.Proofs.YtnkkcknogkgdkaaGreatDoor.LexW (tokCells)
attribute [local go_sem ↓] Go.wp_at_zero Go.wp_at_succ

open Go.Proofs.YtnkkcknogkgdkaaGreatDoor.Ge (within)
open Go.Proofs.YtnkkcknogkgdkaaGreatDoor.PqW (writeString_k strCells_mk byteCells_app isBuilder_below b_new)
open Go.Proofs.YtnkkcknogkgdkaaGreatDoor.LexW (tokens_any TokensPost toksCells write_any Laid I64)
def gapCell (x : Nat) : List Value := [.int .u8 (x : Int)]
theorem gap_len (xs : List Nat) : (xs.flatMap gapCell).length = xs.length := by induction xs with
 | nil => rfl
 | cons a r ih => rw [List.flatMap_cons, List.length_append, ih, List.length_cons]; simp only [gapCell, List.length_singleton]; omega
theorem gap_cells : ∀ (xs : List Nat) (k : Nat) (h : k < xs.length), (xs.flatMap gapCell)[k]? = some (.int .u8 (xs[k] : Int))
 | a :: r, 0, _ => rfl
 | a :: r, k + 1, h => by
  have := gap_cells r k (by simpa using h)
  simpa [gapCell] using this
theorem arr_cell (w : World) (p : Nat) (h : p < 4) : (w.alloc (.cells #[.string ⟨#[32]⟩, .string ⟨#[10]⟩, .string ⟨#[32, 35, 32, 112, 97, 114, 116, 32, 123, 10]⟩, .string ⟨#[9]⟩] 83)).cell? ⟨w.heap.size, p, none⟩ = some (.string ⟨(gapT p).toArray⟩) := by
 have h0 := heap_new w (.cells #[.string ⟨#[32]⟩, .string ⟨#[10]⟩, .string ⟨#[32, 35, 32, 112, 97, 114, 116, 32, 123, 10]⟩, .string ⟨#[9]⟩] 83)
 rcases (show p = 0 ∨ p = 1 ∨ p = 2 ∨ p = 3 by omega) with rfl | rfl | rfl | rfl <;> exact cell_of h0 _ _ rfl
theorem lex_i64 {s : List UInt8} (h : (Lex.lex s 0).err = 0) : ∀ t ∈ (Lex.lex s 0).toks, I64 t.n := fun t ht => by
 have hw := Lex.lex_word h t ht
 obtain ⟨c, r, h0, hk, htx, hn, _⟩ := hw
 rw [hn]
 unfold I64
 rcases Lex.tok_ways h0 with ⟨h1, h2, e⟩ | ⟨h1, h2, h3, h4, e⟩ | ⟨h1, h2, h3, e⟩ <;> rw [e] <;> simp only
 ·omega
 ·have ha := Go.Proofs.YtnkkcknogkgdkaaGreatDoor.LexW.atoi_some h2 h3
  have hl : (c :: Lex.numRun r).length ≤ 18 := by
   unfold Lex.numDigs at h4
   split at h4
   ·simp only [List.length_cons]; omega
   ·omega
  have := Lib.atoi_bound ha hl
  omega
 ·omega
theorem src_names {ms : List SrcM} (h : sourcesOk (ms.map SrcM.src) = true) : ∀ m ∈ ms, m.name.length ≤ 1000000 ∧ m.grade.length ≤ 1000000 := fun m hm => by
 unfold sourcesOk at h
 simp only [Bool.and_eq_true, List.all_eq_true] at h
 have := source_parts (h.1 _ (List.mem_map_of_mem hm))
 have h1 : m.name.length ≤ 16 := this.name
 have h2 : m.grade.length ≤ 16 := this.grade
 omega
set_option maxRecDepth 100000 in
set_option maxHeartbeats 8000000 in
theorem partAgain_walk (haw : Awake) (s : List UInt8) (xs : List Nat) (G : Option Addr) (glen gcap : Nat) (w : World) (hG : Glob w) (hgl : xs.length = glen) (hr : Row w G (xs.flatMap gapCell)) (hxl : ∀ x ∈ xs, x < 256) :
  Calls Tryz.prog 10 #[.string ⟨s.toArray⟩, .slice G glen gcap] w fun e w' => e = .returned (.bool true) ∧ Below w.heap.size w w' := by
 have HAW := Lib.hid haw
 have HG := Lib.hid hG
 have HX := Lib.hid hgl
 have HXL := Lib.hid hxl
 have HXR := Lib.hid hr
 have hs1 := str_size s
 have HP := Lib.hid (fun W => parse_any s W)
 have HTK := Lib.hid (fun W => tokens_any ⟨s.toArray⟩ W)
 have hlen := Lib.hid (tokens_len s)
 clear haw hG hgl hr hxl
 obtain ⟨SB, HSB⟩ : ∃ B, Hid (ByteArray.mk s.toArray = B) := ⟨_, Lib.hid rfl⟩
 have HTK2 : Hid (∀ W, Calls Tryz.prog 26 #[.string ⟨s.toArray⟩] W (TokensPost 69 W (Lex.tokens s))) := HTK
 rw [HSB.out] at hs1 HP HTK2 ⊢
 clear HTK HSB
 by_cases hl : s.length ≤ 1500
 case neg =>
  clear HP HTK2
  have g1 : (1500 < (s.length : Int)) = True := eq_true (by omega)
  have g2 : (1500 < (SB.size : Int)) = True := eq_true (by omega)
  go_enter Tryz.func10, Tryz.ntmps10
  go_wp2_with fail
  refine (HAW.out _).mono ?_
  rintro e w1 ⟨rfl, hb1⟩
  go_wp2
  go_ret
  exact ⟨rfl, hb1⟩
 case pos =>
 have g1 : (1500 < (s.length : Int)) = False := eq_false (by omega)
 have g2 : (1500 < (SB.size : Int)) = False := eq_false (by omega)
 by_cases hgn : glen ≤ 30
 case neg =>
  clear HP HTK2
  have g3 : (30 < (glen : Int)) = True := eq_true (by omega)
  go_enter Tryz.func10, Tryz.ntmps10
  go_wp2_with fail
  refine (HAW.out _).mono ?_
  rintro e w1 ⟨rfl, hb1⟩
  go_wp2
  go_ret
  exact ⟨rfl, hb1⟩
 case pos =>
 have g3 : (30 < (glen : Int)) = False := eq_false (by omega)
 go_enter Tryz.func10, Tryz.ntmps10
 go_wp2_with fail
 refine (HAW.out _).mono ?_
 rintro e w1 ⟨rfl, hb1⟩
 go_wp2_with fail
 refine (HP.out _).mono ?_
 rintro e w2 ⟨ms, A2, d2, hms, rfl, hd2, hm2, hin2, hb2⟩
 have HB2 := Lib.hid (hb1.trans (hb2.mono hb1.size))
 have HMS := Lib.hid hms
 have HIN2 := Lib.hid hin2
 have HMms := Lib.hid hm2
 clear hb1 hb2 HP hms hin2 HAW g1 g2 g3 hd2
 go_upto_region 6 with fail
 by_cases he : (parse s).2.2 = 0
 case neg =>
  have n1 : ((parse s).2.2 != 0) = true := bne_iff_ne.2 he
  have hz : ms = [] := by have := HMS.out; rw [parse_nil he] at this; exact List.map_eq_nil_iff.1 this
  subst hz
  generalize (parse s).2.2 = pe at *
  clear he hlen HTK2 HIN2 HMS
  go_wp2
  go_ret
  exact ⟨rfl, HB2.out⟩
 case pos =>
 have HOK := Lib.hid (parse_valid (by omega) he)
 have HSH := Lib.hid (print_short hl he)
 have HAG := Lib.hid (parse_again hl he)
 have HGP := Lib.hid (fun g => parse_gaps hl he g)
 have HGT := Lib.hid (parse_got (by omega) he)
 have HPX := Lib.hid (fun W => parse_any (printT (parse s).1) W)
 rw [HAG.out] at HPX
 have HPG := Lib.hid (fun g W => parse_any (gapU g (Lex.lex s 0).toks) W)
 have HPG2 : Hid (∀ g W, Calls Tryz.prog 13 #[.string ⟨(gapU g (Lex.lex s 0).toks).toArray⟩] W (ParQ (parse s) W)) := Lib.hid (fun g W => by have := HPG.out g W; rw [(HGP.out g).1] at this; exact this)
 have HGL : Hid (∀ g k, k ≤ (Lex.lex s 0).toks.length → (gapU g ((Lex.lex s 0).toks.take k)).length ≤ 20000) := Lib.hid (fun g k hk => Nat.le_trans (gapU_le g _ ((Lex.lex s 0).toks.length - k) k (by omega)) (HGP.out g).2)
 have HI64 := Lib.hid (lex_i64 HGT.out.1)
 have HLEX : Hid (Lex.tokens s = Lex.lex s 0) := Lib.hid (by unfold Lex.tokens; rw [if_neg (by omega)])
 rw [HLEX.out] at HTK2 hlen
 have HERR := Lib.hid HGT.out.1
 clear HPG HGP HGT HAG HLEX
 generalize Lex.lex s 0 = LR at *
 obtain ⟨toks, pos, err⟩ := LR
 simp only at HTK2 hlen HERR HGL HI64 HPG2
 generalize parse s = pa at *
 obtain ⟨pl, pp, pe⟩ := pa
 simp only at HMS HOK HSH HPX he
 subst he
 have n1 : ((0 : Int) != 0) = false := rfl
 have HPR : Hid (printR (ms.map SrcM.src) = (printT pl, 0)) := Lib.hid (by
  rw [HMS.out]
  unfold printR
  rw [HOK.out, if_pos rfl, if_neg (by have := HSH.out; omega)])
 have HNM := Lib.hid (src_names (ms := ms) (by rw [HMS.out]; exact HOK.out))
 have HVL := Lib.hid (fun W (h : SrcsIn 58 55 153 0 W A2 ms) => valid_any ms A2 d2 W h (by have := HMms.out; omega) HNM.out)
 rw [HMS.out, HOK.out] at HVL
 have HE3 := Lib.hid (print_any ms A2 d2 w2 (HG.out.below HB2.out) HIN2.out (by have := HMms.out; omega) HNM.out)
 rw [HPR.out] at HE3
 have HGX := Lib.hid (HG.out.below HB2.out)
 obtain ⟨PB, HPB⟩ : ∃ B, Hid (ByteArray.mk (printT pl).toArray = B) := ⟨_, Lib.hid rfl⟩
 rw [HPB.out] at HE3 HPX
 go_wp2_with fail
 refine HE3.out.mono ?_
 rintro e w3 ⟨rfl, hb⟩
 have HB3 := Lib.hid (HB2.out.trans (hb.mono HB2.out.size))
 have HIN3 := Lib.hid (HIN2.out.below hb)
 clear hb HE3 HB2 HIN2 HPR HSH HPB
 go_wp2_with fail
 refine (HPX.out _).mono ?_
 rintro e w4 ⟨ns, A4, d4, hns, rfl, hd4, hm4, hin4, hb⟩
 have HB4 := Lib.hid (HB3.out.trans (hb.mono HB3.out.size))
 have HIN4 := Lib.hid (HIN3.out.below hb)
 have HNS := Lib.hid hns
 have HNI4 := Lib.hid hin4
 have HMns := Lib.hid hm4
 clear hb HPX HB3 HIN3 hns hin4 hd4 hm4
 have HE5 := Lib.hid (HVL.out w4 HIN4.out)
 go_wp2_with fail
 refine HE5.out.mono ?_
 rintro e w5 ⟨rfl, hb⟩
 have HB5 := Lib.hid (HB4.out.trans (hb.mono HB4.out.size))
 have HIN5 := Lib.hid (HIN4.out.below hb)
 have HNI5 := Lib.hid (HNI4.out.below hb)
 clear hb HE5 HB4 HIN4 HNI4 HVL HNM
 have HT6 := Lib.hid (theirs_any ms A2 d2 w5 HIN5.out (by have := HMms.out; omega) (Nat.zero_le _))
 go_wp2_with fail
 refine HT6.out.mono ?_
 rintro e w6 ⟨⟨t6, B6, c6, hk, rfl, hown, hsrc⟩, hb⟩
 have HB6 := Lib.hid (HB5.out.trans (hb.mono HB5.out.size))
 have HI6 := Lib.hid (show SrcsIn 41 38 140 0 w6 B6 t6 from ⟨At.of_own hown, hsrc⟩)
 have HK6 := Lib.hid hk
 have HLK6 : Hid (t6.length = ms.length) := Lib.hid (by simpa using congrArg List.length hk)
 have HIN6 := Lib.hid (HIN5.out.below hb)
 have HNI6 := Lib.hid (HNI5.out.below hb)
 clear hk hown hsrc hb HT6 HB5 HIN5 HNI5
 have HT7 := Lib.hid (theirs_any ns A4 d4 w6 HNI6.out (by have := HMns.out; omega) (Nat.zero_le _))
 go_wp2_with fail
 refine HT7.out.mono ?_
 rintro e w7 ⟨⟨t7, B7, c7, hk, rfl, hown, hsrc⟩, hb⟩
 have HB7 := Lib.hid (HB6.out.trans (hb.mono HB6.out.size))
 have HI7 := Lib.hid (show SrcsIn 41 38 140 0 w7 B7 t7 from ⟨At.of_own hown, hsrc⟩)
 have HK7 := Lib.hid hk
 have HLK7 : Hid (t7.length = ns.length) := Lib.hid (by simpa using congrArg List.length hk)
 have HIN7 := Lib.hid (HIN6.out.below hb)
 have HIx6 := Lib.hid (HI6.out.below hb)
 have HNI7 := Lib.hid (HNI6.out.below hb)
 clear hk hown hsrc hb HT7 HB6 HIN6 HI6 HNI6
 have HSM8 := Lib.hid (refSame_any (TT := 41) (TO := 38) (TS := 140) (TT' := 41) (TO' := 38) (TS' := 140) (base := 0) (base' := 0) t6 t7 B6 B7 c6 c7 w7 HIx6.out HI7.out (by have := HLK6.out; have := HMms.out; omega) (by rw [HK6.out, HK7.out, HMS.out, HNS.out]))
 rw [HLK6.out, HLK7.out] at HSM8
 go_wp2_with fail
 refine HSM8.out.mono ?_
 rintro e w8 ⟨rfl, hb⟩
 have HB8 := Lib.hid (HB7.out.trans (hb.mono HB7.out.size))
 have HIN8 := Lib.hid (HIN7.out.below hb)
 clear hb HSM8 HB7 HIN7
 clear HI7 HIx6 HNI7 HK6 HK7 HLK6 HLK7 HNS HMns
 go_wp2_with fail
 refine (HTK2.out w8).mono ?_
 rintro e w9 ⟨tv, rfl, hown, hb⟩
 obtain ⟨TA, tc, rfl, htc⟩ := own_shape hown
 have HTR : Hid (Row w9 TA (toks.flatMap tokCells)) := Lib.hid (Row.of_own hown)
 have HB9 := Lib.hid (HB8.out.trans (hb.mono HB8.out.size))
 have HIN9 := Lib.hid (HIN8.out.below hb)
 clear hown hb htc HB8 HIN8 HTK2 HERR
 have hbx := bel1 w9 (.cells #[.string ⟨#[32]⟩, .string ⟨#[10]⟩, .string ⟨#[32, 35, 32, 112, 97, 114, 116, 32, 123, 10]⟩, .string ⟨#[9]⟩] 83)
 have HARR := Lib.hid (fun p h => arr_cell w9 p h)
 have HTR10 := Lib.hid (HTR.out.below hbx)
 have HB10 := Lib.hid (HB9.out.trans (hbx.mono HB9.out.size))
 have HIN10 := Lib.hid (HIN9.out.below hbx)
 have HGA := Lib.hid (blk_lt (heap_new w9 (.cells #[.string ⟨#[32]⟩, .string ⟨#[10]⟩, .string ⟨#[32, 35, 32, 112, 97, 114, 116, 32, 123, 10]⟩, .string ⟨#[9]⟩] 83)))
 have hmx := hlen.out
 go_upto_region 14 with fail
 clear hbx HTR HB9 HIN9
 generalize w9.alloc (.cells #[.string ⟨#[32]⟩, .string ⟨#[10]⟩, .string ⟨#[32, 35, 32, 112, 97, 114, 116, 32, 123, 10]⟩, .string ⟨#[9]⟩] 83) = w10 at *
 generalize w9.heap.size = ga at *
 go_wp2_with fail
 go_loopw [17, 18] (fun t i wr => ∃ k : Nat, k ≤ toks.length ∧ i = .int .i64 k ∧ t = .string ⟨(gapU (pick xs) (toks.take k)).toArray⟩ ∧ Below w10.heap.size w10 wr) (fun _ i _ => toks.length - (intOf i).toNat)
 case atStart => exact ⟨0, Nat.zero_le _, rfl, rfl, Below.refl _ _⟩
 case round =>
  obtain ⟨k, hk, rfl, rfl, hbel⟩ := hrel
  by_cases hlt : k < toks.length
  ·obtain ⟨g, off, rfl, hg, ca⟩ := row_get tok_len (by decide) (HTR10.out.below hbel) (by omega)
   have a0 := ca k hlt 0 (by decide)
   have a1 := ca k hlt 1 (by decide)
   have a2 := ca k hlt 2 (by decide)
   have a3 := ca k hlt 3 (by decide)
   have HTS := Lib.hid (gapU_take (pick xs) toks k hlt)
   have z1 := str_size (gapU (pick xs) (toks.take k))
   have z2 := HGL.out (pick xs) k hk
   have z3 := HGL.out (pick xs) (k + 1) hlt
   have z4 := gapT_ten (pick xs k)
   have hgr : ga < wr.heap.size := Nat.lt_of_lt_of_le HGA.out hbel.size
   have hp := (hbel.cell (p := ⟨ga, pick xs k, none⟩) HGA.out).trans (HARR.out _ (pick_lt xs k))
   have hp4 := pick_lt xs k
   have hi64 := Lib.hid (HI64.out toks[k] (List.getElem_mem hlt))
   have hwr : Lex.write toks[k] = if toks[k].kind = 2 then Lib.itoa toks[k].n else toks[k].text := rfl
   have HLT := Lib.hid hlt
   have hk1 : (0 : Int) ≤ (k : Int) := by omega
   have hk2 : (k : Int) < (toks.length : Int) := by omega
   rw [HTS.out] at z3
   rw [hwr] at HTS z3
   clear hwr ca
   generalize toks[k] = tk0 at *
   obtain ⟨tk, tt, tn, tp⟩ := tk0
   simp only at HTS hi64 z3
   simp only [tokCells, List.getElem?_cons_zero, List.getElem?_cons_succ, Nat.add_zero] at a0 a1 a2 a3
   clear hlt
   obtain ⟨gt, HGTX⟩ : ∃ gt, Hid (gapU (pick xs) (toks.take k) = gt) := ⟨_, Lib.hid rfl⟩
   have HWC := Lib.hid (fun (W : World) (h : Laid W) => write_any tk tn (tp : Int) tt W h hi64.out)
   rw [HGTX.out] at HTS z1 z2 z3 ⊢
   generalize (if tk = 2 then Lib.itoa tn else tt) = wl at HWC HTS z3
   have z5 := str_size wl
   simp only [List.length_append] at z3
   have hLr : Hid (Laid wr) := Lib.hid (by have h1 := HG.out.below (HB10.out.trans (hbel.mono HB10.out.size)); exact ⟨h1.tab, h1.lt⟩)
   obtain ⟨xn, hxn⟩ : ∃ xn, pick xs k = xn := ⟨_, rfl⟩
   have HPK := Lib.hid hxn
   rw [hxn] at hp hp4 z4 HTS z3
   have z6 := str_size (gapT xn)
   have HAP : Hid (ByteArray.mk gt.toArray ++ (ByteArray.mk (gapT xn).toArray ++ ByteArray.mk wl.toArray) = ⟨(gt ++ (gapT xn ++ wl)).toArray⟩) := Lib.hid (by rw [str_app, str_app])
   generalize ByteArray.mk wl.toArray = WB at *
   obtain ⟨TB, HTB⟩ : ∃ B, Hid (ByteArray.mk gt.toArray = B) := ⟨_, Lib.hid rfl⟩
   rw [HTB.out] at HAP z1 ⊢
   obtain ⟨GB, HGB⟩ : ∃ B, Hid (ByteArray.mk (gapT xn).toArray = B) := ⟨_, Lib.hid rfl⟩
   rw [HGB.out] at hp HAP z6
   have m1_ : (9223372036854775807 < GB.size + WB.size) = False := eq_false (by omega)
   have m2_ : (9223372036854775807 < TB.size + (GB.size + WB.size)) = False := eq_false (by omega)
   clear z1 z2 z3 z4 z5 z6 hxn
   by_cases hx0 : glen = 0
   ·have hgt0 : decide ((0 : Int) < (glen : Int)) = false := decide_eq_false (by omega)
    have hgt1 : ((0 : Int) < (glen : Int)) = False := eq_false (by omega)
    have hgt2 : (0 < glen) = False := eq_false (by omega)
    have hxn0 : xn = 0 := by rw [← HPK.out, pick, if_pos (by rw [HX.out]; exact hx0)]
    subst hxn0
    clear HPK hx0 hp4
    go_upto_region 21 with fail
    refine wp_region_det (fun w' => Below wr.heap.size wr w') (by kernel_rfl) (below_drewN (Below.refl _ _) 1) ?_
    refine wpAnyD_take (i := 0) (oi := { dst := some 99, op := Op.move (Operand.tmp 17), type := 9, pos := "law.go:180", after := #[], guard := none }) (v := ?_) rfl (by kernel_rfl) (by kernel_rfl) (by kernel_rfl) (Or.inl (Or.inl ⟨by rfl, ?_⟩)) ?_
    rotate_left
    ·intro w' hSw
     (try dsimp only at hSw)
     have hs0 := (hSw.cell (p := ⟨ga, 0, none⟩) hgr).trans hp; have hs1 := (hSw.cell (p := ⟨g, off + k * 4, none⟩) hg).trans a0; have hs2 := (hSw.cell (p := ⟨g, off + k * 4 + 1, none⟩) hg).trans a1; have hs3 := (hSw.cell (p := ⟨g, off + k * 4 + 2, none⟩) hg).trans a2; have hs4 := (hSw.cell (p := ⟨g, off + k * 4 + 3, none⟩) hg).trans a3
     first | (go_simp; done) | (go_simp; with_reducible rfl)
    try simp only [Act.put, List.setIfInBounds_toArray, List.set_cons_zero, List.set_cons_succ]
    refine wpAnyD_take (i := 1) (oi := { dst := some 100, op := Op.move (Operand.tmp 19), type := 3, pos := "law.go:180", after := #[], guard := none }) (v := ?_) rfl (by kernel_rfl) (by kernel_rfl) (by kernel_rfl) (Or.inl (Or.inl ⟨by rfl, ?_⟩)) ?_
    rotate_left
    ·intro w' hSw
     (try dsimp only at hSw)
     have hs0 := (hSw.cell (p := ⟨ga, 0, none⟩) hgr).trans hp; have hs1 := (hSw.cell (p := ⟨g, off + k * 4, none⟩) hg).trans a0; have hs2 := (hSw.cell (p := ⟨g, off + k * 4 + 1, none⟩) hg).trans a1; have hs3 := (hSw.cell (p := ⟨g, off + k * 4 + 2, none⟩) hg).trans a2; have hs4 := (hSw.cell (p := ⟨g, off + k * 4 + 3, none⟩) hg).trans a3
     first | (go_simp; done) | (go_simp; with_reducible rfl)
    try simp only [Act.put, List.setIfInBounds_toArray, List.set_cons_zero, List.set_cons_succ]
    refine wpAnyD_take (i := 2) (oi := { dst := some 101, op := Op.indexAddr 83 (Operand.tmp 16) (Operand.tmp 100), type := 0, pos := "law.go:180", after := #[{ on := 1, ground := Ground.data }], guard := none }) (v := ?_) rfl (by kernel_rfl) (by kernel_rfl) (by kernel_rfl) (Or.inl (Or.inl ⟨by rfl, ?_⟩)) ?_
    rotate_left
    ·intro w' hSw
     (try dsimp only at hSw)
     have hs0 := (hSw.cell (p := ⟨ga, 0, none⟩) hgr).trans hp; have hs1 := (hSw.cell (p := ⟨g, off + k * 4, none⟩) hg).trans a0; have hs2 := (hSw.cell (p := ⟨g, off + k * 4 + 1, none⟩) hg).trans a1; have hs3 := (hSw.cell (p := ⟨g, off + k * 4 + 2, none⟩) hg).trans a2; have hs4 := (hSw.cell (p := ⟨g, off + k * 4 + 3, none⟩) hg).trans a3
     first | (go_simp; done) | (go_simp; with_reducible rfl)
    try simp only [Act.put, List.setIfInBounds_toArray, List.set_cons_zero, List.set_cons_succ]
    refine wpAnyD_take (i := 3) (oi := { dst := some 102, op := Op.load 9 (Operand.tmp 101), type := 9, pos := "law.go:180", after := #[{ on := 2, ground := Ground.data }], guard := none }) (v := ?_) rfl (by kernel_rfl) (by kernel_rfl) (by kernel_rfl) (Or.inl (Or.inl ⟨by rfl, ?_⟩)) ?_
    rotate_left
    ·intro w' hSw
     (try dsimp only at hSw)
     have hs0 := (hSw.cell (p := ⟨ga, 0, none⟩) hgr).trans hp; have hs1 := (hSw.cell (p := ⟨g, off + k * 4, none⟩) hg).trans a0; have hs2 := (hSw.cell (p := ⟨g, off + k * 4 + 1, none⟩) hg).trans a1; have hs3 := (hSw.cell (p := ⟨g, off + k * 4 + 2, none⟩) hg).trans a2; have hs4 := (hSw.cell (p := ⟨g, off + k * 4 + 3, none⟩) hg).trans a3
     first | (go_simp; done) | (go_simp; with_reducible rfl)
    try simp only [Act.put, List.setIfInBounds_toArray, List.set_cons_zero, List.set_cons_succ]
    refine wpAnyD_take (i := 4) (oi := { dst := some 103, op := Op.move (Operand.tmp 13), type := 65, pos := "law.go:180", after := #[], guard := none }) (v := ?_) rfl (by kernel_rfl) (by kernel_rfl) (by kernel_rfl) (Or.inl (Or.inl ⟨by rfl, ?_⟩)) ?_
    rotate_left
    ·intro w' hSw
     (try dsimp only at hSw)
     have hs0 := (hSw.cell (p := ⟨ga, 0, none⟩) hgr).trans hp; have hs1 := (hSw.cell (p := ⟨g, off + k * 4, none⟩) hg).trans a0; have hs2 := (hSw.cell (p := ⟨g, off + k * 4 + 1, none⟩) hg).trans a1; have hs3 := (hSw.cell (p := ⟨g, off + k * 4 + 2, none⟩) hg).trans a2; have hs4 := (hSw.cell (p := ⟨g, off + k * 4 + 3, none⟩) hg).trans a3
     first | (go_simp; done) | (go_simp; with_reducible rfl)
    try simp only [Act.put, List.setIfInBounds_toArray, List.set_cons_zero, List.set_cons_succ]
    refine wpAnyD_take (i := 5) (oi := { dst := some 104, op := Op.move (Operand.tmp 18), type := 3, pos := "law.go:180", after := #[], guard := none }) (v := ?_) rfl (by kernel_rfl) (by kernel_rfl) (by kernel_rfl) (Or.inl (Or.inl ⟨by rfl, ?_⟩)) ?_
    rotate_left
    ·intro w' hSw
     (try dsimp only at hSw)
     have hs0 := (hSw.cell (p := ⟨ga, 0, none⟩) hgr).trans hp; have hs1 := (hSw.cell (p := ⟨g, off + k * 4, none⟩) hg).trans a0; have hs2 := (hSw.cell (p := ⟨g, off + k * 4 + 1, none⟩) hg).trans a1; have hs3 := (hSw.cell (p := ⟨g, off + k * 4 + 2, none⟩) hg).trans a2; have hs4 := (hSw.cell (p := ⟨g, off + k * 4 + 3, none⟩) hg).trans a3
     first | (go_simp; done) | (go_simp; with_reducible rfl)
    try simp only [Act.put, List.setIfInBounds_toArray, List.set_cons_zero, List.set_cons_succ]
    refine wpAnyD_take (i := 6) (oi := { dst := some 105, op := Op.indexAddr 65 (Operand.tmp 103) (Operand.tmp 104), type := 0, pos := "law.go:180", after := #[{ on := 4, ground := Ground.data }, { on := 5, ground := Ground.data }], guard := none }) (v := ?_) rfl (by kernel_rfl) (by kernel_rfl) (by kernel_rfl) (Or.inl (Or.inl ⟨by rfl, ?_⟩)) ?_
    rotate_left
    ·intro w' hSw
     (try dsimp only at hSw)
     have hs0 := (hSw.cell (p := ⟨ga, 0, none⟩) hgr).trans hp; have hs1 := (hSw.cell (p := ⟨g, off + k * 4, none⟩) hg).trans a0; have hs2 := (hSw.cell (p := ⟨g, off + k * 4 + 1, none⟩) hg).trans a1; have hs3 := (hSw.cell (p := ⟨g, off + k * 4 + 2, none⟩) hg).trans a2; have hs4 := (hSw.cell (p := ⟨g, off + k * 4 + 3, none⟩) hg).trans a3
     first | (go_simp; done) | (go_simp; with_reducible rfl)
    try simp only [Act.put, List.setIfInBounds_toArray, List.set_cons_zero, List.set_cons_succ]
    refine wpAnyD_take (i := 7) (oi := { dst := some 106, op := Op.load 69 (Operand.tmp 105), type := 69, pos := "law.go:180", after := #[{ on := 6, ground := Ground.data }], guard := none }) (v := ?_) rfl (by kernel_rfl) (by kernel_rfl) (by kernel_rfl) (Or.inl (Or.inl ⟨by rfl, ?_⟩)) ?_
    rotate_left
    ·intro w' hSw
     (try dsimp only at hSw)
     have hs0 := (hSw.cell (p := ⟨ga, 0, none⟩) hgr).trans hp; have hs1 := (hSw.cell (p := ⟨g, off + k * 4, none⟩) hg).trans a0; have hs2 := (hSw.cell (p := ⟨g, off + k * 4 + 1, none⟩) hg).trans a1; have hs3 := (hSw.cell (p := ⟨g, off + k * 4 + 2, none⟩) hg).trans a2; have hs4 := (hSw.cell (p := ⟨g, off + k * 4 + 3, none⟩) hg).trans a3
     first | (go_simp; done) | (go_simp; with_reducible rfl)
    try simp only [Act.put, List.setIfInBounds_toArray, List.set_cons_zero, List.set_cons_succ]
    refine wpAnyD_take (i := 8) (oi := { dst := some 107, op := Op.call { callee := Callee.value (Operand.func 35), args := #[Operand.tmp 106], argTypes := #[69] }, type := 9, pos := "law.go:180", after := #[{ on := 7, ground := Ground.data }], guard := none }) (v := (.string WB)) rfl (by kernel_rfl) (by kernel_rfl) (by kernel_rfl) (Or.inr ⟨by rfl, 35, #[.agg #[.int .i64 tk, .string ⟨tt.toArray⟩, .int .i64 tn, .int .i64 (tp : Int)]], ?_, ?_⟩) ?_
    ·intro w' hSw
     (try dsimp only at hSw)
     first | rfl | (go_simp; done) | (go_simp; with_reducible rfl)
    ·intro w' hSw
     exact (HWC.out w' (hLr.out.below hSw)).mono fun e u ⟨he, hb⟩ => ⟨he, hSw.trans (hb.mono hSw.size)⟩
    try simp only [Act.put, List.setIfInBounds_toArray, List.set_cons_zero, List.set_cons_succ]
    refine wpAnyD_take (i := 9) (oi := { dst := some 108, op := Op.binOp BinOp.add 9 (Operand.tmp 102) (Operand.tmp 107) 9, type := 9, pos := "law.go:180", after := #[{ on := 3, ground := Ground.data }, { on := 8, ground := Ground.data }], guard := none }) (v := ?_) rfl (by kernel_rfl) (by kernel_rfl) (by kernel_rfl) (Or.inl (Or.inl ⟨by rfl, ?_⟩)) ?_
    rotate_left
    ·intro w' hSw
     (try dsimp only at hSw)
     have hs0 := (hSw.cell (p := ⟨ga, 0, none⟩) hgr).trans hp; have hs1 := (hSw.cell (p := ⟨g, off + k * 4, none⟩) hg).trans a0; have hs2 := (hSw.cell (p := ⟨g, off + k * 4 + 1, none⟩) hg).trans a1; have hs3 := (hSw.cell (p := ⟨g, off + k * 4 + 2, none⟩) hg).trans a2; have hs4 := (hSw.cell (p := ⟨g, off + k * 4 + 3, none⟩) hg).trans a3
     first | (go_simp; done) | (go_simp; with_reducible rfl)
    try simp only [Act.put, List.setIfInBounds_toArray, List.set_cons_zero, List.set_cons_succ]
    refine wpAnyD_take (i := 10) (oi := { dst := some 109, op := Op.binOp BinOp.add 9 (Operand.tmp 99) (Operand.tmp 108) 9, type := 9, pos := "law.go:180", after := #[{ on := 0, ground := Ground.data }, { on := 9, ground := Ground.data }], guard := none }) (v := ?_) rfl (by kernel_rfl) (by kernel_rfl) (by kernel_rfl) (Or.inl (Or.inl ⟨by rfl, ?_⟩)) ?_
    rotate_left
    ·intro w' hSw
     (try dsimp only at hSw)
     have hs0 := (hSw.cell (p := ⟨ga, 0, none⟩) hgr).trans hp; have hs1 := (hSw.cell (p := ⟨g, off + k * 4, none⟩) hg).trans a0; have hs2 := (hSw.cell (p := ⟨g, off + k * 4 + 1, none⟩) hg).trans a1; have hs3 := (hSw.cell (p := ⟨g, off + k * 4 + 2, none⟩) hg).trans a2; have hs4 := (hSw.cell (p := ⟨g, off + k * 4 + 3, none⟩) hg).trans a3
     first | (go_simp; done) | (go_simp; with_reducible rfl)
    try simp only [Act.put, List.setIfInBounds_toArray, List.set_cons_zero, List.set_cons_succ]
    refine wpAnyD_take (i := 11) (oi := { dst := some 17, op := Op.assign (Operand.tmp 109), type := 9, pos := "law.go:180", after := #[{ on := 10, ground := Ground.data }, { on := 8, ground := Ground.chain }, { on := 0, ground := Ground.phase }, { on := 1, ground := Ground.phase }, { on := 2, ground := Ground.phase }, { on := 3, ground := Ground.phase }, { on := 4, ground := Ground.phase }, { on := 5, ground := Ground.phase }, { on := 6, ground := Ground.phase }, { on := 7, ground := Ground.phase }, { on := 8, ground := Ground.phase }, { on := 9, ground := Ground.phase }, { on := 10, ground := Ground.phase }], guard := none }) (v := ?_) rfl (by kernel_rfl) (by kernel_rfl) (by kernel_rfl) (Or.inl (Or.inl ⟨by rfl, ?_⟩)) ?_
    rotate_left
    ·intro w' hSw
     (try dsimp only at hSw)
     have hs0 := (hSw.cell (p := ⟨ga, 0, none⟩) hgr).trans hp; have hs1 := (hSw.cell (p := ⟨g, off + k * 4, none⟩) hg).trans a0; have hs2 := (hSw.cell (p := ⟨g, off + k * 4 + 1, none⟩) hg).trans a1; have hs3 := (hSw.cell (p := ⟨g, off + k * 4 + 2, none⟩) hg).trans a2; have hs4 := (hSw.cell (p := ⟨g, off + k * 4 + 3, none⟩) hg).trans a3
     first | (go_simp; done) | (go_simp; with_reducible rfl)
    try simp only [Act.put, List.setIfInBounds_toArray, List.set_cons_zero, List.set_cons_succ]
    refine wpAnyD_done (by kernel_rfl) (fun w' hSw => ?_) _
    go_wp2
    go_roundw
    case rel => exact ⟨k + 1, by have := HLT.out; omega, by go_num, by rw [HTS.out, ← HAP.out], hbel.trans (hSw.mono hbel.size)⟩
    case measure => simp [intOf]; have := HLT.out; omega
   ·have hgp : 0 < glen := Nat.pos_of_ne_zero hx0
    have hgt0 : decide ((0 : Int) < (glen : Int)) = true := decide_eq_true (by omega)
    have hgt1 : ((0 : Int) < (glen : Int)) = True := eq_true (by omega)
    have hgt2 : (0 < glen) = True := eq_true hgp
    have hne : xs.flatMap gapCell ≠ [] := by
     intro h9
     have := congrArg List.length h9
     rw [gap_len, HX.out] at this
     simp at this
     omega
    obtain ⟨gg, goff, rfl, hgg, hgc⟩ := HXR.out hne
    have hq : k % glen < glen := Nat.mod_lt _ hgp
    have hc0 := hgc (k % glen) (by rw [gap_len, HX.out]; exact hq)
    rw [gap_cells xs _ (by rw [HX.out]; exact hq)] at hc0
    have hx256 := HXL.out _ (List.getElem_mem (show k % glen < xs.length by rw [HX.out]; exact hq))
    have hxe : xn = xs[k % glen]'(by rw [HX.out]; exact hq) % 4 := by
     rw [← HPK.out, pick, if_neg (by rw [HX.out]; exact hx0)]
     rw [List.getD_eq_getElem?_getD, List.getElem?_eq_getElem (show k % xs.length < xs.length by rw [HX.out]; exact hq)]
     simp [HX.out]
    generalize xs[k % glen]'(by rw [HX.out]; exact hq) = xx at *
    have hbw := HB10.out.trans (hbel.mono HB10.out.size)
    rw [← hbw.cell (p := ⟨gg, _, none⟩) hgg] at hc0
    obtain ⟨q, hqe⟩ : ∃ q, q = k % glen := ⟨_, rfl⟩
    rw [← hqe] at hq hc0
    have m1 : (k : Int).tmod (glen : Int) = (q : Int) := by rw [hqe, Int.ofNat_tmod]
    have m2 : (xx : Int).tmod 4 = (xn : Int) := by rw [hxe]; exact (Int.ofNat_tmod xx 4).symm
    have m3 : ((glen : Int) == 0) = false := by rw [beq_eq_false_iff_ne]; omega
    have m4 : (0 : Int) ≤ (xn : Int) := by omega
    have m5 : (xn : Int) < 4 := by omega
    have m6 : ((4 : Int) ≤ (xn : Int)) = False := eq_false (by omega)
    have m7 : ((xn : Int) < 0) = False := eq_false (by omega)
    have m8 : (4 ≤ xn) = False := eq_false (by omega)
    clear HPK hx0 hqe hxe hgc hne hbw
    go_upto_region 21 with fail
    refine wp_region_det (fun w' => Below wr.heap.size wr w') (by kernel_rfl) (below_drewN (Below.refl _ _) 1) ?_
    refine wpAnyD_take (i := 0) (oi := { dst := some 99, op := Op.move (Operand.tmp 17), type := 9, pos := "law.go:180", after := #[], guard := none }) (v := ?_) rfl (by kernel_rfl) (by kernel_rfl) (by kernel_rfl) (Or.inl (Or.inl ⟨by rfl, ?_⟩)) ?_
    rotate_left
    ·intro w' hSw
     (try dsimp only at hSw)
     have hs0 := (hSw.cell (p := ⟨ga, xn, none⟩) hgr).trans hp; have hs1 := (hSw.cell (p := ⟨g, off + k * 4, none⟩) hg).trans a0; have hs2 := (hSw.cell (p := ⟨g, off + k * 4 + 1, none⟩) hg).trans a1; have hs3 := (hSw.cell (p := ⟨g, off + k * 4 + 2, none⟩) hg).trans a2; have hs4 := (hSw.cell (p := ⟨g, off + k * 4 + 3, none⟩) hg).trans a3
     first | (go_simp; done) | (go_simp; with_reducible rfl)
    try simp only [Act.put, List.setIfInBounds_toArray, List.set_cons_zero, List.set_cons_succ]
    refine wpAnyD_take (i := 1) (oi := { dst := some 100, op := Op.move (Operand.tmp 19), type := 3, pos := "law.go:180", after := #[], guard := none }) (v := ?_) rfl (by kernel_rfl) (by kernel_rfl) (by kernel_rfl) (Or.inl (Or.inl ⟨by rfl, ?_⟩)) ?_
    rotate_left
    ·intro w' hSw
     (try dsimp only at hSw)
     have hs0 := (hSw.cell (p := ⟨ga, xn, none⟩) hgr).trans hp; have hs1 := (hSw.cell (p := ⟨g, off + k * 4, none⟩) hg).trans a0; have hs2 := (hSw.cell (p := ⟨g, off + k * 4 + 1, none⟩) hg).trans a1; have hs3 := (hSw.cell (p := ⟨g, off + k * 4 + 2, none⟩) hg).trans a2; have hs4 := (hSw.cell (p := ⟨g, off + k * 4 + 3, none⟩) hg).trans a3
     first | (go_simp; done) | (go_simp; with_reducible rfl)
    try simp only [Act.put, List.setIfInBounds_toArray, List.set_cons_zero, List.set_cons_succ]
    refine wpAnyD_take (i := 2) (oi := { dst := some 101, op := Op.indexAddr 83 (Operand.tmp 16) (Operand.tmp 100), type := 0, pos := "law.go:180", after := #[{ on := 1, ground := Ground.data }], guard := none }) (v := ?_) rfl (by kernel_rfl) (by kernel_rfl) (by kernel_rfl) (Or.inl (Or.inl ⟨by rfl, ?_⟩)) ?_
    rotate_left
    ·intro w' hSw
     (try dsimp only at hSw)
     have hs0 := (hSw.cell (p := ⟨ga, xn, none⟩) hgr).trans hp; have hs1 := (hSw.cell (p := ⟨g, off + k * 4, none⟩) hg).trans a0; have hs2 := (hSw.cell (p := ⟨g, off + k * 4 + 1, none⟩) hg).trans a1; have hs3 := (hSw.cell (p := ⟨g, off + k * 4 + 2, none⟩) hg).trans a2; have hs4 := (hSw.cell (p := ⟨g, off + k * 4 + 3, none⟩) hg).trans a3
     first | (go_simp; done) | (go_simp; with_reducible rfl)
    try simp only [Act.put, List.setIfInBounds_toArray, List.set_cons_zero, List.set_cons_succ]
    refine wpAnyD_take (i := 3) (oi := { dst := some 102, op := Op.load 9 (Operand.tmp 101), type := 9, pos := "law.go:180", after := #[{ on := 2, ground := Ground.data }], guard := none }) (v := ?_) rfl (by kernel_rfl) (by kernel_rfl) (by kernel_rfl) (Or.inl (Or.inl ⟨by rfl, ?_⟩)) ?_
    rotate_left
    ·intro w' hSw
     (try dsimp only at hSw)
     have hs0 := (hSw.cell (p := ⟨ga, xn, none⟩) hgr).trans hp; have hs1 := (hSw.cell (p := ⟨g, off + k * 4, none⟩) hg).trans a0; have hs2 := (hSw.cell (p := ⟨g, off + k * 4 + 1, none⟩) hg).trans a1; have hs3 := (hSw.cell (p := ⟨g, off + k * 4 + 2, none⟩) hg).trans a2; have hs4 := (hSw.cell (p := ⟨g, off + k * 4 + 3, none⟩) hg).trans a3
     first | (go_simp; done) | (go_simp; with_reducible rfl)
    try simp only [Act.put, List.setIfInBounds_toArray, List.set_cons_zero, List.set_cons_succ]
    refine wpAnyD_take (i := 4) (oi := { dst := some 103, op := Op.move (Operand.tmp 13), type := 65, pos := "law.go:180", after := #[], guard := none }) (v := ?_) rfl (by kernel_rfl) (by kernel_rfl) (by kernel_rfl) (Or.inl (Or.inl ⟨by rfl, ?_⟩)) ?_
    rotate_left
    ·intro w' hSw
     (try dsimp only at hSw)
     have hs0 := (hSw.cell (p := ⟨ga, xn, none⟩) hgr).trans hp; have hs1 := (hSw.cell (p := ⟨g, off + k * 4, none⟩) hg).trans a0; have hs2 := (hSw.cell (p := ⟨g, off + k * 4 + 1, none⟩) hg).trans a1; have hs3 := (hSw.cell (p := ⟨g, off + k * 4 + 2, none⟩) hg).trans a2; have hs4 := (hSw.cell (p := ⟨g, off + k * 4 + 3, none⟩) hg).trans a3
     first | (go_simp; done) | (go_simp; with_reducible rfl)
    try simp only [Act.put, List.setIfInBounds_toArray, List.set_cons_zero, List.set_cons_succ]
    refine wpAnyD_take (i := 5) (oi := { dst := some 104, op := Op.move (Operand.tmp 18), type := 3, pos := "law.go:180", after := #[], guard := none }) (v := ?_) rfl (by kernel_rfl) (by kernel_rfl) (by kernel_rfl) (Or.inl (Or.inl ⟨by rfl, ?_⟩)) ?_
    rotate_left
    ·intro w' hSw
     (try dsimp only at hSw)
     have hs0 := (hSw.cell (p := ⟨ga, xn, none⟩) hgr).trans hp; have hs1 := (hSw.cell (p := ⟨g, off + k * 4, none⟩) hg).trans a0; have hs2 := (hSw.cell (p := ⟨g, off + k * 4 + 1, none⟩) hg).trans a1; have hs3 := (hSw.cell (p := ⟨g, off + k * 4 + 2, none⟩) hg).trans a2; have hs4 := (hSw.cell (p := ⟨g, off + k * 4 + 3, none⟩) hg).trans a3
     first | (go_simp; done) | (go_simp; with_reducible rfl)
    try simp only [Act.put, List.setIfInBounds_toArray, List.set_cons_zero, List.set_cons_succ]
    refine wpAnyD_take (i := 6) (oi := { dst := some 105, op := Op.indexAddr 65 (Operand.tmp 103) (Operand.tmp 104), type := 0, pos := "law.go:180", after := #[{ on := 4, ground := Ground.data }, { on := 5, ground := Ground.data }], guard := none }) (v := ?_) rfl (by kernel_rfl) (by kernel_rfl) (by kernel_rfl) (Or.inl (Or.inl ⟨by rfl, ?_⟩)) ?_
    rotate_left
    ·intro w' hSw
     (try dsimp only at hSw)
     have hs0 := (hSw.cell (p := ⟨ga, xn, none⟩) hgr).trans hp; have hs1 := (hSw.cell (p := ⟨g, off + k * 4, none⟩) hg).trans a0; have hs2 := (hSw.cell (p := ⟨g, off + k * 4 + 1, none⟩) hg).trans a1; have hs3 := (hSw.cell (p := ⟨g, off + k * 4 + 2, none⟩) hg).trans a2; have hs4 := (hSw.cell (p := ⟨g, off + k * 4 + 3, none⟩) hg).trans a3
     first | (go_simp; done) | (go_simp; with_reducible rfl)
    try simp only [Act.put, List.setIfInBounds_toArray, List.set_cons_zero, List.set_cons_succ]
    refine wpAnyD_take (i := 7) (oi := { dst := some 106, op := Op.load 69 (Operand.tmp 105), type := 69, pos := "law.go:180", after := #[{ on := 6, ground := Ground.data }], guard := none }) (v := ?_) rfl (by kernel_rfl) (by kernel_rfl) (by kernel_rfl) (Or.inl (Or.inl ⟨by rfl, ?_⟩)) ?_
    rotate_left
    ·intro w' hSw
     (try dsimp only at hSw)
     have hs0 := (hSw.cell (p := ⟨ga, xn, none⟩) hgr).trans hp; have hs1 := (hSw.cell (p := ⟨g, off + k * 4, none⟩) hg).trans a0; have hs2 := (hSw.cell (p := ⟨g, off + k * 4 + 1, none⟩) hg).trans a1; have hs3 := (hSw.cell (p := ⟨g, off + k * 4 + 2, none⟩) hg).trans a2; have hs4 := (hSw.cell (p := ⟨g, off + k * 4 + 3, none⟩) hg).trans a3
     first | (go_simp; done) | (go_simp; with_reducible rfl)
    try simp only [Act.put, List.setIfInBounds_toArray, List.set_cons_zero, List.set_cons_succ]
    refine wpAnyD_take (i := 8) (oi := { dst := some 107, op := Op.call { callee := Callee.value (Operand.func 35), args := #[Operand.tmp 106], argTypes := #[69] }, type := 9, pos := "law.go:180", after := #[{ on := 7, ground := Ground.data }], guard := none }) (v := (.string WB)) rfl (by kernel_rfl) (by kernel_rfl) (by kernel_rfl) (Or.inr ⟨by rfl, 35, #[.agg #[.int .i64 tk, .string ⟨tt.toArray⟩, .int .i64 tn, .int .i64 (tp : Int)]], ?_, ?_⟩) ?_
    ·intro w' hSw
     (try dsimp only at hSw)
     first | rfl | (go_simp; done) | (go_simp; with_reducible rfl)
    ·intro w' hSw
     exact (HWC.out w' (hLr.out.below hSw)).mono fun e u ⟨he, hb⟩ => ⟨he, hSw.trans (hb.mono hSw.size)⟩
    try simp only [Act.put, List.setIfInBounds_toArray, List.set_cons_zero, List.set_cons_succ]
    refine wpAnyD_take (i := 9) (oi := { dst := some 108, op := Op.binOp BinOp.add 9 (Operand.tmp 102) (Operand.tmp 107) 9, type := 9, pos := "law.go:180", after := #[{ on := 3, ground := Ground.data }, { on := 8, ground := Ground.data }], guard := none }) (v := ?_) rfl (by kernel_rfl) (by kernel_rfl) (by kernel_rfl) (Or.inl (Or.inl ⟨by rfl, ?_⟩)) ?_
    rotate_left
    ·intro w' hSw
     (try dsimp only at hSw)
     have hs0 := (hSw.cell (p := ⟨ga, xn, none⟩) hgr).trans hp; have hs1 := (hSw.cell (p := ⟨g, off + k * 4, none⟩) hg).trans a0; have hs2 := (hSw.cell (p := ⟨g, off + k * 4 + 1, none⟩) hg).trans a1; have hs3 := (hSw.cell (p := ⟨g, off + k * 4 + 2, none⟩) hg).trans a2; have hs4 := (hSw.cell (p := ⟨g, off + k * 4 + 3, none⟩) hg).trans a3
     first | (go_simp; done) | (go_simp; with_reducible rfl)
    try simp only [Act.put, List.setIfInBounds_toArray, List.set_cons_zero, List.set_cons_succ]
    refine wpAnyD_take (i := 10) (oi := { dst := some 109, op := Op.binOp BinOp.add 9 (Operand.tmp 99) (Operand.tmp 108) 9, type := 9, pos := "law.go:180", after := #[{ on := 0, ground := Ground.data }, { on := 9, ground := Ground.data }], guard := none }) (v := ?_) rfl (by kernel_rfl) (by kernel_rfl) (by kernel_rfl) (Or.inl (Or.inl ⟨by rfl, ?_⟩)) ?_
    rotate_left
    ·intro w' hSw
     (try dsimp only at hSw)
     have hs0 := (hSw.cell (p := ⟨ga, xn, none⟩) hgr).trans hp; have hs1 := (hSw.cell (p := ⟨g, off + k * 4, none⟩) hg).trans a0; have hs2 := (hSw.cell (p := ⟨g, off + k * 4 + 1, none⟩) hg).trans a1; have hs3 := (hSw.cell (p := ⟨g, off + k * 4 + 2, none⟩) hg).trans a2; have hs4 := (hSw.cell (p := ⟨g, off + k * 4 + 3, none⟩) hg).trans a3
     first | (go_simp; done) | (go_simp; with_reducible rfl)
    try simp only [Act.put, List.setIfInBounds_toArray, List.set_cons_zero, List.set_cons_succ]
    refine wpAnyD_take (i := 11) (oi := { dst := some 17, op := Op.assign (Operand.tmp 109), type := 9, pos := "law.go:180", after := #[{ on := 10, ground := Ground.data }, { on := 8, ground := Ground.chain }, { on := 0, ground := Ground.phase }, { on := 1, ground := Ground.phase }, { on := 2, ground := Ground.phase }, { on := 3, ground := Ground.phase }, { on := 4, ground := Ground.phase }, { on := 5, ground := Ground.phase }, { on := 6, ground := Ground.phase }, { on := 7, ground := Ground.phase }, { on := 8, ground := Ground.phase }, { on := 9, ground := Ground.phase }, { on := 10, ground := Ground.phase }], guard := none }) (v := ?_) rfl (by kernel_rfl) (by kernel_rfl) (by kernel_rfl) (Or.inl (Or.inl ⟨by rfl, ?_⟩)) ?_
    rotate_left
    ·intro w' hSw
     (try dsimp only at hSw)
     have hs0 := (hSw.cell (p := ⟨ga, xn, none⟩) hgr).trans hp; have hs1 := (hSw.cell (p := ⟨g, off + k * 4, none⟩) hg).trans a0; have hs2 := (hSw.cell (p := ⟨g, off + k * 4 + 1, none⟩) hg).trans a1; have hs3 := (hSw.cell (p := ⟨g, off + k * 4 + 2, none⟩) hg).trans a2; have hs4 := (hSw.cell (p := ⟨g, off + k * 4 + 3, none⟩) hg).trans a3
     first | (go_simp; done) | (go_simp; with_reducible rfl)
    try simp only [Act.put, List.setIfInBounds_toArray, List.set_cons_zero, List.set_cons_succ]
    refine wpAnyD_done (by kernel_rfl) (fun w' hSw => ?_) _
    go_wp2
    go_roundw
    case rel => exact ⟨k + 1, by have := HLT.out; omega, by go_num, by rw [HTS.out, ← HAP.out], hbel.trans (hSw.mono hbel.size)⟩
    case measure => simp [intOf]; have := HLT.out; omega
  ·obtain rfl : k = toks.length := by omega
   rw [List.take_length]
   have HB11 := Lib.hid (HB10.out.trans (hbel.mono HB10.out.size))
   have HIN11 := Lib.hid (HIN10.out.below hbel)
   have HE := Lib.hid (HPG2.out (pick xs) wr)
   obtain ⟨UB, HUB⟩ : ∃ B, Hid (ByteArray.mk (gapU (pick xs) toks).toArray = B) := ⟨_, Lib.hid rfl⟩
   rw [HUB.out] at HE ⊢
   clear HPG2 hbel HTR10 HB10 HIN10
   go_wp2_with fail
   refine HE.out.mono ?_
   rintro e w12 ⟨us, A5, d5, hus, rfl, hd5, hm5, hin5, hb⟩
   have HB12 := Lib.hid (HB11.out.trans (hb.mono HB11.out.size))
   have HIN12 := Lib.hid (HIN11.out.below hb)
   have HUS := Lib.hid hus
   have HU12 := Lib.hid hin5
   have HMus := Lib.hid hm5
   clear hb HE HB11 HIN11 hus hin5 hd5 hm5
   have n2 : ((0 : Int) == 0) = true := rfl
   have HT13 := Lib.hid (theirs_any ms A2 d2 w12 HIN12.out (by have := HMms.out; omega) (Nat.zero_le _))
   go_wp2_with fail
   refine HT13.out.mono ?_
   rintro e w13 ⟨⟨t13, B13, c13, hk, rfl, hown, hsrc⟩, hb⟩
   have HB13 := Lib.hid (HB12.out.trans (hb.mono HB12.out.size))
   have HI13 := Lib.hid (show SrcsIn 41 38 140 0 w13 B13 t13 from ⟨At.of_own hown, hsrc⟩)
   have HK13 := Lib.hid hk
   have HLK13 : Hid (t13.length = ms.length) := Lib.hid (by simpa using congrArg List.length hk)
   have HIN13 := Lib.hid (HIN12.out.below hb)
   have HU13 := Lib.hid (HU12.out.below hb)
   clear hk hown hsrc hb HT13 HB12 HIN12 HU12
   have HT14 := Lib.hid (theirs_any us A5 d5 w13 HU13.out (by have := HMus.out; omega) (Nat.zero_le _))
   go_wp2_with fail
   refine HT14.out.mono ?_
   rintro e w14 ⟨⟨t14, B14, c14, hk, rfl, hown, hsrc⟩, hb⟩
   have HB14 := Lib.hid (HB13.out.trans (hb.mono HB13.out.size))
   have HI14 := Lib.hid (show SrcsIn 41 38 140 0 w14 B14 t14 from ⟨At.of_own hown, hsrc⟩)
   have HK14 := Lib.hid hk
   have HLK14 : Hid (t14.length = us.length) := Lib.hid (by simpa using congrArg List.length hk)
   have HIx13 := Lib.hid (HI13.out.below hb)
   have HU14 := Lib.hid (HU13.out.below hb)
   clear hk hown hsrc hb HT14 HB13 HI13 HU13
   have HSM15 := Lib.hid (refSame_any (TT := 41) (TO := 38) (TS := 140) (TT' := 41) (TO' := 38) (TS' := 140) (base := 0) (base' := 0) t13 t14 B13 B14 c13 c14 w14 HIx13.out HI14.out (by have := HLK13.out; have := HMms.out; omega) (by rw [HK13.out, HK14.out, HMS.out, HUS.out]))
   rw [HLK13.out, HLK14.out] at HSM15
   go_wp2_with fail
   refine HSM15.out.mono ?_
   rintro e w15 ⟨rfl, hb⟩
   have HB15 := Lib.hid (HB14.out.trans (hb.mono HB14.out.size))
   clear hb HSM15 HB14
   go_wp2
   go_ret
   exact ⟨rfl, HB15.out⟩
end Go.Proofs.YtnkkcknogkgdkaaGreatDoor.PaW
