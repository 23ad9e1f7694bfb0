/- The law LexBlanks, walked: blanks and comments between tokens do not change the tokens. Conditions: the library's table of powers of ten holds what its text lays; the choices of blanks lie in memory. -/
import Derived.Test.YthcfkfehcmkhnaaDoorLexOpen
import Derived.Test.YthcfkfehcmkhnaaDoorLexL6
import Derived.Deep.RegionHeld3
namespace Go.Proofs.YthcfkfehcmkhnaaDoor.LexW
open Go Go.RowKit Go.Proofs.YthcfkfehcmkhnaaDoor.Mem

def gapOf : Nat → List UInt8
  | 0 => [32]
  | 1 => [10]
  | 2 => [9, 9]
  | _ => [32, 35, 32, 97, 32, 125, 32, 49, 98, 10]
theorem gapOf_gap (k : Nat) : Lex.Gap (gapOf k) := by
  match k with
  | 0 => exact Lex.gap_space
  | 1 => exact Lex.gap_feed
  | 2 => exact Lex.gap_tabs
  | k + 3 => exact Lex.gap_note
theorem gapOf_len (k : Nat) : (gapOf k).length ≤ 10 := by
  match k with
  | 0 => simp [gapOf]
  | 1 => simp [gapOf]
  | 2 => simp [gapOf]
  | k + 3 => simp [gapOf]
def pick (xs : List Nat) (i : Nat) : Nat := if xs.length = 0 then 0 else xs.getD (i % xs.length) 0 % 4
def dTok : Lex.Tok := ⟨0, [], 0, 0⟩
def glued (xs : List Nat) (l : List Lex.Tok) (k : Nat) : List (List UInt8 × Lex.Tok) := (List.range k).map fun i => (gapOf (pick xs i), l.getD i dTok)
def gtext (xs : List Nat) (l : List Lex.Tok) (k : Nat) : List UInt8 := Lex.glue (glued xs l k)
theorem glue_append : ∀ (a b : List (List UInt8 × Lex.Tok)), Lex.glue (a ++ b) = Lex.glue a ++ Lex.glue b
  | [], _ => rfl
  | x :: r, b => by
    show x.1 ++ (Lex.write x.2 ++ Lex.glue (r ++ b)) = x.1 ++ (Lex.write x.2 ++ Lex.glue r) ++ Lex.glue b
    rw [glue_append r b]; simp
theorem gtext_snoc (xs : List Nat) (l : List Lex.Tok) (k : Nat) (h : k < l.length) : gtext xs l (k + 1) = gtext xs l k ++ (gapOf (pick xs k) ++ Lex.write l[k]) := by
  unfold gtext glued
  rw [List.range_succ, List.map_append, glue_append]
  simp [Lex.glue, List.getElem?_eq_getElem h]
theorem glued_keys (xs : List Nat) (l : List Lex.Tok) : ((glued xs l l.length).map fun x => Lex.key x.2) = l.map Lex.key := by
  unfold glued
  rw [List.map_map]
  apply List.ext_getElem
  · simp
  · intro i h1 h2
    simp at h1
    simp [List.getElem?_eq_getElem h1]
theorem glued_mem {xs : List Nat} {l : List Lex.Tok} {k : Nat} (hk : k ≤ l.length) {x : List UInt8 × Lex.Tok} (h : x ∈ glued xs l k) : Lex.Gap x.1 ∧ x.2 ∈ l := by
  unfold glued at h
  obtain ⟨i, hi, rfl⟩ := List.mem_map.1 h
  rw [List.mem_range] at hi
  refine ⟨gapOf_gap _, ?_⟩
  simp only [List.getD_eq_getElem?_getD, List.getElem?_eq_getElem (show i < l.length by omega), Option.getD_some]
  exact List.getElem_mem _
theorem gtext_len (xs : List Nat) (l : List Lex.Tok) : ∀ (k : Nat), k ≤ l.length → (gtext xs l k).length ≤ wsum (l.take k) + 10 * k
  | 0, _ => by simp [gtext, glued, Lex.glue]
  | k + 1, h => by
    have ih := gtext_len xs l k (by omega)
    have h2 := gapOf_len (pick xs k)
    rw [gtext_snoc xs l k (by omega), take_snoc l k (by omega)]
    simp only [wsum, List.map_append, List.sum_append, List.length_append, List.map_cons, List.map_nil, List.sum_cons, List.sum_nil] at ih ⊢
    omega
theorem wsum_take (l : List Lex.Tok) (k : Nat) : wsum (l.take k) ≤ wsum l := by
  conv => rhs; rw [← List.take_append_drop k l]
  simp only [wsum, List.map_append, List.sum_append]
  omega
theorem arr_cell (w : World) (T : TypeId) (p : Nat) (h : p < 4) : (w.alloc (.cells #[.string ⟨#[32]⟩, .string ⟨#[10]⟩, .string ⟨#[9, 9]⟩, .string ⟨#[32, 35, 32, 97, 32, 125, 32, 49, 98, 10]⟩] T)).cell? ⟨w.heap.size, p, none⟩ = some (.string ⟨(gapOf p).toArray⟩) := by
  match p, h with
  | 0, _ => simp [gapOf]
  | 1, _ => simp [gapOf]
  | 2, _ => simp [gapOf]
  | 3, _ => simp [gapOf]
theorem below_drew {B : Nat} {a w : World} (h : Below B a w) : Below B a w.drew := ⟨h.os, h.tape, h.output, h.size, h.block⟩
theorem held5 {wr w0 w' : World} {p a b c d : Addr} {vp va vb vc vd : Value} (h : w0.cell? p = some vp ∧ w0.cell? a = some va ∧ w0.cell? b = some vb ∧ w0.cell? c = some vc ∧ w0.cell? d = some vd ∧ Below wr.heap.size wr w0) (hb : Below w0.heap.size w0 w')
    (hp : p.block < wr.heap.size) (ha : a.block < wr.heap.size) (eb : b.block = a.block) (ec : c.block = a.block) (ed : d.block = a.block) :
    w'.cell? p = some vp ∧ w'.cell? a = some va ∧ w'.cell? b = some vb ∧ w'.cell? c = some vc ∧ w'.cell? d = some vd ∧ Below wr.heap.size wr w' := by
  obtain ⟨h1, h2, h3, h4, h5, h6⟩ := h
  have hz := h6.size
  exact ⟨(hb.cell (by omega)).trans h1, (hb.cell (by omega)).trans h2, (hb.cell (by omega)).trans h3, (hb.cell (by omega)).trans h4, (hb.cell (by omega)).trans h5, h6.trans (hb.mono hz)⟩
theorem laid5 {wr w0 : World} {p a b c d : Addr} {vp va vb vc vd : Value} (hL : Laid wr) (h : w0.cell? p = some vp ∧ w0.cell? a = some va ∧ w0.cell? b = some vb ∧ w0.cell? c = some vc ∧ w0.cell? d = some vd ∧ Below wr.heap.size wr w0) : Laid w0 := hL.below h.2.2.2.2.2
theorem pick_lt (xs : List Nat) (i : Nat) : pick xs i < 4 := by
  unfold pick
  split
  · omega
  · exact Nat.mod_lt _ (by omega)
theorem gtext_lex (xs : List Nat) (l : List Lex.Tok) (hw : ∀ t ∈ l, Lex.Word t (Lex.write t)) :
    (Lex.lex (gtext xs l l.length ++ [32, 35, 32, 116, 104, 101, 32, 101, 110, 100]) 0).err = 0 ∧ (Lex.lex (gtext xs l l.length ++ [32, 35, 32, 116, 104, 101, 32, 101, 110, 100]) 0).toks.map Lex.key = l.map Lex.key := by
  have h := Lex.lex_glue (tail := [32, 35, 32, 116, 104, 101, 32, 101, 110, 100]) (by simp [Lex.stop, Lex.inner, Lex.letter, Lex.digit]) Lex.lex_end (glued xs l l.length)
    (fun x hx => (glued_mem (Nat.le_refl _) hx).1) (fun x hx => hw _ (glued_mem (Nat.le_refl _) hx).2) 0
  rw [glued_keys] at h
  exact h

set_option maxRecDepth 100000 in
set_option maxHeartbeats 1000000 in
theorem lexBlanks_ok (s : ByteArray) (G : Option Addr) (glen gcap : Nat) (xs : List Nat) (tA tB : List Lex.Tok) (pA pB : Nat) (w : World) (hs : s.size ≤ 600) (hg40 : glen ≤ 40) (hL : Laid w)
    (hgl : xs.length = glen) (hG : Row w G (xs.flatMap gapCell)) (hxl : ∀ x ∈ xs, x < 256)
    (hA : ∀ W : World, Calls Tryd.prog 11 #[.string s] W fun e w' => (∃ A c, e = .returned (.tuple #[.slice A tA.length c, .int .i64 (pA : Int), .int .i64 0]) ∧ Row w' A (toksCells tA)) ∧ Below W.heap.size W w')
    (hB : ∀ W : World, Calls Tryd.prog 11 #[.string ⟨(gtext xs tA tA.length ++ [32, 35, 32, 116, 104, 101, 32, 101, 110, 100]).toArray⟩] W fun e w' => (∃ A c, e = .returned (.tuple #[.slice A tB.length c, .int .i64 (pB : Int), .int .i64 0]) ∧ Row w' A (toksCells tB)) ∧ Below W.heap.size W w')
    (hi : ∀ t ∈ tA, I64 t.n) (lA : tA.length ≤ 600) (lB : tB.length ≤ 10000) (lT : wsum tA ≤ 600) (hsame : same false tA tB = true) :
    Calls Tryd.prog 6 #[.string s, .slice G glen gcap] w fun e w' => e = .returned (.bool true) ∧ Below w.heap.size w w' := by
  have HA := Lib.hid hA
  have HB := Lib.hid hB
  have HI := Lib.hid hi
  have HL := Lib.hid hL
  have HS := Lib.hid hsame
  have HG := Lib.hid hG
  have HX := Lib.hid hgl
  have HXL := Lib.hid hxl
  clear hA hB hi hL hsame hG hgl hxl
  go_enter Tryd.func6, Tryd.ntmps6
  go_wp2_with fail
  refine (awake_any _).mono ?_
  rintro e w1 ⟨rfl, hb1⟩
  go_wp2_with fail
  refine (HA.out _).mono ?_
  rintro e w2 ⟨⟨A2, c2, rfl, r2⟩, hb2⟩
  have hb12 := hb1.trans (hb2.mono hb1.size)
  clear hb1 hb2
  go_wp2
  have hb23 : Below w2.heap.size w2 (w2.alloc (.cells #[.string ⟨#[32]⟩, .string ⟨#[10]⟩, .string ⟨#[9, 9]⟩, .string ⟨#[32, 35, 32, 97, 32, 125, 32, 49, 98, 10]⟩] 39)) := (Below.refl _ _).alloc (Nat.le_refl _) _
  have hsz : (w2.alloc (.cells #[.string ⟨#[32]⟩, .string ⟨#[10]⟩, .string ⟨#[9, 9]⟩, .string ⟨#[32, 35, 32, 97, 32, 125, 32, 49, 98, 10]⟩] 39)).heap.size = w2.heap.size + 1 := Array.size_push ..
  have HARR := Lib.hid (arr_cell w2 39)
  generalize w2.alloc (.cells #[.string ⟨#[32]⟩, .string ⟨#[10]⟩, .string ⟨#[9, 9]⟩, .string ⟨#[32, 35, 32, 97, 32, 125, 32, 49, 98, 10]⟩] 39) = w3 at *
  have R3 := Lib.hid (r2.below hb23)
  have hb13 := hb12.trans (hb23.mono hb12.size)
  obtain ⟨ga, hga⟩ : ∃ ga, ga = w2.heap.size := ⟨_, rfl⟩
  rw [← hga] at hsz HARR ⊢
  have hga3 : ga < w3.heap.size := by omega
  clear hb23 hb12 r2 hga
  go_loopw [9, 10] (fun t i wr => ∃ k : Nat, k ≤ tA.length ∧ i = .int .i64 k ∧ t = .string ⟨(gtext xs tA k).toArray⟩ ∧ Below w3.heap.size w3 wr) (fun _ i _ => tA.length - (intOf i).toNat)
  case atStart => exact ⟨0, Nat.zero_le _, rfl, rfl, Below.refl _ _⟩
  case round =>
    obtain ⟨k, hk, rfl, rfl, hbel⟩ := hrel
    by_cases hlt : k < tA.length
    · have h0 : tA ≠ [] := by rintro rfl; simp at hlt
      obtain ⟨g, off, rfl, hg, ca⟩ := row_tok (R3.out.below hbel) h0
      obtain ⟨a0, a1, a2, a3⟩ := ca k hlt
      have HTS := Lib.hid (gtext_snoc xs tA k hlt)
      have z1 : (ByteArray.mk (gtext xs tA k).toArray).size = (gtext xs tA k).length := str_size _
      have z2 := gtext_len xs tA k hk
      have z2' := wsum_take tA k
      have z3 := gtext_len xs tA (k + 1) hlt
      have z3' := wsum_take tA (k + 1)
      have z4 := gapOf_len (pick xs k)
      have hp := (hbel.cell (p := ⟨ga, pick xs k, none⟩) hga3).trans (HARR.out _ (pick_lt xs k))
      have hp4 := pick_lt xs k
      have hi64 := Lib.hid (HI.out tA[k] (List.getElem_mem hlt))
      have hwr : Lex.write tA[k] = if tA[k].kind = 2 then Lib.itoa tA[k].n else tA[k].text := rfl
      rw [HTS.out] at z3
      rw [hwr] at HTS z3
      clear hwr ca h0
      generalize tA[k] = tk at *
      obtain ⟨tk, tt, tn, tp⟩ := tk
      simp only at HTS a0 a1 a2 a3 hi64 z3
      generalize gtext xs tA k = gt at *
      have HWC := Lib.hid (fun (W : World) (h : Laid W) => write_any tk tn (tp : Int) tt W h hi64.out)
      generalize (if tk = 2 then Lib.itoa tn else tt) = wl at HWC HTS z3
      have z5 : (ByteArray.mk wl.toArray).size = wl.length := str_size _
      simp only [List.length_append] at z3
      have hgr : ga < wr.heap.size := Nat.lt_of_lt_of_le hga3 hbel.size
      have hLr := Lib.hid (HL.out.below (hb13.trans (hbel.mono hb13.size)))
      obtain ⟨xn, hxn⟩ : ∃ xn, xn = pick xs k := ⟨_, rfl⟩
      have HPK := Lib.hid hxn
      rw [← hxn] at hp hp4 z4 HTS z3
      have z6 : (ByteArray.mk (gapOf xn).toArray).size = (gapOf xn).length := str_size _
      have HAP : Hid (ByteArray.mk gt.toArray ++ (ByteArray.mk (gapOf xn).toArray ++ ByteArray.mk wl.toArray) = ⟨(gt ++ (gapOf xn ++ wl)).toArray⟩) := Lib.hid (by rw [str_append, str_append])
      generalize ByteArray.mk wl.toArray = WB at *
      generalize ByteArray.mk gt.toArray = TB at *
      obtain ⟨GB, hGB⟩ : ∃ GB, GB = ByteArray.mk (gapOf xn).toArray := ⟨_, rfl⟩
      rw [← hGB] at hp HAP z6
      clear hGB
      have n1 : (9223372036854775807 < GB.size + WB.size) = False := eq_false (by omega)
      have n2 : (9223372036854775807 < TB.size + (GB.size + WB.size)) = False := eq_false (by omega)
      have n3 : (9223372036854775807 < TB.size + (GB ++ WB).size) = False := by rw [ByteArray.size_append]; exact n2
      clear z1 z5 z6 z2 z2' z3 z3' z4
      by_cases hx0 : glen = 0
      · have hgt0 : decide ((0 : Int) < (glen : Int)) = false := by simp; omega
        have hgt1 : (0 < glen) = False := eq_false (by omega)
        have : xn = 0 := by rw [hxn, pick, if_pos (by rw [HX.out]; exact hx0)]
        subst this
        clear hxn HPK hx0
        go_wp2
        go_region_held3 (fun w' => w'.cell? ⟨ga, 0, none⟩ = some (.string GB) ∧ w'.cell? ⟨g, off + k * 4, none⟩ = some (.int .i64 tk) ∧ w'.cell? ⟨g, off + k * 4 + 1, none⟩ = some (.string ⟨tt.toArray⟩) ∧ w'.cell? ⟨g, off + k * 4 + 2, none⟩ = some (.int .i64 tn) ∧ w'.cell? ⟨g, off + k * 4 + 3, none⟩ = some (.int .i64 (tp : Int)) ∧ Below wr.heap.size wr w')
          (first | assumption | exact ⟨hp, a0, a1, a2, a3, below_drew (Below.refl _ _)⟩ | (refine held5 ?_ hb4 hgr hg rfl rfl rfl; assumption))
          (first | (go_at_call 16; refine (HWC.out _ (laid5 hLr.out (by assumption))).mono ?_; rintro e w4 ⟨rfl, hb4⟩))
        go_wp2
        go_roundw
        case rel =>
          refine ⟨k + 1, hlt, by go_num, ?_, ?_⟩
          · rw [HTS.out, ← HAP.out]
          · obtain ⟨_, _, _, _, _, hbF⟩ := ‹_ ∧ _ ∧ _ ∧ _ ∧ _ ∧ Below _ _ _›
            exact hbel.trans (hbF.mono hbel.size)
        case measure => simp [intOf]; omega
      · have hgp : 0 < glen := Nat.pos_of_ne_zero hx0
        have hgt0 : decide ((0 : Int) < (glen : Int)) = true := by simp; omega
        have hgt1 : (0 < glen) = True := eq_true hgp
        have hne : xs.flatMap gapCell ≠ [] := by
          intro h9
          have := congrArg List.length h9
          rw [gap_len, HX.out] at this
          simp at this; omega
        obtain ⟨gg, goff, rfl, hgg, hgc⟩ := HG.out hne
        have hq : k % glen < glen := Nat.mod_lt _ hgp
        have hc0 := hgc (k % glen) (by rw [gap_len, HX.out]; exact hq)
        rw [gap_cells xs _ (by rw [HX.out]; exact hq)] at hc0
        have hx256 := HXL.out _ (List.getElem_mem (show k % glen < xs.length by rw [HX.out]; exact hq))
        have hxe : xn = xs[k % glen]'(by rw [HX.out]; exact hq) % 4 := by
          rw [hxn, pick, if_neg (by rw [HX.out]; exact hx0)]
          rw [List.getD_eq_getElem?_getD, List.getElem?_eq_getElem (show k % xs.length < xs.length by rw [HX.out]; exact hq)]
          simp [HX.out]
        generalize xs[k % glen]'(by rw [HX.out]; exact hq) = xx at *
        have hbw := hb13.trans (hbel.mono hb13.size)
        rw [← hbw.cell (p := ⟨gg, _, none⟩) hgg] at hc0
        obtain ⟨q, hqe⟩ : ∃ q, q = k % glen := ⟨_, rfl⟩
        rw [← hqe] at hq hc0
        have m1 : (k : Int).tmod (glen : Int) = (q : Int) := by rw [hqe, Int.ofNat_tmod]
        have m2 : (xx : Int).tmod 4 = (xn : Int) := by rw [hxe]; exact (Int.ofNat_tmod xx 4).symm
        have m3 : ((glen : Int) == 0) = false := by rw [beq_eq_false_iff_ne]; omega
        have m4 : (0 : Int) ≤ (xn : Int) := by omega
        have m5 : (xn : Int) < 4 := by omega
        have m6 : ((4 : Int) ≤ (xn : Int)) = False := eq_false (by omega)
        have m7 : ((xn : Int) < 0) = False := eq_false (by omega)
        have m8 : (4 ≤ xn) = False := eq_false (by omega)
        clear hxn HPK hx0 hqe hxe hgc hne hbw
        go_wp2
        go_region_held3 (fun w' => w'.cell? ⟨ga, xn, none⟩ = some (.string GB) ∧ w'.cell? ⟨g, off + k * 4, none⟩ = some (.int .i64 tk) ∧ w'.cell? ⟨g, off + k * 4 + 1, none⟩ = some (.string ⟨tt.toArray⟩) ∧ w'.cell? ⟨g, off + k * 4 + 2, none⟩ = some (.int .i64 tn) ∧ w'.cell? ⟨g, off + k * 4 + 3, none⟩ = some (.int .i64 (tp : Int)) ∧ Below wr.heap.size wr w')
          (first | assumption | exact ⟨hp, a0, a1, a2, a3, below_drew (Below.refl _ _)⟩ | (refine held5 ?_ hb4 hgr hg rfl rfl rfl; assumption))
          (first | (go_at_call 16; refine (HWC.out _ (laid5 hLr.out (by assumption))).mono ?_; rintro e w4 ⟨rfl, hb4⟩))
        go_wp2
        go_roundw
        case rel =>
          refine ⟨k + 1, hlt, by go_num, ?_, ?_⟩
          · rw [HTS.out, ← HAP.out]
          · obtain ⟨_, _, _, _, _, hbF⟩ := ‹_ ∧ _ ∧ _ ∧ _ ∧ _ ∧ Below _ _ _›
            exact hbel.trans (hbF.mono hbel.size)
        case measure => simp [intOf]; omega
    · obtain rfl : k = tA.length := by omega
      have hbw := hb13.trans (hbel.mono hb13.size)
      have r3 := R3.out.below hbel
      have z1 : (ByteArray.mk (gtext xs tA tA.length).toArray).size = (gtext xs tA tA.length).length := str_size _
      have z2 := gtext_len xs tA tA.length (Nat.le_refl _)
      have z2' := wsum_take tA tA.length
      have z3 : (ByteArray.mk #[32, 35, 32, 116, 104, 101, 32, 101, 110, 100]).size = 10 := rfl
      have HAP : Hid (ByteArray.mk (gtext xs tA tA.length).toArray ++ (ByteArray.mk #[32, 35, 32, 116, 104, 101, 32, 101, 110, 100]) = ⟨(gtext xs tA tA.length ++ [32, 35, 32, 116, 104, 101, 32, 101, 110, 100]).toArray⟩) := Lib.hid (str_append _ [32, 35, 32, 116, 104, 101, 32, 101, 110, 100])
      clear hbel hb13
      go_wp2_with fail
      rw [HAP.out]
      refine (HB.out _).mono ?_
      rintro e w4 ⟨⟨A4, c4, rfl, r4⟩, hb4⟩
      have r2 := r3.below hb4
      have hb14 := hbw.trans (hb4.mono hbw.size)
      clear hbw hb4 r3 z1 z2 z2' z3
      go_wp2_with fail
      refine (theirs_any tA A2 c2 _ r2 (by omega)).mono ?_
      rintro e w5 ⟨⟨v5, rfl, own5⟩, hb5⟩
      obtain ⟨A5, c5, rfl, _⟩ := own_shape own5
      have q5 := Row.of_own own5
      have q4 := r4.below hb5
      have hb15 := hb14.trans (hb5.mono hb14.size)
      clear own5 hb5 hb14 r4 r2
      go_wp2_with fail
      refine (theirs_any tB A4 c4 _ q4 (by omega)).mono ?_
      rintro e w6 ⟨⟨v6, rfl, own6⟩, hb6⟩
      obtain ⟨A6, c6, rfl, _⟩ := own_shape own6
      have q6 := Row.of_own own6
      have r5 := q5.below hb6
      have hb16 := hb15.trans (hb6.mono hb15.size)
      clear own6 hb6 hb15 q4 q5
      go_wp2_with fail
      refine (rsame_any tA tB A5 A6 c5 c6 false _ r5 q6 (by omega) (by omega)).mono ?_
      rintro e w9 ⟨rfl, hb9⟩
      rw [HS.out]
      have hb20 := hb16.trans (hb9.mono hb16.size)
      go_wp2
      go_ret
      exact ⟨rfl, hb20⟩

set_option maxRecDepth 100000 in
set_option maxHeartbeats 2000000 in
theorem lexBlanks_bad (s : ByteArray) (G : Option Addr) (glen gcap n pos : Nat) (err : Int) (he : (err != 0) = true) (w : World) (hs : s.size ≤ 600) (hg40 : glen ≤ 40)
    (hA : ∀ W : World, Calls Tryd.prog 11 #[.string s] W fun e w' => (∃ A c, e = .returned (.tuple #[.slice A n c, .int .i64 (pos : Int), .int .i64 err])) ∧ Below W.heap.size W w') :
    Calls Tryd.prog 6 #[.string s, .slice G glen gcap] w fun e w' => e = .returned (.bool true) ∧ Below w.heap.size w w' := by
  have HA := Lib.hid hA
  clear hA
  go_enter Tryd.func6, Tryd.ntmps6
  go_wp2_with fail
  refine (awake_any _).mono ?_
  rintro e w1 ⟨rfl, hb1⟩
  go_wp2_with fail
  refine (HA.out _).mono ?_
  rintro e w2 ⟨⟨A2, c2, rfl⟩, hb2⟩
  go_wp2
  go_ret
  exact ⟨rfl, hb1.trans (hb2.mono hb1.size)⟩

set_option maxRecDepth 100000 in
set_option maxHeartbeats 2000000 in
theorem lexBlanks_long (s : ByteArray) (G : Option Addr) (glen gcap : Nat) (w : World) (h : ¬ s.size ≤ 600 ∨ (s.size ≤ 600 ∧ ¬ glen ≤ 40)) :
    Calls Tryd.prog 6 #[.string s, .slice G glen gcap] w fun e w' => e = .returned (.bool true) ∧ Below w.heap.size w w' := by
  rcases h with h | ⟨h, h'⟩
  · go_enter Tryd.func6, Tryd.ntmps6
    go_wp2_with (go_at_call 10; refine (awake_any _).mono ?_; rintro e w1 ⟨rfl, hb1⟩)
    go_ret
    exact ⟨rfl, hb1⟩
  · go_enter Tryd.func6, Tryd.ntmps6
    go_wp2_with (go_at_call 10; refine (awake_any _).mono ?_; rintro e w1 ⟨rfl, hb1⟩)
    go_ret
    exact ⟨rfl, hb1⟩

set_option maxRecDepth 100000 in
set_option maxHeartbeats 2000000 in
theorem lexBlanks_walk (s : ByteArray) (G : Option Addr) (glen gcap : Nat) (xs : List Nat) (w : World) (hx : xs.length = glen ∧ (∀ x ∈ xs, x < 256) ∧ Row w G (xs.flatMap gapCell) ∧ glen ≤ maxLen ∧ glen ≤ gcap) (hL : Laid w) :
    Calls Tryd.prog 6 #[.string s, .slice G glen gcap] w fun e w' => e = .returned (.bool true) ∧ Below w.heap.size w w' := by
  obtain ⟨hx1, hx2, hx3, _, _⟩ := hx
  by_cases ha : s.size ≤ 600
  · by_cases hg : glen ≤ 40
    · have hl := fun W : World => lexed s (by omega) W
      have hn : (Lex.lex s.data.toList 0).toks.length ≤ s.data.toList.length := lex_len
      by_cases he : (Lex.lex s.data.toList 0).err = 0
      · have h1 := okFrom_sum _ _ _ (Nat.zero_le _) (Lex.lex_offs he)
        have h2 := lex_i64 he
        have h3 := gtext_lex xs (Lex.lex s.data.toList 0).toks (Lex.lex_word he)
        have h4 := gtext_len xs (Lex.lex s.data.toList 0).toks _ (Nat.le_refl _)
        have h5 := wsum_take (Lex.lex s.data.toList 0).toks (Lex.lex s.data.toList 0).toks.length
        rw [size_list] at hn h1
        rw [he] at hl
        have hB := fun W : World => lexed ⟨(gtext xs (Lex.lex s.data.toList 0).toks (Lex.lex s.data.toList 0).toks.length ++ [32, 35, 32, 116, 104, 101, 32, 101, 110, 100]).toArray⟩ (by rw [str_size, List.length_append]; simp only [List.length_cons, List.length_nil]; omega) W
        have e1 : (ByteArray.mk (gtext xs (Lex.lex s.data.toList 0).toks (Lex.lex s.data.toList 0).toks.length ++ [32, 35, 32, 116, 104, 101, 32, 101, 110, 100]).toArray).data.toList = gtext xs (Lex.lex s.data.toList 0).toks (Lex.lex s.data.toList 0).toks.length ++ [32, 35, 32, 116, 104, 101, 32, 101, 110, 100] := str_list _
        have hn2 : (Lex.lex (gtext xs (Lex.lex s.data.toList 0).toks (Lex.lex s.data.toList 0).toks.length ++ [32, 35, 32, 116, 104, 101, 32, 101, 110, 100]) 0).toks.length ≤ (gtext xs (Lex.lex s.data.toList 0).toks (Lex.lex s.data.toList 0).toks.length ++ [32, 35, 32, 116, 104, 101, 32, 101, 110, 100]).length := lex_len
        rw [List.length_append] at hn2
        simp only [List.length_cons, List.length_nil] at hn2
        rw [e1, h3.1] at hB
        exact lexBlanks_ok s G glen gcap xs _ _ _ _ w ha hg hL hx1 hx3 hx2 hl hB h2 (by omega) (by omega) (by omega) (same_keys _ _ h3.2.symm)
      · refine lexBlanks_bad s G glen gcap (Lex.lex s.data.toList 0).toks.length (Lex.lex s.data.toList 0).pos (Lex.lex s.data.toList 0).err (by rw [bne_iff_ne]; exact he) w ha hg (fun W => (hl W).mono ?_)
        rintro e w' ⟨⟨A, c, h1, _⟩, h2⟩
        exact ⟨⟨A, c, h1⟩, h2⟩
    · exact lexBlanks_long s G glen gcap w (.inr ⟨ha, hg⟩)
  · exact lexBlanks_long s G glen gcap w (.inl ha)
end Go.Proofs.YthcfkfehcmkhnaaDoor.LexW
