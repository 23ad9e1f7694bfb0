/- The law LexWrite, walked: IsName, Write and Join return what the reference returns. Conditions: the library's table of powers of ten holds what its text lays; the tokens lie in memory. -/
import Derived.Test.YthcfkfehcmkhnaaDoorLexL7
namespace Go.Proofs.YthcfkfehcmkhnaaDoor.LexW
open Go Go.RowKit Go.Proofs.YthcfkfehcmkhnaaDoor.Mem

theorem itoa_len (n : Int) (h : I64 n) : (Lib.itoa n).length ≤ 20 := by
  have hd := dec_len 18 n.natAbs (by unfold I64 at h; omega)
  have hd' := dec_len 18 n.toNat (by unfold I64 at h; omega)
  unfold Lib.itoa
  split
  · simp only [List.length_cons]; omega
  · omega
theorem gwrite_len (t : GT) (h : I64 t.n) (h60 : t.text.length ≤ 60) : (gwrite t).length ≤ 60 := by
  unfold gwrite
  split
  · have := itoa_len t.n h; omega
  · exact h60
theorem gjoin_len (l : List GT) (h : ∀ t ∈ l, I64 t.n ∧ t.text.length ≤ 60) : (gjoin l).length ≤ 61 * l.length := by
  cases l with
  | nil => simp [gjoin, Lib.join_nil]
  | cons t r =>
    have h1 := gwrite_len t (h t (by simp)).1 (h t (by simp)).2
    have h2 : ∀ r : List GT, (∀ t ∈ r, I64 t.n ∧ t.text.length ≤ 60) → (Lib.joinTail [32] (r.map gwrite)).length ≤ 61 * r.length := by
      intro r
      induction r with
      | nil => intro _; simp [Lib.joinTail]
      | cons u r ih =>
        intro hu
        have a := ih fun t ht => hu t (by simp [ht])
        have b := gwrite_len u (hu u (by simp)).1 (hu u (by simp)).2
        simp only [Lib.joinTail, List.map_cons, List.flatten_cons, List.length_append, List.length_cons, List.length_nil] at a ⊢
        omega
    have h3 := h2 r fun t ht => h t (by simp [ht])
    unfold gjoin
    rw [List.map_cons, Lib.join_cons, List.length_append, List.length_cons]
    omega
theorem gts_all (l : List GT) : gtsCells (l.take l.length) = gtsCells l := by rw [List.take_length]
theorem gts_snoc (l : List GT) (k : Nat) (h : k < l.length) : gtsCells (l.take (k + 1)) = gtsCells (l.take k) ++ gtCells l[k] := by rw [take_snoc l k h, gtsCells_snoc]

theorem held8 {wr w0 w' : World} {a b c d a' b' c' d' : Addr} {va vb vc vd va' vb' vc' vd' : Value} (h : w0.cell? a = some va ∧ w0.cell? b = some vb ∧ w0.cell? c = some vc ∧ w0.cell? d = some vd ∧ w0.cell? a' = some va' ∧ w0.cell? b' = some vb' ∧ w0.cell? c' = some vc' ∧ w0.cell? d' = some vd' ∧ Below wr.heap.size wr w0) (hb : Below w0.heap.size w0 w')
    (ha : a.block < wr.heap.size) (eb : b.block = a.block) (ec : c.block = a.block) (ed : d.block = a.block) (ha' : a'.block < wr.heap.size) (eb' : b'.block = a'.block) (ec' : c'.block = a'.block) (ed' : d'.block = a'.block) :
    w'.cell? a = some va ∧ w'.cell? b = some vb ∧ w'.cell? c = some vc ∧ w'.cell? d = some vd ∧ w'.cell? a' = some va' ∧ w'.cell? b' = some vb' ∧ w'.cell? c' = some vc' ∧ w'.cell? d' = some vd' ∧ Below wr.heap.size wr w' := by
  obtain ⟨h1, h2, h3, h4, h5, h6, h7, h8, h9⟩ := h
  have hz := h9.size
  exact ⟨(hb.cell (by omega)).trans h1, (hb.cell (by omega)).trans h2, (hb.cell (by omega)).trans h3, (hb.cell (by omega)).trans h4, (hb.cell (by omega)).trans h5, (hb.cell (by omega)).trans h6, (hb.cell (by omega)).trans h7, (hb.cell (by omega)).trans h8, h9.trans (hb.mono hz)⟩
theorem laid8 {wr w0 : World} {a b c d a' b' c' d' : Addr} {va vb vc vd va' vb' vc' vd' : Value} (hL : Laid wr) (h : w0.cell? a = some va ∧ w0.cell? b = some vb ∧ w0.cell? c = some vc ∧ w0.cell? d = some vd ∧ w0.cell? a' = some va' ∧ w0.cell? b' = some vb' ∧ w0.cell? c' = some vc' ∧ w0.cell? d' = some vd' ∧ Below wr.heap.size wr w0) : Laid w0 := hL.below h.2.2.2.2.2.2.2.2

set_option maxRecDepth 100000 in
set_option maxHeartbeats 1000000 in
theorem lexWrite_short (s : ByteArray) (A : Option Addr) (l : List GT) (cap : Nat) (w : World) (hs : s.size ≤ 60) (hl : l.length ≤ 30) (hr : Row w A (gtsCells l)) (hi : ∀ t ∈ l, I64 t.n ∧ t.text.length ≤ maxLen) (hL : Laid w) :
    Calls Tryd.prog 9 #[.string s, .slice A l.length cap] w fun e w' => e = .returned (.bool true) ∧ Below w.heap.size w w' := by
  have HR := Lib.hid hr
  have HI := Lib.hid hi
  have HL := Lib.hid hL
  clear hr hi hL
  obtain ⟨i0, ia, ib, ic, id⟩ := info_parts tok_info
  go_enter Tryd.func9, Tryd.ntmps9
  go_wp2_with fail
  refine (awake_any _).mono ?_
  rintro e w1 ⟨rfl, hb1⟩
  go_wp2
  go_loopw [5, 6] (fun v i wr => ∃ k : Nat, k ≤ l.length ∧ i = .int .i64 k ∧ wr.ownsRow w.heap.size 37 4 v k (gtsCells (l.take k)) ∧ Below w.heap.size w wr ∧ Hid (∀ t ∈ l.take k, t.text.length ≤ 60)) (fun _ i _ => l.length - (intOf i).toNat)
  case atStart => exact ⟨0, Nat.zero_le _, rfl, World.ownsRow_nil _ _ _ _, hb1, Lib.hid (by simp)⟩
  case round =>
    obtain ⟨k, hk, rfl, hown, hbel, h60⟩ := hrel
    by_cases hlt : k < l.length
    · have h0 : l ≠ [] := by rintro rfl; simp at hlt
      obtain ⟨g, off, rfl, hg, ca⟩ := row_gt HR.out h0
      obtain ⟨A0, A1, A2, A3⟩ := ca k hlt
      have HTS := Lib.hid (gts_snoc l k hlt)
      have hi64 := Lib.hid (HI.out l[k] (List.getElem_mem hlt)).1
      have HT := Lib.hid (take_snoc l k hlt)
      clear ca h0
      generalize l[k] = t at *
      obtain ⟨tk, tt, tn, tp⟩ := t
      simp only [gtCells] at HTS A0 A1 A2 A3 hi64
      have a0 := (hbel.cell (p := ⟨g, _, none⟩) hg).trans A0
      have a1 := (hbel.cell (p := ⟨g, _, none⟩) hg).trans A1
      have a2 := (hbel.cell (p := ⟨g, _, none⟩) hg).trans A2
      have a3 := (hbel.cell (p := ⟨g, _, none⟩) hg).trans A3
      have HA0 := Lib.hid A0
      have HA1 := Lib.hid A1
      have HA2 := Lib.hid A2
      have HA3 := Lib.hid A3
      clear A0 A1 A2 A3
      have z1 : (ByteArray.mk tt.toArray).size = tt.length := str_size _
      by_cases hbig : 60 < tt.length
      · go_wp2
        go_ret
        exact ⟨rfl, hbel⟩
      · have hz0 := hbel.size
        go_wp2_with (at_builtin; refine wpList_append_own _ rfl _ _ 23 rfl w.heap.size 37 i0 _ 4 40 Tryd.underlying23 ia ib ic id rfl (by omega) _ _ _ rfl (hown.alloc _) ⟨wr.heap.size, 0, none⟩ 1 1 [.int .i64 tk, .string ⟨tt.toArray⟩, .int .i64 tn, .int .i64 tp] rfl rfl ?c1 ?c2 ?c3 ?c4 ?c5 ?_)
        case c1 => exact cells_new4 wr _ _ _ _ _
        case c2 => intro u hu; simp at hu; rcases hu with rfl | rfl | rfl | rfl <;> rfl
        case c3 => unfold maxLen; omega
        case c4 => omega
        case c5 => simp; omega
        · intro v' w2 hown2 hg2 _
          have hb2 : Below w.heap.size w w2 := below_append (hbel.alloc (by omega) _) (by simp; omega) (hown.alloc _) hg2 (Nat.le_refl _)
          rw [← HTS.out] at hown2
          obtain ⟨m, hm⟩ : ∃ m, m = k + 1 := ⟨_, rfl⟩
          rw [← hm] at hown2
          obtain ⟨g2, c2, rfl, hg2', hc2⟩ := own_at hown2 (by omega)
          have hlen := gtsCells_length (l.take m)
          rw [List.length_take] at hlen
          have hkm : k < m := by omega
          have hml : m ≤ l.length := by omega
          have hcell := fun f (hf : f < 4) => (hc2 (k * 4 + f) (by omega))
          rw [hm, HTS.out] at hcell
          have hlk : (gtsCells (l.take k)).length = k * 4 := by rw [gtsCells_length, List.length_take]; omega
          have b0 : w2.cell? ⟨g2, k * 4, none⟩ = some (.int .i64 tk) := by rw [← Nat.add_zero (k * 4), hcell 0 (by decide), List.getElem?_append_right (by omega), hlk]; simp
          have b1 : w2.cell? ⟨g2, k * 4 + 1, none⟩ = some (.string ⟨tt.toArray⟩) := by rw [hcell 1 (by decide), List.getElem?_append_right (by omega), hlk]; simp
          have b2 : w2.cell? ⟨g2, k * 4 + 2, none⟩ = some (.int .i64 tn) := by rw [hcell 2 (by decide), List.getElem?_append_right (by omega), hlk]; simp
          have b3 : w2.cell? ⟨g2, k * 4 + 3, none⟩ = some (.int .i64 tp) := by rw [hcell 3 (by decide), List.getElem?_append_right (by omega), hlk]; simp
          have e0 := (hb2.cell (p := ⟨g, _, none⟩) hg).trans HA0.out
          have e1 := (hb2.cell (p := ⟨g, _, none⟩) hg).trans HA1.out
          have e2 := (hb2.cell (p := ⟨g, _, none⟩) hg).trans HA2.out
          have e3 := (hb2.cell (p := ⟨g, _, none⟩) hg).trans HA3.out
          have hgr : g < w2.heap.size := Nat.lt_of_lt_of_le hg hb2.size
          have hLr := Lib.hid (HL.out.below hb2)
          have HWC := Lib.hid (fun (W : World) (h : Laid W) => write_any tk tn tp tt W h hi64.out)
          have HWR := Lib.hid (fun (W : World) => rwrite_any tk tn tp tt W hi64.out)
          generalize (if tk = 2 then Lib.itoa tn else tt) = wl at HWC HWR
          have HOWN := Lib.hid hown2
          have H60 : Hid (∀ t ∈ l.take m, t.text.length ≤ 60) := Lib.hid (by
            rw [hm, HT.out]
            intro t ht
            rcases List.mem_append.1 ht with h1 | h1
            · exact h60.out t h1
            · simp only [List.mem_cons, List.not_mem_nil, or_false] at h1
              subst h1
              exact Nat.le_of_not_lt hbig)
          have HM := Lib.hid hm
          clear hm a0 a1 a2 a3 HA0 HA1 HA2 HA3 hg2 hown hown2 hbel hcell hlk hlen hc2 h60 HT HTS z1
          go_wp2
          go_region_held3 (fun w' => w'.cell? ⟨g2, k * 4, none⟩ = some (.int .i64 tk) ∧ w'.cell? ⟨g2, k * 4 + 1, none⟩ = some (.string ⟨tt.toArray⟩) ∧ w'.cell? ⟨g2, k * 4 + 2, none⟩ = some (.int .i64 tn) ∧ w'.cell? ⟨g2, k * 4 + 3, none⟩ = some (.int .i64 tp) ∧ w'.cell? ⟨g, off + k * 4, none⟩ = some (.int .i64 tk) ∧ w'.cell? ⟨g, off + k * 4 + 1, none⟩ = some (.string ⟨tt.toArray⟩) ∧ w'.cell? ⟨g, off + k * 4 + 2, none⟩ = some (.int .i64 tn) ∧ w'.cell? ⟨g, off + k * 4 + 3, none⟩ = some (.int .i64 tp) ∧ Below w2.heap.size w2 w')
            (first | assumption | exact ⟨b0, b1, b2, b3, e0, e1, e2, e3, below_drew (Below.refl _ _)⟩ | (refine held8 ?_ hb4 hg2' rfl rfl rfl hgr rfl rfl rfl; assumption))
            (first | (go_at_call 16; refine (HWC.out _ (laid8 hLr.out (by assumption))).mono ?_; rintro e w4 ⟨rfl, hb4⟩) | (go_at_call 18; refine (HWR.out _).mono ?_; rintro e w4 ⟨rfl, hb4⟩))
          all_goals (
            obtain ⟨_, _, _, _, _, _, _, _, hbF⟩ := ‹_ ∧ _ ∧ _ ∧ _ ∧ _ ∧ _ ∧ _ ∧ _ ∧ Below _ _ _›
            go_wp2
            go_roundw
            case rel => exact ⟨m, hml, by rw [HM.out]; go_num, own_below HOWN.out hbF, hb2.trans (hbF.mono hb2.size), H60⟩
            case measure => (have hm9 := HM.out; simp [intOf]; omega))
    · obtain rfl : k = l.length := by omega
      have e := Lib.hid (gts_all l)
      have e60 := Lib.hid (show l.take l.length = l from List.take_length)
      rw [e.out] at hown
      rw [e60.out] at h60
      have HJ := Lib.hid (gjoin_len l fun t ht => ⟨(HI.out t ht).1, h60.out t ht⟩)
      obtain ⟨A5, c5, rfl, _⟩ := own_shape hown
      have q5 := Row.of_own hown
      have qL := HR.out.below hbel
      have hII := Lib.hid (fun t ht => (HI.out t ht).1)
      clear hown h60
      go_wp2_with fail
      refine (isName_quiet s (by omega) _).mono ?_
      rintro e w4 ⟨rfl, rfl⟩
      go_wp2_with fail
      refine (risName_any s _ (by omega)).mono ?_
      rintro e w5 ⟨rfl, rfl⟩
      generalize Lex.isName s.data.toList = bn
      have hj : (gjoin l).length ≤ 1000000 := by have := HJ.out; omega
      cases bn
      · go_wp2_with fail
        refine (join_any l A5 c5 _ (HL.out.below hbel) q5 (by omega) hII.out hj).mono ?_
        rintro e w6 ⟨rfl, hb6⟩
        have qM := qL.below hb6
        have hb16 := hbel.trans (hb6.mono hbel.size)
        clear hbel hb6 qL q5
        go_wp2_with fail
        refine (rjoin_any l A cap _ qM (by omega) hII.out hj).mono ?_
        rintro e w7 ⟨rfl, hb7⟩
        have hb17 := hb16.trans (hb7.mono hb16.size)
        clear hb16 hb7 qM
        go_wp2
        go_ret
        exact ⟨rfl, hb17⟩
      · go_wp2_with fail
        refine (join_any l A5 c5 _ (HL.out.below hbel) q5 (by omega) hII.out hj).mono ?_
        rintro e w6 ⟨rfl, hb6⟩
        have qM := qL.below hb6
        have hb16 := hbel.trans (hb6.mono hbel.size)
        clear hbel hb6 qL q5
        go_wp2_with fail
        refine (rjoin_any l A cap _ qM (by omega) hII.out hj).mono ?_
        rintro e w7 ⟨rfl, hb7⟩
        have hb17 := hb16.trans (hb7.mono hb16.size)
        clear hb16 hb7 qM
        go_wp2
        go_ret
        exact ⟨rfl, hb17⟩

set_option maxRecDepth 100000 in
set_option maxHeartbeats 2000000 in
theorem lexWrite_walk (s : ByteArray) (A : Option Addr) (len cap : Nat) (l : List GT) (w : World) (hx : l.length = len ∧ (∀ x ∈ l, I64 x.n ∧ x.text.length ≤ maxLen) ∧ Row w A (l.flatMap gtCells) ∧ len ≤ maxLen ∧ len ≤ cap) (hL : Laid w) :
    Calls Tryd.prog 9 #[.string s, .slice A len cap] w fun e w' => e = .returned (.bool true) ∧ Below w.heap.size w w' := by
  obtain ⟨rfl, hx2, hx3, _, _⟩ := hx
  by_cases ha : s.size ≤ 60
  · by_cases hg : l.length ≤ 30
    · exact lexWrite_short s A l cap w ha hg hx3 hx2 hL
    · clear hx2 hx3 hL
      go_enter Tryd.func9, Tryd.ntmps9
      go_wp2_with (go_at_call 10; refine (awake_any _).mono ?_; rintro e w1 ⟨rfl, hb1⟩)
      go_ret
      exact ⟨rfl, hb1⟩
  · clear hx2 hx3 hL
    go_enter Tryd.func9, Tryd.ntmps9
    go_wp2_with (go_at_call 10; refine (awake_any _).mono ?_; rintro e w1 ⟨rfl, hb1⟩)
    go_ret
    exact ⟨rfl, hb1⟩
end Go.Proofs.YthcfkfehcmkhnaaDoor.LexW
