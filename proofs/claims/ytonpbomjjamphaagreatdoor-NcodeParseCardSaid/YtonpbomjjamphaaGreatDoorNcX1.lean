/- Walks: the reference's prefixes and numbers. Conditions: the texts have at most a million bytes. -/
import Derived.Test.YtonpbomjjamphaaGreatDoorNcQ3
import Derived.Test.YtonpbomjjamphaaGreatDoorRlE
import Derived.Test.YtonpbomjjamphaaGreatDoorNcR3
import Derived.Test.YtonpbomjjamphaaGreatDoorNcP6
import Derived.Deep.QuietTactic
import Derived.Deep.DeepCutAuto
import Derived.BigQuiet
namespace Go.Proofs.YtonpbomjjamphaaGreatDoor.NcW
open Go Go.RowKit Go.Proofs.YtonpbomjjamphaaGreatDoor.Mem

theorem has_take (s p : List UInt8) : Lib.hasPrefix s p = decide (s.take p.length = p) := by
  unfold Lib.hasPrefix
  rw [Bool.eq_iff_iff, List.isPrefixOf_iff_prefix, List.prefix_iff_eq_take, decide_eq_true_eq]
  exact ⟨fun h => h.symm, fun h => h.symm⟩
theorem str_drop (s : List UInt8) (q : Nat) : (ByteArray.mk s.toArray).extract q s.length = ⟨(s.drop q).toArray⟩ := by
  apply str_eq
  simp [ByteArray.data_extract]
  exact List.take_of_length_le (by simp)

theorem prefix_any (s p : List UInt8) (w : World) :
    Calls Tryz.prog 33 #[.string ⟨s.toArray⟩, .string ⟨p.toArray⟩] w (Returns w (.tuple #[.string ⟨(if Lib.hasPrefix s p = true then s.drop p.length else []).toArray⟩, .bool (Lib.hasPrefix s p)])) := by
  have zs : (ByteArray.mk s.toArray).size = s.length := str_size s
  have zp : (ByteArray.mk p.toArray).size = p.length := str_size p
  have hq : (((ByteArray.mk s.toArray).extract 0 (ByteArray.mk p.toArray).size).toList == (ByteArray.mk p.toArray).toList) = Lib.hasPrefix s p := by rw [zp, str_take, str_eql, has_take]
  have hd : (ByteArray.mk s.toArray).extract (ByteArray.mk p.toArray).size (ByteArray.mk s.toArray).size = ⟨(s.drop p.length).toArray⟩ := by rw [zs, zp]; exact str_drop s p.length
  have hlen : Lib.hasPrefix s p = true → (ByteArray.mk p.toArray).size ≤ (ByteArray.mk s.toArray).size := fun h => by
    rw [has_take, decide_eq_true_eq] at h
    have := congrArg List.length h
    simp at this
    omega
  cases hb : Lib.hasPrefix s p
  · rw [hb] at hq
    simp only [Bool.false_eq_true, if_false]
    clear hd hlen hb zs zp
    generalize (ByteArray.mk s.toArray) = SB at *
    generalize (ByteArray.mk p.toArray) = PB at *
    by_cases hl : SB.size < PB.size
    · go_enter Tryz.func33, Tryz.ntmps33
      go_wp2
      go_ret2
      exact ⟨rfl, rfl⟩
    · have hl2 : PB.size ≤ SB.size := by omega
      go_enter Tryz.func33, Tryz.ntmps33
      go_wp2
      go_ret2
      exact ⟨rfl, rfl⟩
  · rw [hb] at hq
    have hl2 := hlen hb
    simp only [if_true]
    rw [← hd]
    clear hd hlen hb zs zp
    generalize (ByteArray.mk s.toArray) = SB at *
    generalize (ByteArray.mk p.toArray) = PB at *
    have hl1 : ¬ SB.size < PB.size := by omega
    go_enter Tryz.func33, Tryz.ntmps33
    go_wp2
    go_ret2
    exact ⟨rfl, rfl⟩

theorem tok_good (d : List UInt8) (v : Int) (he : (Lex.tokens d).err = 0) (ht : (Lex.tokens d).toks = [⟨2, [], v, 0⟩]) (w : World) :
    Calls Tryz.prog 50 #[.string ⟨d.toArray⟩] w fun e w' => (∃ g c p, e = .returned (.tuple #[.slice (some ⟨g, 0, none⟩) 1 c, .int .i64 p, .int .i64 0]) ∧ g < w'.heap.size ∧ w'.cell? ⟨g, 2, none⟩ = some (.int .i64 v)) ∧ Below w.heap.size w w' :=
  (LexW.rtokens_any ⟨d.toArray⟩ w).mono fun e w' ⟨u, h1, h2, h3⟩ => by
    rw [ht] at h2
    rw [he] at h1
    obtain ⟨g, c, rfl, _, _, hg, ca⟩ := own_get (f := LexW.tokCells) (fun _ => rfl) rfl h2 (by simp)
    exact ⟨⟨g, c, _, h1, hg, by simpa [LexW.tokCells] using ca 0 (by simp) 2 (by decide)⟩, h3⟩
theorem tok_wrong (d : List UInt8) (h : (Lex.tokens d).err ≠ 0 ∨ (Lex.tokens d).toks.length ≠ 1) (w : World) :
    Calls Tryz.prog 50 #[.string ⟨d.toArray⟩] w fun e w' => (∃ A n c p j, e = .returned (.tuple #[.slice A n c, .int .i64 p, .int .i64 j]) ∧ (j ≠ 0 ∨ n ≠ 1)) ∧ Below w.heap.size w w' :=
  (LexW.rtokens_any ⟨d.toArray⟩ w).mono fun e w' ⟨u, h1, h2, h3⟩ => by
    obtain ⟨A, c, rfl, _⟩ := own_shape h2
    exact ⟨⟨A, _, c, _, _, h1, h⟩, h3⟩

set_option maxRecDepth 100000 in
set_option maxHeartbeats 2000000 in
theorem rnumber_any (s : List UInt8) (w : World) (hs : s.length ≤ 1000000) :
    Calls Tryz.prog 37 #[.string ⟨s.toArray⟩] w fun e w' => e = .returned (.tuple #[.int .i64 (if canon (span s) = true then cval (span s) else 0), .string ⟨(if canon (span s) = true then s.drop (span s).length else []).toArray⟩, .bool (canon (span s))]) ∧ Below w.heap.size w w' := by
  have zs : (ByteArray.mk s.toArray).size = s.length := str_size s
  have hst : (s.length = 0 ∧ start s = 0) ∨ (∃ h : 0 < s.length, start s = if ((s[0].toNat : Int) == 45) = true then 1 else 0) := by
    cases s with
    | nil => exact .inl ⟨rfl, rfl⟩
    | cons c r =>
      refine .inr ⟨by simp, ?_⟩
      unfold start
      simp only [List.head?_cons, List.getElem_cons_zero]
      by_cases h : c = 45
      · subst h; rfl
      · have e1 : (some c = some (45 : UInt8)) = False := by simp [h]
        have e2 : (((c.toNat : Int) == 45) = true) = False := eq_false (fun e => h (UInt8.toNat_inj.1 (by have := beq_iff_eq.1 e; show c.toNat = 45; omega)))
        simp only [e1, e2, if_false]
  have hsp := span_take s
  have hrun : ((s.drop (start s)).takeWhile Lex.digit).length = LexW.run Lex.digit ⟨s.toArray⟩ (start s) := rfl
  rw [hrun] at hsp
  have hle : start s + LexW.run Lex.digit ⟨s.toArray⟩ (start s) ≤ s.length := by
    have h1 : start s ≤ (ByteArray.mk s.toArray).size := by
      rw [zs]
      rcases hst with ⟨h, e⟩ | ⟨h, e⟩
      · omega
      · rw [e]; split <;> omega
    have := LexW.run_le Lex.digit ⟨s.toArray⟩ (start s) h1
    rwa [zs] at this
  have hspl : (span s).length = start s + LexW.run Lex.digit ⟨s.toArray⟩ (start s) := by rw [hsp]; simp; omega
  have hin := fun q => LexW.run_hit (p := Lex.digit) (s := ⟨s.toArray⟩) (q := q) (k := start s)
  have hstop := LexW.run_stop (p := Lex.digit) (s := ⟨s.toArray⟩) (k := start s) (q := LexW.run Lex.digit ⟨s.toArray⟩ (start s)) rfl
  have htk := tok_span s
  have hx := str_take s (start s + LexW.run Lex.digit ⟨s.toArray⟩ (start s))
  rw [← hsp] at hx
  have hdr := str_drop s (span s).length
  rw [hspl] at hdr
  rw [hspl]
  have HT1 : Hid (canon (span s) = true → ∀ W, Calls Tryz.prog 50 #[.string ((ByteArray.mk s.toArray).extract 0 (start s + LexW.run Lex.digit ⟨s.toArray⟩ (start s)))] W fun e w' => (∃ g c p, e = .returned (.tuple #[.slice (some ⟨g, 0, none⟩) 1 c, .int .i64 p, .int .i64 0]) ∧ g < w'.heap.size ∧ w'.cell? ⟨g, 2, none⟩ = some (.int .i64 (cval (span s)))) ∧ Below W.heap.size W w') :=
    Lib.hid (fun h W => by rw [hx]; exact tok_good _ _ (htk.1 h).1 (htk.1 h).2 W)
  have HT0 : Hid (canon (span s) = false → ∀ W, Calls Tryz.prog 50 #[.string ((ByteArray.mk s.toArray).extract 0 (start s + LexW.run Lex.digit ⟨s.toArray⟩ (start s)))] W fun e w' => (∃ A n c p j, e = .returned (.tuple #[.slice A n c, .int .i64 p, .int .i64 j]) ∧ (j ≠ 0 ∨ n ≠ 1)) ∧ Below W.heap.size W w') :=
    Lib.hid (fun h W => by rw [hx]; exact tok_wrong _ (htk.2 h) W)
  have hst2 : ((ByteArray.mk s.toArray).size = 0 ∧ start s = 0) ∨ (∃ h : 0 < (ByteArray.mk s.toArray).size, start s = if ((((ByteArray.mk s.toArray)[0]'h).toNat : Int) == 45) = true then 1 else 0) := by
    rcases hst with ⟨h, e⟩ | ⟨h, e⟩
    · exact .inl ⟨by rw [zs]; exact h, e⟩
    · exact .inr ⟨by rw [zs]; exact h, e⟩
  rw [← zs] at hle hs hdr
  clear hst hsp hrun htk hx zs hspl
  generalize hR : LexW.run Lex.digit ⟨s.toArray⟩ (start s) = R at *
  generalize start s = st at *
  have HDR := Lib.hid hdr
  clear hR hdr
  generalize hcn : canon (span s) = cn at *
  generalize cval (span s) = cv at *
  clear hcn
  rw [show (⟨(if cn = true then s.drop (st + R) else []).toArray⟩ : ByteArray) = if cn = true then (ByteArray.mk s.toArray).extract (st + R) (ByteArray.mk s.toArray).size else ⟨#[]⟩ by cases cn <;> simp [HDR.out]]
  clear HDR
  generalize (ByteArray.mk s.toArray) = SB at *
  have HIN := Lib.hid (fun (k : Nat) (h1 : st ≤ k) (h2 : k < st + R) => by
    have := hin (k - st) (by omega)
    rwa [show st + (k - st) = k by omega] at this)
  have HSTOP := Lib.hid hstop
  clear hin hstop
  have hst3 : (SB.size = 0 ∧ st = 0) ∨ (∃ h : 0 < SB.size, ((SB[0].toNat : Int) == 45) = true ∧ st = 1) ∨ (∃ h : 0 < SB.size, ((SB[0].toNat : Int) == 45) = false ∧ st = 0) := by
    rcases hst2 with h | ⟨h, e⟩
    · exact .inl h
    · cases hb : ((SB[0].toNat : Int) == 45)
      · rw [hb] at e; exact .inr (.inr ⟨h, hb, by simpa using e⟩)
      · rw [hb] at e; exact .inr (.inl ⟨h, hb, by simpa using e⟩)
  clear hst2
  go_enter Tryz.func37, Tryz.ntmps37
  go_upto_region 2 with (fail)
  go_cut [18] (fun c wc => c = .bool (decide (st = 1)) ∧ w = wc)
  case first =>
    rcases hst3 with ⟨z0, hs0⟩ | ⟨z0, z1, hs0⟩ | ⟨z0, z1, hs0⟩
    all_goals
      go_wp2
      go_meet
      exact ⟨by rw [hs0]; rfl, rfl⟩
  case rest =>
    obtain ⟨rfl, rfl⟩ := hcut
    go_upto_if 18 with (fail)
    go_cut [5] (fun t wc => t = .int .i64 (st : Int) ∧ w = wc)
    case first =>
      rcases (show st = 1 ∨ st = 0 by rcases hst3 with ⟨_, h⟩ | ⟨_, _, h⟩ | ⟨_, _, h⟩ <;> omega) with hs0 | hs0
      · have hb : decide (st = 1) = true := by simp [hs0]
        go_wp2
        go_meet
        exact ⟨by rw [hs0]; rfl, rfl⟩
      · have hb : decide (st = 1) = false := by simp [hs0]
        go_wp2
        go_meet
        exact ⟨by rw [hs0]; rfl, rfl⟩
    case rest =>
      obtain ⟨rfl, rfl⟩ := hcut
      go_wp2
      go_loop [5] (fun t => ∃ k : Nat, st ≤ k ∧ k ≤ st + R ∧ t = .int .i64 k) (fun t => st + R - (intOf t).toNat)
      case atStart => exact ⟨st, Nat.le_refl _, by omega, rfl⟩
      case round =>
        obtain ⟨k, hk1, hk2, rfl⟩ := hrel
        by_cases hlt : k < st + R
        · obtain ⟨hsz, hd⟩ := HIN.out k hk1 hlt
          have hdb := LexW.digit_bounds hd
          have b1 : decide ((48 : Int) ≤ (SB[k].toNat : Int)) = true := by simp; omega
          have b2 : decide ((SB[k].toNat : Int) ≤ 57) = true := by simp; omega
          clear hdb hd
          go_wp2
          go_round
          case rel => exact ⟨k + 1, by omega, by omega, by go_num⟩
          case measure => simp [intOf]; omega
        · obtain rfl : k = st + R := by omega
          have hex : (SB.size ≤ st + R) ∨ (∃ h : st + R < SB.size, decide ((48 : Int) ≤ (SB[st + R].toNat : Int)) = false) ∨ (∃ h : st + R < SB.size, decide ((48 : Int) ≤ (SB[st + R].toNat : Int)) = true ∧ decide ((SB[st + R].toNat : Int) ≤ 57) = false) := by
            rcases Nat.lt_or_ge (st + R) SB.size with h | h
            · have := HSTOP.out h
              simp only [Lex.digit, Bool.and_eq_false_imp, decide_eq_true_eq, decide_eq_false_iff_not] at this
              by_cases h48 : 48 ≤ SB[st + R].toNat
              · exact .inr (.inr ⟨h, by simp; omega, by have := this h48; simp; omega⟩)
              · exact .inr (.inl ⟨h, by simp; omega⟩)
            · exact .inl h
          cases cn
          · have HT := Lib.hid (HT0.out rfl)
            rcases hex with y0 | ⟨y0, y1⟩ | ⟨y0, y1, y2⟩
            all_goals
              go_wp2_with fail
              refine (HT.out _).mono ?_
              rintro e w5 ⟨⟨A, n, c, p, j, rfl, hjn⟩, hb5⟩
              by_cases hj : j = 0
              · subst hj
                have hn : n ≠ 1 := by simpa using hjn
                go_wp2
                go_ret3
                exact ⟨rfl, hb5⟩
              · have hj1 : (j == 0) = false := by simpa using hj
                go_wp2
                go_ret3
                exact ⟨rfl, hb5⟩
          · have HT := Lib.hid (HT1.out rfl)
            rcases hex with y0 | ⟨y0, y1⟩ | ⟨y0, y1, y2⟩
            all_goals
              go_wp2_with fail
              refine (HT.out _).mono ?_
              rintro e w5 ⟨⟨g, c, p, rfl, hg, hc⟩, hb5⟩
              go_wp2
              go_quiet (fail)
              go_wp2
              go_ret3
              exact ⟨rfl, below_drewN hb5 _⟩
end Go.Proofs.YtonpbomjjamphaaGreatDoor.NcW
