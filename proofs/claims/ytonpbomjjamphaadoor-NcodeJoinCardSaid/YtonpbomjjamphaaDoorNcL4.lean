/- The law NcodeJoin, walked. Conditions: the library's table of powers of ten holds what its text lays; the programs lie in memory. -/
import Derived.Test.YtonpbomjjamphaaDoorNcL3
import Derived.Test.YtonpbomjjamphaaDoorNcAw
import Derived.Test.YtonpbomjjamphaaDoorNcW5
import Derived.Test.YtonpbomjjamphaaDoorKept
namespace Go.Proofs.YtonpbomjjamphaaDoor.NcW
open Go Go.RowKit Go.Proofs.YtonpbomjjamphaaDoor.Mem

theorem stat_eq (s : Nc.St) : statV s = .agg #[.int .i64 s.rapid, .int .i64 s.cut, .int .i64 s.pierces, .int .i64 s.joints, .int .i64 (Nc.box s.pts).lx, .int .i64 (Nc.box s.pts).ly, .int .i64 (Nc.box s.pts).hx, .int .i64 (Nc.box s.pts).hy, .bool (decide (s.pts.length = 0))] := rfl

set_option maxRecDepth 100000 in
set_option maxHeartbeats 40000000 in
theorem ncodeJoin_good (a b c : List Nc.Mv) (A B C : Option Addr) (ca cb cc : Nat) (w : World) (hra : Row w A (a.flatMap mvCells)) (hrb : Row w B (b.flatMap mvCells)) (hrc : Row w C (c.flatMap mvCells)) (hla : a.length ≤ 60) (hlb : b.length ≤ 60) (hlc : c.length ≤ 60) (hva : Nc.valid a = true) (hvb : Nc.valid b = true) (hvc : Nc.valid c = true) (hL : Laid w) :
    Calls Tryd.prog 4 #[.slice A a.length ca, .slice B b.length cb, .slice C c.length cc] w fun e w' => e = .returned (.bool true) ∧ Below w.heap.size w w' := by
  have hta := till_le a
  have htb := till_le b
  have hlab := join_len a b
  have hlbc := join_len b c
  have htab := till_le (Nc.join a b)
  have hlx := join_len (Nc.join a b) c
  have hvab := join_valid hva hvb (by omega)
  have hvbc := join_valid hvb hvc (by omega)
  have HL := Lib.hid hL
  have HK0 := Lib.hid ((((Kept.start w).add hra).add hrb).add hrc)
  have HVA := Lib.hid (fun A k W h => rvalid_any a A k W h (by omega))
  have HVB := Lib.hid (fun A k W h => rvalid_any b A k W h (by omega))
  have HVC := Lib.hid (fun A k W h => rvalid_any c A k W h (by omega))
  rw [hva] at HVA
  rw [hvb] at HVB
  rw [hvc] at HVC
  have HOA := Lib.hid (fun A k W h => own_any a A k W h (by omega))
  have HOB := Lib.hid (fun A k W h => own_any b A k W h (by omega))
  have HOC := Lib.hid (fun A k W h => own_any c A k W h (by omega))
  have HJab := Lib.hid (fun A B k j W h1 h2 h3 => join_yes a b A B k j W h1 h2 hva hvb h3 (by omega))
  have HJbc := Lib.hid (fun A B k j W h1 h2 h3 => join_yes b c A B k j W h1 h2 hvb hvc h3 (by omega))
  have HJx := Lib.hid (fun A B k j W h1 h2 h3 => join_yes (Nc.join a b) c A B k j W h1 h2 hvab hvc h3 (by omega))
  have HJy := Lib.hid (fun A B k j W h1 h2 h3 => join_yes a (Nc.join b c) A B k j W h1 h2 hva hvbc h3 (by omega))
  rw [← join_assoc] at HJy
  have HJal := Lib.hid (fun A k W h1 h3 => join_yes a [] A none k 0 W h1 (Row.nil _ _) hva (by decide) h3 (by simp; omega))
  rw [join_nil] at HJal
  have HTx := Lib.hid (fun A k W h => theirs_any (Nc.join (Nc.join a b) c) A k W h (by omega))
  have HSx := Lib.hid (fun A B k j W h1 h2 => rsame_any (Nc.join (Nc.join a b) c) (Nc.join (Nc.join a b) c) A B k j W h1 h2 (by omega) (by omega))
  rw [same_iff.2 rfl] at HSx
  have HTal := Lib.hid (fun A k W h => theirs_any (Nc.till a) A k W h (by omega))
  have HSal := Lib.hid (fun A B k j W h1 h2 => rsame_any (Nc.till a) a A B k j W h1 h2 (by omega) (by omega))
  have HSa := Lib.hid (fun A k W h => summary_any a A k W h hva)
  have HSb := Lib.hid (fun A k W h => summary_any b A k W h hvb)
  have HSu := Lib.hid (fun A k W h => summary_any (Nc.join a b) A k W h hvab)
  have fa := Nc.fine_run (p := a) fun m hm => Nc.valid_ok hva hm
  have fb := Nc.fine_run (p := b) fun m hm => Nc.valid_ok hvb hm
  obtain ⟨_, _, ⟨fa1, fa2⟩, ⟨fa3, fa4⟩, _⟩ := fa
  obtain ⟨_, _, ⟨fb1, fb2⟩, ⟨fb3, fb4⟩, _⟩ := fb
  have HAT := Lib.hid (fun k h h1 h2 => till_at (a := a) (k := k) h h1 h2)
  have HNO : Hid ((∀ m ∈ a, isEnd m = false) → same (Nc.till a) a = true ∧ (Nc.run (Nc.join a b)).pierces = (Nc.run a).pierces + (Nc.run b).pierces ∧ (Nc.run (Nc.join a b)).joints = (Nc.run a).joints + (Nc.run b).joints) := Lib.hid (by
    intro h
    have e := till_none h
    unfold Nc.join
    rw [e]
    exact ⟨same_iff.2 rfl, run_app a b⟩)
  rw [stat_eq] at HSa HSb HSu
  clear hva hvb hvc hvab hvbc hra hrb hrc hL hta htb htab
  generalize Nc.join (Nc.join a b) c = x at *
  generalize (Nc.run a).rapid = s1 at *
  generalize (Nc.run a).cut = s2 at *
  generalize (Nc.run a).pierces = s3 at *
  generalize (Nc.run a).joints = s4 at *
  generalize Nc.box (Nc.run a).pts = bxs at *
  generalize decide ((Nc.run a).pts.length = 0) = ems at *
  generalize (Nc.run b).rapid = t1 at *
  generalize (Nc.run b).cut = t2 at *
  generalize (Nc.run b).pierces = t3 at *
  generalize (Nc.run b).joints = t4 at *
  generalize Nc.box (Nc.run b).pts = bxt at *
  generalize decide ((Nc.run b).pts.length = 0) = emt at *
  generalize (Nc.run (Nc.join a b)).rapid = u1 at *
  generalize (Nc.run (Nc.join a b)).cut = u2 at *
  generalize (Nc.run (Nc.join a b)).pierces = u3 at *
  generalize (Nc.run (Nc.join a b)).joints = u4 at *
  generalize Nc.box (Nc.run (Nc.join a b)).pts = bxu at *
  generalize decide ((Nc.run (Nc.join a b)).pts.length = 0) = emu at *
  generalize Nc.join a b = ab at *
  generalize Nc.join b c = bc at *
  generalize same (Nc.till a) a = sm at *
  generalize Nc.till a = al at *
  go_enter Tryd.func4, Tryd.ntmps4
  go_wp2_with fail
  refine (awake_any _ HL.out).mono ?_
  rintro e w1 ⟨rfl, hb⟩
  have HK1 := Lib.hid (HK0.out.below hb)
  clear hb
  go_wp2_with fail
  refine (HVA.out _ _ _ (HK1.out.r 0 rfl)).mono ?_
  rintro e w2 ⟨rfl, hb⟩
  have HK2 := Lib.hid (HK1.out.below hb)
  clear hb
  go_wp2_with fail
  refine (HVB.out _ _ _ (HK2.out.r 1 rfl)).mono ?_
  rintro e w3 ⟨rfl, hb⟩
  have HK3 := Lib.hid (HK2.out.below hb)
  clear hb
  go_wp2_with fail
  refine (HVC.out _ _ _ (HK3.out.r 2 rfl)).mono ?_
  rintro e w4 ⟨rfl, hb⟩
  have HK4 := Lib.hid (HK3.out.below hb)
  clear hb
  go_wp2_with fail
  refine (HOA.out _ _ _ (HK4.out.r 0 rfl)).mono ?_
  rintro e w5 ⟨⟨v, rfl, hown⟩, hb⟩
  obtain ⟨Aa1, ca1, rfl, hca1⟩ := own_shape hown
  have HK5 := Lib.hid ((HK4.out.below hb).add (Row.of_own hown))
  clear hown hb
  go_wp2_with fail
  refine (HOB.out _ _ _ (HK5.out.r 1 rfl)).mono ?_
  rintro e w6 ⟨⟨v, rfl, hown⟩, hb⟩
  obtain ⟨Ab1, cb1, rfl, hcb1⟩ := own_shape hown
  have HK6 := Lib.hid ((HK5.out.below hb).add (Row.of_own hown))
  clear hown hb
  go_wp2_with fail
  refine (HJab.out _ _ _ _ _ (HK6.out.r 3 rfl) (HK6.out.r 4 rfl) hca1).mono ?_
  rintro e w7 ⟨⟨v, rfl, hown⟩, hb⟩
  obtain ⟨Aab, cab, rfl, hcab⟩ := own_shape hown
  have HK7 := Lib.hid ((HK6.out.below hb).add (Row.of_own hown))
  clear hown hb
  go_wp2_with fail
  refine (HOB.out _ _ _ (HK7.out.r 1 rfl)).mono ?_
  rintro e w8 ⟨⟨v, rfl, hown⟩, hb⟩
  obtain ⟨Ab2, cb2, rfl, hcb2⟩ := own_shape hown
  have HK8 := Lib.hid ((HK7.out.below hb).add (Row.of_own hown))
  clear hown hb
  go_wp2_with fail
  refine (HOC.out _ _ _ (HK8.out.r 2 rfl)).mono ?_
  rintro e w9 ⟨⟨v, rfl, hown⟩, hb⟩
  obtain ⟨Ac2, cc2, rfl, hcc2⟩ := own_shape hown
  have HK9 := Lib.hid ((HK8.out.below hb).add (Row.of_own hown))
  clear hown hb
  go_wp2_with fail
  refine (HJbc.out _ _ _ _ _ (HK9.out.r 6 rfl) (HK9.out.r 7 rfl) hcb2).mono ?_
  rintro e w10 ⟨⟨v, rfl, hown⟩, hb⟩
  obtain ⟨Abc, cbc, rfl, hcbc⟩ := own_shape hown
  have HK10 := Lib.hid ((HK9.out.below hb).add (Row.of_own hown))
  clear hown hb
  go_wp2_with fail
  refine (HOC.out _ _ _ (HK10.out.r 2 rfl)).mono ?_
  rintro e w11 ⟨⟨v, rfl, hown⟩, hb⟩
  obtain ⟨Ac3, cc3, rfl, hcc3⟩ := own_shape hown
  have HK11 := Lib.hid ((HK10.out.below hb).add (Row.of_own hown))
  clear hown hb
  go_wp2_with fail
  refine (HJx.out _ _ _ _ _ (HK11.out.r 5 rfl) (HK11.out.r 9 rfl) hcab).mono ?_
  rintro e w12 ⟨⟨v, rfl, hown⟩, hb⟩
  obtain ⟨Ax, cx, rfl, hcx⟩ := own_shape hown
  have HK12 := Lib.hid ((HK11.out.below hb).add (Row.of_own hown))
  clear hown hb
  go_wp2_with fail
  refine (HOA.out _ _ _ (HK12.out.r 0 rfl)).mono ?_
  rintro e w13 ⟨⟨v, rfl, hown⟩, hb⟩
  obtain ⟨Aa4, ca4, rfl, hca4⟩ := own_shape hown
  have HK13 := Lib.hid ((HK12.out.below hb).add (Row.of_own hown))
  clear hown hb
  go_wp2_with fail
  refine (HJy.out _ _ _ _ _ (HK13.out.r 11 rfl) (HK13.out.r 8 rfl) hca4).mono ?_
  rintro e w14 ⟨⟨v, rfl, hown⟩, hb⟩
  obtain ⟨Ay, cy, rfl, hcy⟩ := own_shape hown
  have HK14 := Lib.hid ((HK13.out.below hb).add (Row.of_own hown))
  clear hown hb
  go_wp2_with fail
  refine (HOA.out _ _ _ (HK14.out.r 0 rfl)).mono ?_
  rintro e w15 ⟨⟨v, rfl, hown⟩, hb⟩
  obtain ⟨Aa5, ca5, rfl, hca5⟩ := own_shape hown
  have HK15 := Lib.hid ((HK14.out.below hb).add (Row.of_own hown))
  clear hown hb
  go_wp2_with fail
  refine (HJal.out _ _ _ (HK15.out.r 13 rfl) hca5).mono ?_
  rintro e w16 ⟨⟨v, rfl, hown⟩, hb⟩
  obtain ⟨Aal, cal, rfl, hcal⟩ := own_shape hown
  have HK16 := Lib.hid ((HK15.out.below hb).add (Row.of_own hown))
  clear hown hb
  go_wp2_with fail
  refine (HTx.out _ _ _ (HK16.out.r 10 rfl)).mono ?_
  rintro e w17 ⟨⟨v, rfl, hown⟩, hb⟩
  obtain ⟨Atx, ctx, rfl, hctx⟩ := own_shape hown
  have HK17 := Lib.hid ((HK16.out.below hb).add (Row.of_own hown))
  clear hown hb
  go_wp2_with fail
  refine (HTx.out _ _ _ (HK17.out.r 12 rfl)).mono ?_
  rintro e w18 ⟨⟨v, rfl, hown⟩, hb⟩
  obtain ⟨Aty, cty, rfl, hcty⟩ := own_shape hown
  have HK18 := Lib.hid ((HK17.out.below hb).add (Row.of_own hown))
  clear hown hb
  go_wp2_with fail
  refine (HSx.out _ _ _ _ _ (HK18.out.r 15 rfl) (HK18.out.r 16 rfl)).mono ?_
  rintro e w19 ⟨rfl, hb⟩
  have HK19 := Lib.hid (HK18.out.below hb)
  clear hb
  go_wp2
  go_loop [17] (fun t => ∃ k : Nat, k ≤ a.length ∧ t = .int .i64 k ∧ Hid (∀ m ∈ a.take k, isEnd m = false)) (fun t => a.length - (intOf t).toNat)
  case atStart => exact ⟨0, Nat.zero_le _, rfl, Lib.hid (by simp)⟩
  case round =>
    obtain ⟨k, hk, rfl, hd⟩ := hrel
    by_cases hlt : k < a.length
    · obtain ⟨g, off, rfl, hg, cells⟩ := row_get mv_len (by decide) (HK19.out.r 0 rfl) (by omega)
      have a0 := cells k hlt 0 (by decide)
      have hat := Lib.hid (HAT.out k hlt hd.out)
      have hnx : Hid (isEnd a[k] = false → ∀ m ∈ a.take (k + 1), isEnd m = false) := Lib.hid (by
        intro h m hm
        rw [take_snoc' a k hlt] at hm
        rcases List.mem_append.1 hm with h1 | h1
        · exact hd.out m h1
        · simp at h1; subst h1; exact h)
      clear cells
      generalize a[k] = m at *
      obtain ⟨mk, mx, my⟩ := m
      simp only [mvCells, List.getElem?_cons_zero, Nat.add_zero] at a0
      have he : isEnd ⟨mk, mx, my⟩ = (mk == 6) := rfl
      rw [he] at hat hnx
      clear he
      cases h6 : (mk == 6)
      · have hnx2 := Lib.hid (hnx.out h6)
        go_wp2
        go_round
        case rel => exact ⟨k + 1, hlt, by go_num, hnx2⟩
        case measure => simp [intOf]; omega
      · have hat2 := hat.out h6
        have hq : ((al.length : Int) == (k : Int)) = true := by rw [hat2]; simp
        clear hat2
        go_wp2
        go_ret
        exact ⟨rfl, HK19.out.bel⟩
    · obtain rfl : k = a.length := by omega
      have hno := HNO.out (by have := hd.out; rwa [List.take_length] at this)
      obtain ⟨rfl, rfl, rfl⟩ := hno
      clear hlt hk
      go_wp2_with fail
      refine (HOA.out _ _ _ (HK19.out.r 0 rfl)).mono ?_
      rintro e w20 ⟨⟨v, rfl, hown⟩, hb⟩
      obtain ⟨Aa6, ca6, rfl, hca6⟩ := own_shape hown
      have HK20 := Lib.hid ((HK19.out.below hb).add (Row.of_own hown))
      clear hown hb
      go_wp2_with fail
      refine (HSa.out _ _ _ (HK20.out.r 17 rfl)).mono ?_
      rintro e w21 ⟨rfl, hb⟩
      have hba := hb.alloc hb.size (.cells #[.int .i64 s1, .int .i64 s2, .int .i64 s3, .int .i64 s4, .int .i64 bxs.lx, .int .i64 bxs.ly, .int .i64 bxs.hx, .int .i64 bxs.hy, .bool ems] 36)
      have HK21 := Lib.hid ((HK20.out.below hba).addB (heap_alloc_new w21 (.cells #[.int .i64 s1, .int .i64 s2, .int .i64 s3, .int .i64 s4, .int .i64 bxs.lx, .int .i64 bxs.ly, .int .i64 bxs.hx, .int .i64 bxs.hy, .bool ems] 36)))
      clear hb hba
      go_wp2_with fail
      generalize w21.alloc (.cells #[.int .i64 s1, .int .i64 s2, .int .i64 s3, .int .i64 s4, .int .i64 bxs.lx, .int .i64 bxs.ly, .int .i64 bxs.hx, .int .i64 bxs.hy, .bool ems] 36) = W21 at *
      generalize hxs : w21.heap.size = xs at *
      have HXs := Lib.hid hxs
      clear hxs
      refine (HOB.out _ _ _ (HK21.out.r 1 rfl)).mono ?_
      rintro e w22 ⟨⟨v, rfl, hown⟩, hb⟩
      obtain ⟨Ab6, cb6, rfl, hcb6⟩ := own_shape hown
      have HK22 := Lib.hid ((HK21.out.below hb).add (Row.of_own hown))
      clear hown hb
      go_wp2_with fail
      refine (HSb.out _ _ _ (HK22.out.r 18 rfl)).mono ?_
      rintro e w23 ⟨rfl, hb⟩
      have hba := hb.alloc hb.size (.cells #[.int .i64 t1, .int .i64 t2, .int .i64 t3, .int .i64 t4, .int .i64 bxt.lx, .int .i64 bxt.ly, .int .i64 bxt.hx, .int .i64 bxt.hy, .bool emt] 36)
      have HK23 := Lib.hid ((HK22.out.below hba).addB (heap_alloc_new w23 (.cells #[.int .i64 t1, .int .i64 t2, .int .i64 t3, .int .i64 t4, .int .i64 bxt.lx, .int .i64 bxt.ly, .int .i64 bxt.hx, .int .i64 bxt.hy, .bool emt] 36)))
      clear hb hba
      go_wp2_with fail
      generalize w23.alloc (.cells #[.int .i64 t1, .int .i64 t2, .int .i64 t3, .int .i64 t4, .int .i64 bxt.lx, .int .i64 bxt.ly, .int .i64 bxt.hx, .int .i64 bxt.hy, .bool emt] 36) = W23 at *
      generalize hxt : w23.heap.size = xt at *
      have HXt := Lib.hid hxt
      clear hxt
      refine (HSu.out _ _ _ (HK23.out.r 5 rfl)).mono ?_
      rintro e w24 ⟨rfl, hb⟩
      have hba := hb.alloc hb.size (.cells #[.int .i64 u1, .int .i64 u2, .int .i64 (s3 + t3), .int .i64 (s4 + t4), .int .i64 bxu.lx, .int .i64 bxu.ly, .int .i64 bxu.hx, .int .i64 bxu.hy, .bool emu] 36)
      have HK24 := Lib.hid ((HK23.out.below hba).addB (heap_alloc_new w24 (.cells #[.int .i64 u1, .int .i64 u2, .int .i64 (s3 + t3), .int .i64 (s4 + t4), .int .i64 bxu.lx, .int .i64 bxu.ly, .int .i64 bxu.hx, .int .i64 bxu.hy, .bool emu] 36)))
      clear hb hba
      go_upto_region 20 with (fail)
      generalize w24.alloc (.cells #[.int .i64 u1, .int .i64 u2, .int .i64 (s3 + t3), .int .i64 (s4 + t4), .int .i64 bxu.lx, .int .i64 bxu.ly, .int .i64 bxu.hx, .int .i64 bxu.hy, .bool emu] 36) = W24 at *
      generalize hxu : w24.heap.size = xu at *
      have HXu := Lib.hid hxu
      clear hxu
      have sc2 : W24.cell? ⟨xs, 2, none⟩ = some (.int .i64 s3) := by rw [Lib.cell_of_heap (HK24.out.b 0 rfl)]; rfl
      have sc3 : W24.cell? ⟨xs, 3, none⟩ = some (.int .i64 s4) := by rw [Lib.cell_of_heap (HK24.out.b 0 rfl)]; rfl
      have tc2 : W24.cell? ⟨xt, 2, none⟩ = some (.int .i64 t3) := by rw [Lib.cell_of_heap (HK24.out.b 1 rfl)]; rfl
      have tc3 : W24.cell? ⟨xt, 3, none⟩ = some (.int .i64 t4) := by rw [Lib.cell_of_heap (HK24.out.b 1 rfl)]; rfl
      have uc2 : W24.cell? ⟨xu, 2, none⟩ = some (.int .i64 (s3 + t3)) := by rw [Lib.cell_of_heap (HK24.out.b 2 rfl)]; rfl
      have uc3 : W24.cell? ⟨xu, 3, none⟩ = some (.int .i64 (s4 + t4)) := by rw [Lib.cell_of_heap (HK24.out.b 2 rfl)]; rfl
      go_wp2_with fail
      refine (HTal.out _ _ _ (HK24.out.r 14 rfl)).mono ?_
      rintro e w25 ⟨⟨v, rfl, hown⟩, hb⟩
      obtain ⟨Atal, ctal, rfl, hctal⟩ := own_shape hown
      have HK25 := Lib.hid ((HK24.out.below hb).add (Row.of_own hown))
      clear hown hb
      go_wp2_with fail
      refine (HSal.out _ _ _ _ _ (HK25.out.r 19 rfl) (HK25.out.r 0 rfl)).mono ?_
      rintro e w26 ⟨rfl, hb⟩
      have HK26 := Lib.hid (HK25.out.below hb)
      clear hb
      go_wp2
      go_ret
      exact ⟨rfl, HK26.out.bel⟩
end Go.Proofs.YtonpbomjjamphaaDoor.NcW
